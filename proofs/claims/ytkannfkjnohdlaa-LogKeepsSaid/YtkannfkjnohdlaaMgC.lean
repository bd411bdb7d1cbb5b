/- the disk's iterator over its pending writes -/
import Derived.Test.YtkannfkjnohdlaaMgB
import Derived.Test.YtkannfkjnohdlaaMgA
namespace Go.Proofs.Ytkannfkjnohdlaa
open Go.RowKit Go.Pm

theorem run_index {P : Program} {t e : TypeId} {g off n c k size : Nat} {w : World} (ht : P.underlying t = some (.slice (P.elem t))) (hs : (sizeOf (P.elem t)).run P w = .ok size w) (hk : k < n) :
    (Instr.indexAt t (.slice (some ⟨g, off, none⟩) n c) (.int .i64 (k : Int))).run P w = .ok (.pointer (some ⟨g, off + k * size, none⟩)) w := by
  rw [run_indexAt_slice (h := ht), if_pos (by omega), hs]
  have : (⟨g, off, none⟩ : Addr).add (k * size) = ⟨g, off + k * size, none⟩ := by unfold Addr.add; split <;> simp_all
  simp [Result.andThen, this]

theorem pendCells_split (l : List (Nat × List UInt8)) (k : Nat) (hk : k < l.length) : pendCells l = pendCells (l.take k) ++ wrCells l[k] ++ pendCells (l.drop (k + 1)) := by
  have : l = l.take k ++ [l[k]] ++ l.drop (k + 1) := by simp
  conv => lhs; rw [this]
  simp only [pendCells, List.map_append, List.flatten_append, List.map_cons, List.map_nil, List.flatten_cons, List.flatten_nil, List.append_nil]
theorem pendCells_length {l : List (Nat × List UInt8)} (h : ∀ p ∈ l, p.2.length = 64) : (pendCells l).length = l.length * 65 := by
  induction l with
  | nil => rfl
  | cons p l ih =>
    have h1 := h p (by simp)
    have h2 := ih (fun q hq => h q (by simp [hq]))
    simp only [pendCells, List.map_cons, List.flatten_cons, List.length_append, List.length_cons] at h2 ⊢
    rw [h2]
    simp [wrCells, h1]
    omega

/-- a pending write and its number -/
abbrev PendEl (D : Disk) := { x : Nat × (Nat × List UInt8) // D.pend[x.1]? = some x.2 }
def pendEnc {D : Disk} (x : PendEl D) : Array Value := #[.int .i64 (x.1.1 : Int), .agg (wrCells x.1.2).toArray]
def numbered (D : Disk) : List (Nat × (Nat × List UInt8)) := D.pend.zipIdx.map (fun p => (p.2, p.1))
theorem numbered_length (D : Disk) : (numbered D).length = D.pend.length := by simp [numbered]
theorem numbered_get (D : Disk) (k : Nat) (hk : k < D.pend.length) : (numbered D)[k]? = some (k, D.pend[k]) := by
  simp [numbered, hk]
/-- what a round keeps: the block of the pending writes -/
def pendKept (vp : Value) (W W' : World) : Prop := W.heap.size ≤ W'.heap.size ∧ ∀ g, vp.ownBlock = some g → W'.heap[g]? = W.heap[g]?
theorem pendKept.tr {vp : Value} {A B C : World} (h : pendKept vp A B) (k : pendKept vp B C) : pendKept vp A C := ⟨Nat.le_trans h.1 k.1, fun g hg => (k.2 g hg).trans (h.2 g hg)⟩
theorem pendKept_owns {vp : Value} {W W' : World} {e : TypeId} {size n : Nat} {xs : List Value} (h : W.ownsRow 0 e size vp n xs) (k : pendKept vp W W') : W'.ownsRow 0 e size vp n xs := by
  refine ⟨h.1, ?_⟩
  rcases h.2 with h4 | ⟨g, cap, cur, rfl, hb, hg, h5⟩
  · exact .inl h4
  · exact .inr ⟨g, cap, cur, rfl, hb, (k.2 g rfl).trans hg, h5⟩
set_option maxRecDepth 100000 in
theorem sizeW (w : World) : (sizeOf (Try.prog.elem 85)).run Try.prog w = .ok 65 w := by kernel_rfl
theorem naD (w : World) : (isAgg 36).run Try.prog w = .ok false w := by kernel_rfl
set_option maxRecDepth 100000 in
/-- a pending write, where it lies -/
theorem pendLoad {w : World} {D : Disk} (hok : D.Ok) {vp : Value} (h : w.ownsRow 0 92 65 vp D.pend.length (pendCells D.pend)) (k : Nat) (hk : k < D.pend.length) :
    ∃ ad, (Instr.indexAt 85 vp (.int .i64 (k : Int))).run Try.prog w = .ok (.pointer (some ad)) w ∧ (Instr.loadAt 92 (.pointer (some ad))).run Try.prog w = .ok (.agg (wrCells D.pend[k]).toArray) w := by
  rcases h.2 with ⟨_, h0⟩ | ⟨g, cap, cur, rfl, _, hg, hnc, _, hcs, htake⟩
  · omega
  · refine ⟨_, run_index (e := 92) Try.underlying85 (sizeW w) hk, ?_⟩
    have hb : Blk w g (pendCells (D.pend.take k) ++ wrCells D.pend[k] ++ (pendCells (D.pend.drop (k + 1)) ++ cur.toList.drop (D.pend.length * 65))) 92 := by
      rw [← List.append_assoc, ← pendCells_split D.pend k hk, ← htake, List.take_append_drop]
      exact hg
    have hl : (wrCells D.pend[k]).length = 65 := by simp [wrCells, (hok.pend _ (List.getElem_mem hk)).2]
    refine run_load_mid (by rw [hl]; exact wideW) hb ?_
    rw [pendCells_length (fun p hp => (hok.pend p (List.mem_of_mem_take hp)).2), List.length_take, Nat.min_eq_left (Nat.le_of_lt hk)]
    omega
theorem wrCells_len {D : Disk} (hok : D.Ok) (k : Nat) (hk : k < D.pend.length) : (wrCells D.pend[k]).length = 65 := by simp [wrCells, (hok.pend _ (List.getElem_mem hk)).2]
/-- a variable for a write: laid, then filled -/
theorem storeNewW (w : World) (L : List Value) (hL : L.length = 65) (h1 : ∀ v ∈ L, v.oneCell' = true) :
    (Instr.storeAt 92 (.pointer (some ⟨w.heap.size, 0, none⟩)) (.agg L.toArray)).run Try.prog (w.alloc (.cells (.int .i64 0 :: z64).toArray 92)) = .ok () (w.alloc (.cells L.toArray 92)) := by
  have hst := run_store_mid (P := Try.prog) (t := 92) (b := w.heap.size) (off := 0) (pre := []) (mid := .int .i64 0 :: z64) (post := []) (new := L) (w := w.alloc (.cells (.int .i64 0 :: z64).toArray 92)) (e := 92)
    (by rw [hL]; exact wideW.size) (by simpa using blk_new w (.int .i64 0 :: z64) 92) rfl (by rw [hL, List.length_cons, z64_len]) h1
  have : setBlk (w.alloc (.cells (.int .i64 0 :: z64).toArray 92)) w.heap.size ([] ++ L ++ []) = w.alloc (.cells L.toArray 92) := by
    unfold setBlk
    rw [World.setRow_alloc_new]
    simp
  rw [this] at hst
  exact hst
theorem loadNewW (w : World) (L : List Value) (hL : L.length = 65) : (Instr.loadAt 92 (.pointer (some ⟨w.heap.size, 0, none⟩))).run Try.prog (w.alloc (.cells L.toArray 92)) = .ok (.agg L.toArray) (w.alloc (.cells L.toArray 92)) :=
  run_load_mid (pre := []) (post := []) (mid := L) (by rw [hL]; exact wideW) (by simpa using blk_new w L 92) rfl
theorem pendSlice {w : World} {e : TypeId} {size : Nat} {vp : Value} {n : Nat} {xs : List Value} (h : w.ownsRow 0 e size vp n xs) : ∃ ad c, vp = .slice ad n c := by
  rcases h.2 with ⟨rfl, rfl⟩ | ⟨g, cap, cur, rfl, _⟩
  · exact ⟨_, _, rfl⟩
  · exact ⟨_, _, rfl⟩
set_option maxRecDepth 100000 in
set_option maxHeartbeats 1000000 in
theorem diskWrites (w : World) (ad : Option Addr) :
    Calls Try.prog 46 #[.pointer ad] w fun e w' => e = .returned (.func (.func 57) #[] #[.pointer (some ⟨w.heap.size, 0, none⟩)]) ∧ w' = w.alloc (.cells #[.pointer ad] 36) := by
  go_enter Try.func46, Try.ntmps46
  go_wp2_with fail
  go_ret
  exact ⟨rfl, rfl⟩

set_option maxRecDepth 100000 in
set_option maxHeartbeats 400000 in
theorem diskIter (w : World) (p : Nat) (D : Disk) (F : List Nat) (gd : Nat) (vp : Value) (hD : DiskParts w p D F gd vp) (B m : Nat) (hB : w.cell? ⟨B, 0, none⟩ = some (.pointer (some ⟨p, 0, none⟩))) (hBl : B < w.heap.size) (hlen : D.pend.length ≤ 2000000000) :
    SeqStopsK Fence.wide m Try.prog 57 #[.pointer (some ⟨B, 0, none⟩)] pendEnc (pendKept vp) (fun xs : List (PendEl D) => xs.map (·.1) = numbered D) (fun _ => True) D.pend.length w := by
  intro l J Jx W hW hJ hJx hY h0
  have hsame : ∀ k, k < w.heap.size → W.heap[k]? = w.heap[k]? := hW.block
  have hcB : W.cell? ⟨B, 0, none⟩ = some (.pointer (some ⟨p, 0, none⟩)) := (World.cell?_of_block (hsame B hBl)).trans hB
  have hcp : W.cell? ⟨p, 0 + 1, none⟩ = some vp := by
    have : Blk W p _ 87 := (hsame p hD.blk.lt).trans hD.blk
    rw [this.cell]; rfl
  have hrow : W.ownsRow 0 92 65 vp D.pend.length (pendCells D.pend) := ownsRow_ext hD.pend hW
  obtain ⟨vad, vc, hvp⟩ := pendSlice hrow
  have hok := hD.ok
  refine callsIn_of_wp Try.func57 rfl trivial ?_ rfl
  simp only [Try.ntmps57, List.size_toArray, List.length_cons, List.length_nil, Nat.reduceAdd, Nat.reduceSub, Array.replicate_succ, Array.replicate_zero, List.push_toArray, List.append_toArray, List.nil_append, List.cons_append]
  (repeat ((fail_if_success refine wpIn_region_lit ?_); (fail_if_success refine wpIn_cond (t := true) ?_ ?_); gi_step))
  refine wpIn_region_lit ?_
  refine wpi_ex (fun _ => trivial) rfl rfl (ex_load rfl rfl (run_load1 naD hcB)) ?_
  refine wpi_ex (fun _ => trivial) rfl rfl (ex_nil rfl rfl) ?_
  refine wpi_ex (fun _ => trivial) rfl rfl (ex_field rfl rfl (faD1 _ _ _)) ?_
  refine wpi_ex (fun _ => trivial) rfl rfl (ex_load rfl rfl (run_load1 naP hcp)) ?_
  refine wpi_ex (fun _ => trivial) rfl rfl (ex_len Try.underlying85 rfl hvp) ?_
  refine wpi_ex (fun _ => trivial) rfl rfl (ex_move (v := .int .i64 0) rfl rfl) ?_
  refine wpListIn_nil ?_
  simp only [Act.put, List.setIfInBounds_toArray, List.set_cons_succ, List.set_cons_zero]
  (repeat ((fail_if_success refine wpIn_region_lit ?_); (fail_if_success refine wpIn_cond (t := true) ?_ ?_); gi_step))
  gi_loopw [10] (fun x wr => ∃ (k : Nat) (pre : List (PendEl D)), x = .int .i64 (k : Int) ∧ k ≤ D.pend.length ∧ pre.map (·.1) = (numbered D).take k ∧ J pre wr ∧ pendKept vp W wr) (fun x _ => D.pend.length - (intOf x).toNat)
  case atStart => exact ⟨0, [], rfl, by omega, by simp, h0, Nat.le_refl _, fun _ _ => rfl⟩
  case round =>
    obtain ⟨k, pre, rfl, hk, hpre, hJk, hkept⟩ := hrel
    have hpl : pre.length = k := by
      have := congrArg List.length hpre
      rw [List.length_map, List.length_take, numbered_length] at this
      omega
    by_cases hlt : k < D.pend.length
    · (repeat ((fail_if_success refine wpIn_region_lit ?_); (fail_if_success refine wpIn_cond (t := true) ?_ ?_); gi_step))
      refine wpIn_region_lit ?_
      refine wpi_ex (fun _ => trivial) rfl rfl (ex_bin (v := .bool true) rfl rfl rfl (by simp [go_sem]) (by simp [go_sem, hlt])) ?_
      refine wpListIn_nil ?_
      simp only [Act.put, List.setIfInBounds_toArray, List.set_cons_succ, List.set_cons_zero]
      (repeat ((fail_if_success refine wpIn_region_lit ?_); (fail_if_success refine wpIn_cond (t := true) ?_ ?_); gi_step))
      refine wpIn_cond_true rfl ?_
      (repeat ((fail_if_success refine wpIn_region_lit ?_); (fail_if_success refine wpIn_cond (t := true) ?_ ?_); gi_step))
      obtain ⟨ad, hidx, hld⟩ := pendLoad hok (pendKept_owns hrow hkept) k hlt
      have hwl := wrCells_len hok k hlt
      have hw1 := wrCells_one D.pend[k]
      have hx : D.pend[k]? = some D.pend[k] := List.getElem?_eq_getElem hlt
      have hnum : (numbered D)[k]? = some (k, D.pend[k]) := numbered_get D k hlt
      generalize D.pend[k] = x at *
      refine wpIn_region_lit ?_
      refine wpi_ex (fun _ => trivial) rfl rfl (ex_move (v := .int .i64 (k : Int)) rfl rfl) ?_
      refine wpi_ex (fun _ => trivial) rfl rfl (ex_index rfl rfl rfl hidx) ?_
      refine wpi_ex (fun _ => trivial) rfl rfl (ex_load rfl rfl hld) ?_
      refine wpi_ex (fun _ => trivial) rfl rfl (ex_alloc rfl (allocW _)) ?_
      refine wpi_ex (fun _ => trivial) rfl rfl (ex_assign (v := .int .i64 (k : Int)) rfl rfl) ?_
      refine wpi_exU (fun _ => trivial) rfl rfl (ex_store rfl rfl rfl (storeNewW wr (wrCells x) hwl hw1)) ?_
      refine wpListIn_nil ?_
      simp only [Act.put, List.setIfInBounds_toArray, List.set_cons_succ, List.set_cons_zero]
      (repeat ((fail_if_success refine wpIn_region_lit ?_); (fail_if_success refine wpIn_cond (t := true) ?_ ?_); gi_step))
      have hJ1 : J pre (wr.alloc (.cells (wrCells x).toArray 92)) := hJ pre wr _ none hJk (World.grownBy_alloc wr _ none) (fun r e => by cases e)
      have hk1 : pendKept vp W (wr.alloc (.cells (wrCells x).toArray 92)) := hkept.tr ⟨by simp, fun g hg => heap_old wr _ g (by
        rcases hrow.2 with ⟨rfl, _⟩ | ⟨g', cap, cur, rfl, _, hg', _⟩
        · cases hg
        · cases hg
          exact Nat.lt_of_lt_of_le (Array.getElem?_eq_some_iff.1 hg').1 hkept.1)⟩
      have hyl := hY pre ⟨(k, x), hx⟩ _ hJ1 (by omega)
      refine wpIn_region_lit ?_
      refine wpi_ex (fun _ => trivial) rfl rfl (ex_move (v := .func (.yield l) #[] #[]) rfl rfl) ?_
      refine wpi_ex (fun _ => trivial) rfl rfl (ex_move (v := .int .i64 (k : Int)) rfl rfl) ?_
      refine wpi_ex (fun _ => trivial) rfl rfl (ex_load rfl rfl (loadNewW wr (wrCells x) hwl)) ?_
      refine wpi_yield (args := #[.int .i64 (k : Int), .agg (wrCells x).toArray]) (fun _ => trivial) rfl rfl rfl rfl (by simp only [List.map_toArray, List.map_cons, List.map_nil]; rfl) hyl ?_
      rintro e W3 (⟨rfl, hJ3, hk3⟩ | ⟨rfl, hJx3⟩)
      · refine ⟨_, rfl, ?_⟩
        refine wpi_ex (fun _ => trivial) rfl rfl (ex_un (v := .bool false) rfl rfl (by simp [go_sem])) ?_
        refine wpListIn_nil ?_
        simp only [Act.put, List.setIfInBounds_toArray, List.set_cons_succ, List.set_cons_zero]
        (repeat ((fail_if_success refine wpIn_region_lit ?_); (fail_if_success refine wpIn_cond (t := true) ?_ ?_); gi_step))
        refine wpIn_cond_false rfl ?_
        (repeat ((fail_if_success refine wpIn_region_lit ?_); (fail_if_success refine wpIn_cond (t := true) ?_ ?_); gi_step))
        refine wpIn_region_lit ?_
        refine wpi_ex (fun _ => trivial) rfl rfl (ex_bin (v := .int .i64 ((k : Int) + 1)) rfl rfl rfl (by simp [go_sem]) (by simp [go_sem, IntKind.wrap_i64]; omega)) ?_
        refine wpi_ex (fun _ => trivial) rfl rfl (ex_move (v := .int .i64 ((k : Int) + 1)) rfl rfl) ?_
        refine wpListIn_nil ?_
        simp only [Act.put, List.setIfInBounds_toArray, List.set_cons_succ, List.set_cons_zero]
        (repeat ((fail_if_success refine wpIn_region_lit ?_); (fail_if_success refine wpIn_cond (t := true) ?_ ?_); gi_step))
        go_roundw
        case rel => exact ⟨k + 1, pre ++ [⟨(k, x), hx⟩], by simp, hlt, by rw [List.map_append, hpre, List.take_add_one, hnum]; rfl, hJ3, hk1.tr hk3⟩
        case measure => show D.pend.length - ((k : Int) + 1).toNat < D.pend.length - (k : Int).toNat; omega
      · refine ⟨_, rfl, ?_⟩
        refine wpi_ex (fun _ => trivial) rfl rfl (ex_un (v := .bool true) rfl rfl (by simp [go_sem])) ?_
        refine wpListIn_nil ?_
        simp only [Act.put, List.setIfInBounds_toArray, List.set_cons_succ, List.set_cons_zero]
        (repeat ((fail_if_success refine wpIn_region_lit ?_); (fail_if_success refine wpIn_cond (t := true) ?_ ?_); gi_step))
        refine wpIn_cond_true rfl ?_
        (repeat ((fail_if_success refine wpIn_region_lit ?_); (fail_if_success refine wpIn_cond (t := true) ?_ ?_); gi_step))
        refine bodyPost_ret (results_none rfl _ _ _) rfl ?_
        exact ⟨⟨_, rfl⟩, .inr ⟨_, trivial, hJx3⟩⟩
    · obtain rfl : k = D.pend.length := by omega
      (repeat ((fail_if_success refine wpIn_region_lit ?_); (fail_if_success refine wpIn_cond (t := true) ?_ ?_); gi_step))
      refine wpIn_region_lit ?_
      refine wpi_ex (fun _ => trivial) rfl rfl (ex_bin (v := .bool false) rfl rfl rfl (by simp [go_sem]) (by simp [go_sem])) ?_
      refine wpListIn_nil ?_
      simp only [Act.put, List.setIfInBounds_toArray, List.set_cons_succ, List.set_cons_zero]
      (repeat ((fail_if_success refine wpIn_region_lit ?_); (fail_if_success refine wpIn_cond (t := true) ?_ ?_); gi_step))
      refine wpIn_cond_false rfl ?_
      (repeat ((fail_if_success refine wpIn_region_lit ?_); (fail_if_success refine wpIn_cond (t := true) ?_ ?_); gi_step))
      go_end0
      exact ⟨⟨_, rfl⟩, .inl ⟨pre, by rw [hpre, List.take_of_length_le (by rw [numbered_length]; exact Nat.le_refl _)], hJk⟩⟩
end Go.Proofs.Ytkannfkjnohdlaa
/- disk.Sync -/
namespace Go.Proofs.Ytkannfkjnohdlaa
open Go.RowKit Go.Pm

theorem callWrites : Callable Try.prog 46 := ⟨_, Try.func46, by kernel_rfl, by kernel_rfl⟩
theorem callCall : Callable Try.prog 45 := ⟨_, Try.func45, by kernel_rfl, by kernel_rfl⟩
set_option maxRecDepth 100000 in
theorem sizeS (w : World) : (sizeOf (Try.prog.elem 84)).run Try.prog w = .ok 64 w := by kernel_rfl
theorem durCells_split (l : List (List UInt8)) (k : Nat) (hk : k < l.length) : durCells l = durCells (l.take k) ++ l[k].map B8 ++ durCells (l.drop (k + 1)) := by
  have : l = l.take k ++ [l[k]] ++ l.drop (k + 1) := by simp
  conv => lhs; rw [this]
  simp only [durCells, List.map_append, List.flatten_append, List.map_cons, List.map_nil, List.flatten_cons, List.flatten_nil, List.append_nil]
theorem durCells_set (l : List (List UInt8)) (k : Nat) (hk : k < l.length) (s : List UInt8) : durCells (l.set k s) = durCells (l.take k) ++ s.map B8 ++ durCells (l.drop (k + 1)) := by
  rw [durCells_split (l.set k s) k (by simpa using hk)]
  rw [List.take_set, List.set_eq_of_length_le (by simp; omega)]
  simp [List.drop_set]
theorem durCells_length {l : List (List UInt8)} (h : ∀ p ∈ l, p.length = 64) : (durCells l).length = l.length * 64 := by
  induction l with
  | nil => rfl
  | cons p l ih =>
    have h1 := h p (by simp)
    have h2 := ih (fun q hq => h q (by simp [hq]))
    simp only [durCells, List.map_cons, List.flatten_cons, List.length_append, List.length_cons] at h2 ⊢
    rw [h2]
    simp [h1]
    omega
theorem storeSec {w : World} {gd : Nat} {d : List (List UInt8)} (hb : Blk w gd (durCells d) 90) (hd : ∀ s ∈ d, s.length = 64) (k : Nat) (hk : k < d.length) (s : List UInt8) (hs : s.length = 64) :
    (Instr.storeAt 90 (.pointer (some ⟨gd, 0 + k * 64, none⟩)) (.agg (s.map B8).toArray)).run Try.prog w = .ok () (setBlk w gd (durCells (d.set k s))) := by
  rw [durCells_split d k hk] at hb
  rw [durCells_set d k hk s]
  refine run_store_mid (by rw [List.length_map, hs]; exact wideS.size) hb ?_ (by simp [hs, hd _ (List.getElem_mem hk)]) (oneCell_bytes s)
  rw [durCells_length (fun s hs => hd s (List.mem_of_mem_take hs)), List.length_take, Nat.min_eq_left (Nat.le_of_lt hk)]
  omega
/-- while a sector is put -/
def PutJ (W : World) (gd : Nat) (d : List (List UInt8)) (x : Nat × List UInt8) : List Value → World → Prop
  | [], w => Ext W w
  | _, w => Only [gd] W w ∧ Blk w gd (durCells (Disk.put d x)) 90
theorem putJ_ext {W : World} {gd : Nat} {d : List (List UInt8)} {x : Nat × List UInt8} : ∀ vals w w', PutJ W gd d x vals w → Ext w w' → PutJ W gd d x vals w'
  | [], _, _, h, he => h.tr he
  | _ :: _, _, _, ⟨h1, h2⟩, he => ⟨only_then h1 he, h2.ext he⟩
/-- a disk's post -/
def DiskTo (F : List Nat) (w w' : World) (p : Nat) (D : Disk) : Prop := ∃ F', DiskAt w' p D F' ∧ Only F w w' ∧ ∀ k ∈ F', k ∈ F ∨ w.heap.size ≤ k

theorem DiskParts.same {w w' : World} {p : Nat} {D : Disk} {F : List Nat} {gd : Nat} {vp : Value} (h : DiskParts w p D F gd vp) (hs : ∀ k ∈ F, w'.heap[k]? = w.heap[k]?) : DiskParts w' p D F gd vp := by
  have hF := h.eqF
  refine ⟨h.ok, hF, h.nd, (hs p (by simp [hF])).trans h.blk, (hs gd (by simp [hF])).trans h.dur, h.pend.1, ?_⟩
  rcases h.pend.2 with h4 | ⟨g, cap, cur, e, hb, hg, h5⟩
  · exact .inl h4
  · exact .inr ⟨g, cap, cur, e, hb, (hs g (by simp [hF, e, Value.ownBlock])).trans hg, h5⟩
theorem DiskParts.ne {w : World} {p : Nat} {D : Disk} {F : List Nat} {gd : Nat} {vp : Value} (h : DiskParts w p D F gd vp) : p ≠ gd ∧ (∀ g, vp.ownBlock = some g → g ≠ p ∧ g ≠ gd) ∧ p ∈ F ∧ gd ∈ F ∧ ∀ g, vp.ownBlock = some g → g ∈ F := by
  have hnd := h.nd
  have hF := h.eqF
  subst hF
  simp only [List.nodup_cons, List.mem_cons, Option.mem_toList, not_or] at hnd
  exact ⟨hnd.1.1, fun g hg => ⟨fun e => hnd.1.2 (e ▸ hg), fun e => hnd.2.1 (e ▸ hg)⟩, by simp, by simp, fun g hg => by simp [hg]⟩
/-- a sector put: the disk's parts -/
theorem DiskParts.put {W w : World} {p : Nat} {D : Disk} {F : List Nat} {gd : Nat} {vp : Value} (h : DiskParts W p D F gd vp) {x : Nat × List UInt8} (hx : x.2.length = 64) (ho : Only [gd] W w) (hb : Blk w gd (durCells (Disk.put D.dur x)) 90) : DiskParts w p { D with dur := Disk.put D.dur x } F gd vp := by
  obtain ⟨n1, n2, _, _, _⟩ := h.ne
  have hl : (Disk.put D.dur x).length = D.dur.length := by simp [Disk.put]
  refine ⟨⟨?_, ?_, ?_, ?_, h.ok.left1, h.ok.left2⟩, h.eqF, h.nd, ?_, hb, ownsRow_only h.pend ho (fun g hg => by simpa using (n2 g hg).2)⟩
  · intro s hs
    rcases List.mem_or_eq_of_mem_set hs with h1 | h1
    · exact h.ok.dur s h1
    · rw [h1]; exact hx
  · simp only [hl]; exact h.ok.pos
  · simp only [hl]; exact h.ok.max
  · simp only [hl]; exact h.ok.pend
  · simp only [hl]; exact h.blk.only ho (by simpa using n1)
/-- pending writes forgotten -/
theorem clearPend {W : World} {p : Nat} {D : Disk} {F : List Nat} {gd : Nat} {vp : Value} (h : DiskParts W p D F gd vp) :
    (Instr.storeAt 85 (.pointer (some ⟨p, 0 + 1, none⟩)) (.slice none 0 0)).run Try.prog W = .ok () (setBlk W p [.slice (some ⟨gd, 0, none⟩) D.dur.length D.dur.length, .slice none 0 0, .int .i64 D.left]) ∧
    DiskParts (setBlk W p [.slice (some ⟨gd, 0, none⟩) D.dur.length D.dur.length, .slice none 0 0, .int .i64 D.left]) p { D with pend := [] } [p, gd] gd (.slice none 0 0) := by
  obtain ⟨n1, n2, _, _, _⟩ := h.ne
  refine ⟨?_, ⟨h.ok.dur, h.ok.pos, h.ok.max, fun q hq => by simp at hq, h.ok.left1, h.ok.left2⟩, rfl, by simpa using n1, h.blk.set _, h.dur.setOther (fun e => n1 e.symm) _, World.ownsRow_nil _ _ _ _⟩
  have hst := run_storeCells_at Try.prog p 1 87 [.slice none 0 0] 0 _ W h.blk (by simp) (by simp [Value.oneCell'])
  have hz : (sizeOf 85).run Try.prog W = .ok 1 W := by kernel_rfl
  simp only [Instr.storeAt, Instr.sureAddr, storeVar]
  simp [hz, Value.cells]
  simpa using hst
theorem _root_.Go.Pm.Only.putObj {F : List Nat} {a w : World} (h : Only F a w) {b : Nat} (hb : a.heap.size ≤ b) (o : Obj) : Only F a (w.putObj b o) :=
  ⟨h.os, h.tape, h.output, by simpa using h.size, fun k hk hn => (World.putObj_heap_other (by omega)).trans (h.block k hk hn)⟩
theorem numbered_snd (D : Disk) : (numbered D).map (·.2) = D.pend := by
  unfold numbered
  rw [List.map_map]
  exact List.zipIdx_map_fst 0 D.pend
/-- a write's cells, read -/
theorem loadW0 {w : World} {b : Nat} {x : Nat × List UInt8} (h : Blk w b (wrCells x) 92) : (Instr.loadAt 3 (.pointer (some ⟨b, 0, none⟩))).run Try.prog w = .ok (.int .i64 (x.1 : Int)) w :=
  run_load1 naI (h.cell 0)
theorem loadW1 {w : World} {b : Nat} {x : Nat × List UInt8} (hx : x.2.length = 64) (h : Blk w b (wrCells x) 92) : (Instr.loadAt 90 (.pointer (some ⟨b, 0 + 1, none⟩))).run Try.prog w = .ok (.agg (x.2.map B8).toArray) w :=
  run_load_mid (pre := [.int .i64 (x.1 : Int)]) (post := []) (mid := x.2.map B8) (by rw [List.length_map, hx]; exact wideS) (by simpa [wrCells] using h) rfl
theorem pendEl_len {D : Disk} (hok : D.Ok) (x : PendEl D) : x.1.2.1 < D.dur.length ∧ x.1.2.2.length = 64 := hok.pend _ (List.mem_of_getElem? x.2)

set_option maxRecDepth 100000 in
set_option maxHeartbeats 1000000 in
theorem diskSyncOff (w : World) (p : Nat) (D : Disk) (F : List Nat) (hD : DiskAt w p D F) (hl : D.left = 0) :
    Calls Try.prog 24 #[.pointer (some ⟨p, 0, none⟩)] w fun e w' => e = .returned (.int .i64 20) ∧ DiskTo F w w' p D := by
  have hD1 := Lib.hid (hD.ext ((Below.refl w.heap.size w).alloc (Nat.le_refl _) (.cells #[.pointer (some ⟨p, 0, none⟩)] 36)))
  have ht : Hid (D.tick = D) := by show D.tick = D; unfold Disk.tick; rw [if_neg (by omega)]
  have hb : Hid ((D.left != 0) = false) := by show (D.left != 0) = false; simp [hl]
  clear hD hl
  go_enter Try.func24, Try.ntmps24
  go_wp2_with fail
  refine (diskCall _ p D F hD1.out).mono ?_
  rintro e w1 ⟨rfl, hD2, ho1⟩
  rw [hb.out]
  rw [ht.out] at hD2
  have hD2 := Lib.hid hD2
  have ho1 := Lib.hid ho1
  go_wp2_with fail
  go_ret
  exact ⟨rfl, F, hD2.out, (Only.refl F w).alloc (.cells #[.pointer (some ⟨p, 0, none⟩)] 36) |>.trans ho1.out (fun i _ h => h), fun k hk => .inl hk⟩

set_option maxRecDepth 100000 in
set_option maxHeartbeats 1000000 in
theorem diskSyncOk (w : World) (p : Nat) (D : Disk) (F : List Nat) (hD : DiskAt w p D F) (hl : D.left ≠ 0) (hpl : D.pend.length ≤ 2000000000) :
    Calls Try.prog 24 #[.pointer (some ⟨p, 0, none⟩)] w fun e w' => e = .returned (.int .i64 0) ∧ DiskTo F w w' p D.sync := by
  refine (callsIn_wide (n := 5)).1 ?_
  refine callsIn_of_wp_marks Try.func24 rfl trivial ?_ rfl
  simp only [Try.ntmps24, List.size_toArray, List.length_cons, List.length_nil, Nat.reduceAdd, Nat.reduceSub, Array.replicate_succ, Array.replicate_zero, List.push_toArray, List.append_toArray, List.nil_append, List.cons_append]
  (repeat ((fail_if_success refine wpIn_region_lit ?_); (fail_if_success refine wpIn_cond (t := true) ?_ ?_); gi_step))
  refine wpIn_region_lit ?_
  refine wpi_ex (v := .pointer (some ⟨w.heap.size, 0, none⟩)) (w' := w.alloc (.cells #[.pointer (some ⟨p, 0, none⟩)] 36)) (fun _ => trivial) rfl rfl (ex_box (p := .pointer (some ⟨p, 0, none⟩)) rfl rfl (by kernel_rfl)) ?_
  refine wpi_ex (fun _ => trivial) rfl rfl (ex_assign (v := .int .i64 0) rfl rfl) ?_
  refine wpListIn_nil ?_
  simp only [Act.put, List.setIfInBounds_toArray, List.set_cons_succ, List.set_cons_zero]
  (repeat ((fail_if_success refine wpIn_region_lit ?_); (fail_if_success refine wpIn_cond (t := true) ?_ ?_); gi_step))
  have hbox : Blk (w.alloc (.cells #[.pointer (some ⟨p, 0, none⟩)] 36)) w.heap.size [.pointer (some ⟨p, 0, none⟩)] 36 := blk_new _ _ _
  have hD1 := hD.ext ((Below.refl w.heap.size w).alloc (Nat.le_refl _) (.cells #[.pointer (some ⟨p, 0, none⟩)] 36))
  have ho1 : Only F w (w.alloc (.cells #[.pointer (some ⟨p, 0, none⟩)] 36)) := (Only.refl F w).alloc _
  have hFl := hD.lt
  generalize w.alloc (.cells #[.pointer (some ⟨p, 0, none⟩)] 36) = w1 at *
  refine wpIn_region_lit ?_
  refine wpi_ex (v := .pointer (some ⟨p, 0, none⟩)) (fun _ => trivial) rfl rfl (ex_load rfl rfl (run_load1 naD (hbox.cell 0))) ?_
  refine wpi_call callCall (fun _ => trivial) wideC rfl rfl rfl (args := #[.pointer (some ⟨p, 0, none⟩)]) (by simp only [List.map_toArray, List.map_cons, List.map_nil]; rfl) ((diskCall w1 p D F hD1).mono ?_)
  rintro e w2 ⟨rfl, hD2, ho2⟩
  rw [show (D.left != 0) = true by simp [hl]]
  refine ⟨_, rfl, ?_⟩
  have hbox2 := hbox.only ho2 (fun hf => by have := hFl _ hf; omega)
  refine wpi_ex (fun _ => trivial) rfl rfl (ex_un (v := .bool false) rfl rfl (by simp [go_sem])) ?_
  refine wpListIn_nil ?_
  simp only [Act.put, List.setIfInBounds_toArray, List.set_cons_succ, List.set_cons_zero]
  (repeat ((fail_if_success refine wpIn_region_lit ?_); (fail_if_success refine wpIn_cond (t := true) ?_ ?_); gi_step))
  refine wpIn_cond_false rfl ?_
  (repeat ((fail_if_success refine wpIn_region_lit ?_); (fail_if_success refine wpIn_cond (t := true) ?_ ?_); gi_step))
  refine wpIn_region_lit ?_
  refine wpi_ex (v := .pointer (some ⟨p, 0, none⟩)) (fun _ => trivial) rfl rfl (ex_load rfl rfl (run_load1 naD (hbox2.cell 0))) ?_
  refine wpi_call callWrites (fun _ => trivial) wideC rfl rfl rfl (args := #[.pointer (some ⟨p, 0, none⟩)]) (by simp only [List.map_toArray, List.map_cons, List.map_nil]; rfl) ((diskWrites w2 (some ⟨p, 0, none⟩)).mono ?_)
  rintro e w3 ⟨rfl, hw3⟩
  refine ⟨_, rfl, ?_⟩
  refine wpListIn_nil ?_
  simp only [Act.put, List.setIfInBounds_toArray, List.set_cons_succ, List.set_cons_zero]
  (repeat ((fail_if_success refine wpIn_region_lit ?_); (fail_if_success refine wpIn_cond (t := true) ?_ ?_); gi_step))
  obtain ⟨gd, vp, hP2⟩ := hD2.parts
  have he3 : Ext w2 w3 := by rw [hw3]; exact (Below.refl _ _).alloc (Nat.le_refl _) _
  have hP3 : DiskParts w3 p D.tick F gd vp := hP2.same (fun k hk => he3.block k (hD2.lt k hk))
  have hbox3 := hbox2.ext he3
  have hoB : Only F w w3 := only_then (ho1.trans ho2 (fun i _ h => h)) he3
  have hcB : w3.cell? ⟨w2.heap.size, 0, none⟩ = some (.pointer (some ⟨p, 0, none⟩)) := by
    have : Blk w3 w2.heap.size [.pointer (some ⟨p, 0, none⟩)] 36 := by rw [hw3]; exact blk_new _ _ _
    rw [this.cell]; rfl
  have hlt3 : w2.heap.size < w3.heap.size := by rw [hw3]; simp
  have hF3 : ∀ k ∈ F, k < w3.heap.size := fun k hk => by have := hFl k hk; have := hoB.size; omega
  have hb3 : w.heap.size < w3.heap.size := hbox3.lt
  have hokT := hP3.ok
  clear hw3 hD1 hbox hbox2 hD2 hP2 ho1 ho2 he3
  refine wpIn_rangeFunc_ownH rfl (by omega) (gf := 57) (lb := #[.pointer (some ⟨w2.heap.size, 0, none⟩)]) rfl trivial (enters_of Try.func57 (by kernel_rfl) rfl)
    (diskIter w3 p D.tick F gd vp hP3 w2.heap.size _ hcB hlt3 hpl) (fun h k => pendKept.tr h k)
    (fun W b o o' hb _ _ _ => ⟨by simp, fun g hg => World.putObj_heap_other (by have := hF3 g (hP3.ne.2.2.2.2 g hg); omega)⟩) (Below.refl _ _) (fun _ => rfl)
    (fun pre W => DiskParts W p { D.tick with dur := (pre.map (·.1.2)).foldl Disk.put D.dur } F gd vp ∧ Blk W w.heap.size [.pointer (some ⟨p, 0, none⟩)] 36 ∧ Only F w W ∧ w3.heap.size ≤ W.heap.size)
    (fun _ _ _ => False)
    (ownFrom_stable (fun s W W' ⟨h1, h2, h3, h4⟩ _ hb => ⟨h1.same (fun k hk => hb.block k (hF3 k hk)), (hb.block _ hb3).trans h2, h3.below_then (by omega) hb, Nat.le_trans h4 hb.size⟩) (fun s W h => h.2.2.2))
    (fun _ _ _ _ _ h _ _ => h)
    ⟨hP3, hbox3, hoB, Nat.le_refl _⟩
    (fun x a' W => ∃ Bx, w3.heap.size ≤ Bx ∧ Blk W Bx (wrCells x.1.2) 92 ∧ a' = { tmps := #[.pointer (some ⟨p, 0, none⟩), .pointer (some ⟨w.heap.size, 0, none⟩), .int .i64 0, undef, .pointer (some ⟨Bx, 0, none⟩), .pointer (some ⟨p, 0, none⟩), .bool true, .bool false, .pointer (some ⟨p, 0, none⟩),
      .func (.func 57) #[] #[.pointer (some ⟨w2.heap.size, 0, none⟩)], .int .i64 (x.1.1 : Int), .agg (wrCells x.1.2).toArray, undef, undef, undef, undef, undef, undef, undef, undef, undef, undef, undef, undef], defers := [] })
    (fun x a' s W W' row ⟨Bx, h1, h2, h3⟩ hg hr => ⟨Bx, h1, ownFrom_blk () W W' row h2 hg hr, h3⟩) ?assign ?body ?done ?stop
  case assign =>
    rintro l pre x W K ⟨hI1, hI2, hI3, hI4⟩ hK
    have hx := pendEl_len hokT x
    simp only [pendEnc, List.zip_toArray, List.zip_cons_cons, List.zip_nil_left, List.zip_nil_right, List.foldl_toArray', List.foldl_cons, List.foldl_nil, List.setIfInBounds_toArray, List.set_cons_succ, List.set_cons_zero]
    refine wpIn_region_lit ?_
    refine wpi_ex (fun _ => trivial) rfl rfl (ex_alloc rfl (allocW _)) ?_
    refine wpi_exU (fun _ => trivial) rfl rfl (ex_store rfl rfl rfl (storeNewW W (wrCells x.1.2) (by simp [wrCells, hx.2]) (wrCells_one _))) ?_
    refine wpListIn_nil ?_
    simp only [Act.put, List.setIfInBounds_toArray, List.set_cons_succ, List.set_cons_zero]
    have hE : Ext W (W.alloc (.cells (wrCells x.1.2).toArray 92)) := (Below.refl _ _).alloc (Nat.le_refl _) _
    refine hK _ _ ((Only.of_ext (F := []) hE).keepsFrom (by simp)) ⟨hE.size, fun g hg => hE.block g (by have := hF3 g (hP3.ne.2.2.2.2 g hg); omega)⟩ ⟨hI1.same (fun k hk => hE.block k (by have := hF3 k hk; omega)), hI2.ext hE, only_then hI3 hE, Nat.le_trans hI4 hE.size⟩ ⟨W.heap.size, hI4, blk_new _ _ _, rfl⟩
  case body =>
    rintro l pre x a' W - - ⟨hI1, hI2, hI3, hI4⟩ ⟨Bx, hBx, hbx, rfl⟩ -
    have hx := pendEl_len hokT x
    have hxl : x.1.2.1 < ((pre.map (·.1.2)).foldl Disk.put D.dur).length := by rw [Disk.foldl_put_length]; exact hx.1
    (repeat ((fail_if_success refine wpIn_region_lit ?_); (fail_if_success refine wpIn_cond (t := true) ?_ ?_); gi_step))
    obtain ⟨d, hd⟩ : ∃ d, d = (pre.map (·.1.2)).foldl Disk.put D.dur := ⟨_, rfl⟩
    have hd2 : ((pre ++ [x]).map (·.1.2)).foldl Disk.put D.dur = Disk.put d x.1.2 := by rw [hd]; simp
    rw [← hd] at hI1 hxl
    have hc0 : ∀ w, Ext W w → w.cell? ⟨p, 0, none⟩ = some (.slice (some ⟨gd, 0, none⟩) d.length d.length) := fun w he => by rw [(hI1.blk.ext he).cell]; rfl
    obtain ⟨q, hq⟩ : ∃ q, q = x.1.2 := ⟨_, rfl⟩
    rw [← hq] at hx hxl hbx hd2
    refine wpIn_region_chain mixed (fun ⟨_, _, h⟩ => h) [SP.eq (.pointer (some ⟨p, 0, none⟩)), SP.eq (.pointer (some ⟨p, 0, none⟩)), SP.eq (.pointer (some ⟨p, 0, none⟩)), SP.eq (.slice (some ⟨gd, 0, none⟩) d.length d.length),
      SP.eq (.pointer (some ⟨Bx, 0, none⟩)), SP.eq (.int .i64 (q.1 : Int)), SP.eq (.pointer (some ⟨Bx, 0 + 1, none⟩)), SP.eq (.agg (q.2.map B8).toArray), SP.eq (.pointer (some ⟨gd, 0 + q.1 * 64, none⟩)), SP.any] [9] (PutJ W gd d q) 24 rfl (by kernel_rfl) (by kernel_rfl) (Ext.rfl' _) putJ_ext ⟨?_, ?_, ?_, ?_, ?_, ?_, ?_, ?_, ?_, ?_, trivial⟩ ?_
    · intro a w vals hJ hR
      obtain rfl : vals = [] := List.eq_nil_of_length_eq_zero (Nat.le_zero.1 (hR.hi 9 (by simp) rfl))
      exact add_step rfl (Ex.adds' (ex_load rfl (hR.keep 1 rfl) (run_load1 naD ((hI2.ext hJ).cell 0))) rfl rfl)
    · exact fun a w vals hJ hR => add_step rfl (Ex.adds' (ex_nil rfl (hR.pred 0 12 rfl rfl rfl rfl)) rfl rfl)
    · exact fun a w vals hJ hR => add_step rfl (Ex.adds' (ex_field rfl (hR.pred 1 13 rfl rfl rfl rfl) (faD0 _ _ _)) rfl rfl)
    · intro a w vals hJ hR
      obtain rfl : vals = [] := List.eq_nil_of_length_eq_zero (Nat.le_zero.1 (hR.hi 9 (by simp) rfl))
      exact add_step rfl (Ex.adds' (ex_load rfl (hR.pred 2 14 rfl rfl rfl rfl) (run_load1 naS (hc0 w hJ))) rfl rfl)
    · exact fun a w vals hJ hR => add_step rfl (Ex.adds' (ex_field rfl (hR.keep 4 rfl) (faW0 _ _ _)) rfl rfl)
    · intro a w vals hJ hR
      obtain rfl : vals = [] := List.eq_nil_of_length_eq_zero (Nat.le_zero.1 (hR.hi 9 (by simp) rfl))
      exact add_step rfl (Ex.adds' (ex_load rfl (hR.pred 4 16 rfl rfl rfl rfl) (loadW0 (hbx.ext hJ))) rfl rfl)
    · exact fun a w vals hJ hR => add_step rfl (Ex.adds' (ex_field rfl (hR.keep 4 rfl) (faW1 _ _ _)) rfl rfl)
    · intro a w vals hJ hR
      obtain rfl : vals = [] := List.eq_nil_of_length_eq_zero (Nat.le_zero.1 (hR.hi 9 (by simp) rfl))
      exact add_step rfl (Ex.adds' (ex_load rfl (hR.pred 6 18 rfl rfl rfl rfl) (loadW1 hx.2 (hbx.ext hJ))) rfl rfl)
    · exact fun a w vals hJ hR => add_step rfl (Ex.adds' (ex_index rfl (hR.pred 3 15 rfl rfl rfl rfl) (hR.pred 5 17 rfl rfl rfl rfl) (run_index (e := 90) Try.underlying84 (sizeS w) hxl)) rfl rfl)
    · refine fun a w vals hJ hR => mem_step rfl fun hvl => ?_
      obtain rfl : vals = [] := List.eq_nil_of_length_eq_zero hvl
      exact ExU.mem (ex_store rfl (hR.pred 8 20 rfl rfl rfl rfl) (hR.pred 7 19 rfl rfl rfl rfl) (storeSec (hI1.dur.ext hJ) hI1.ok.dur q.1 hxl q.2 hx.2)) rfl ⟨(Only.of_ext hJ).setBlk (.inl (by simp)) _, (hI1.dur.ext hJ).set _⟩
    · intro vs w4 vals hlen hvl hJ hF
      obtain ⟨ho4, hb4⟩ : Only [gd] W w4 ∧ Blk w4 gd (durCells (Disk.put d q)) 90 := by
        match vals, hvl with
        | [v1], _ => exact hJ
      refine ⟨ho4.keepsFrom (fun k hk => by simp at hk; subst hk; exact hF3 _ hP3.ne.2.2.2.1), ⟨ho4.size, fun g hg => ho4.block g (by have := hF3 g (hP3.ne.2.2.2.2 g hg); omega) (by simpa using (hP3.ne.2.1 g hg).2)⟩, ?_, hI2.only ho4 (by simp; intro e; have := hFl gd hP3.ne.2.2.2.1; omega), hI3.trans ho4 (fun i _ hi => by simp at hi; subst hi; exact hP3.ne.2.2.2.1), Nat.le_trans hI4 ho4.size⟩
      rw [hd2]
      exact hI1.put hx.2 ho4 hb4
  case done =>
    rintro E xs W hE hS ⟨hI1, hI2, hI3, hI4⟩ hK
    have hdur : (xs.map (·.1.2)).foldl Disk.put D.dur = D.pend.foldl Disk.put D.dur := by
      have : xs.map (·.1.2) = D.pend := by
        have h1 := congrArg (List.map (·.2)) hS
        rw [numbered_snd, List.map_map] at h1
        exact h1
      rw [this]
    rw [hdur] at hI1
    obtain ⟨hst, hPf⟩ := clearPend hI1
    (repeat ((fail_if_success refine wpIn_region_lit ?_); (fail_if_success refine wpIn_cond (t := true) ?_ ?_); gi_step))
    refine wpIn_region_lit ?_
    refine wpi_ex (v := .pointer (some ⟨p, 0, none⟩)) (fun _ => trivial) rfl rfl (ex_load rfl rfl (run_load1 naD (hI2.cell 0))) ?_
    refine wpi_ex (fun _ => trivial) rfl rfl (ex_nil rfl rfl) ?_
    refine wpi_ex (fun _ => trivial) rfl rfl (ex_field rfl rfl (faD1 _ _ _)) ?_
    refine wpi_exU (fun _ => trivial) rfl rfl (ex_store rfl rfl rfl hst) ?_
    refine wpListIn_nil ?_
    simp only [Act.put, List.setIfInBounds_toArray, List.set_cons_succ, List.set_cons_zero]
    (repeat ((fail_if_success refine wpIn_region_lit ?_); (fail_if_success refine wpIn_cond (t := true) ?_ ?_); gi_step))
    refine wpIn_region_lit ?_
    refine wpi_ex (fun _ => trivial) rfl rfl (ex_assign (v := .int .i64 0) rfl rfl) ?_
    refine wpListIn_nil ?_
    simp only [Act.put, List.setIfInBounds_toArray, List.set_cons_succ, List.set_cons_zero]
    (repeat ((fail_if_success refine wpIn_region_lit ?_); (fail_if_success refine wpIn_cond (t := true) ?_ ?_); gi_step))
    have hpF := hFl p hP3.ne.2.2.1
    have hgF := hFl gd hP3.ne.2.2.2.1
    have hK2 : (setBlk W p [.slice (some ⟨gd, 0, none⟩) (List.foldl Disk.put D.dur D.pend).length (List.foldl Disk.put D.dur D.pend).length, .slice none 0 0, .int .i64 D.tick.left]).heap[E]? = some (.deferred (some [])) := by
      unfold setBlk; rw [setRow_other _ _ _ _ (by omega)]; exact hK
    refine ⟨by simp, .inl ⟨_, _, rfl, run_takeDeferred hK2, ?_⟩⟩
    refine ⟨_, results_tmp rfl _ _ _, rfl, [p, gd], (hPf.same (fun k hk => World.putObj_heap_other (by simp at hk; omega))).at, (hI3.setBlk (.inl hP3.ne.2.2.1) _).putObj (by omega) _, fun k hk => by simp at hk; rcases hk with rfl | rfl; exact .inl hP3.ne.2.2.1; exact .inl hP3.ne.2.2.2.1⟩
  case stop =>
    rintro E c pre W _ _ h _
    exact h.elim
end Go.Proofs.Ytkannfkjnohdlaa
/- The disk as a resource. -/
namespace Go.Proofs.Ytkannfkjnohdlaa
open Go.RowKit Go.Pm

@[reducible] def diskR (p : Nat) (D : Disk) (F : List Nat) : Res := ⟨F, fun w => DiskAt w p D F, fun _ _ h hd => hd.same h⟩
theorem Inv.diskTo {B : Base} {p : Nat} {D D' : Disk} {F : List Nat} {H : List Res} {w w' : World} (hv : Inv B (diskR p D F :: H) w) (h : DiskTo F w w' p D') : ∃ F', Inv B (diskR p D' F' :: H) w' := by
  obtain ⟨F', h1, h2, h3⟩ := h
  refine ⟨F', Pm.Inv.upd hv (diskR p D' F') h2 h1 h3 h1.lt ?_⟩
  obtain ⟨_, gd, vp, rfl, hn, _⟩ := h1
  exact hn
theorem Inv.diskTo' {B : Base} {p : Nat} {D D' : Disk} {F : List Nat} {H : List Res} {w w' : World} (hv : Inv B (diskR p D F :: H) w) (h : ∃ F', DiskAt w' p D' F' ∧ Only F w w' ∧ ∀ k ∈ F', k ∈ F ∨ w.heap.size ≤ k) : ∃ F', Inv B (diskR p D' F' :: H) w' := Inv.diskTo hv h
/-- its three parts -/
theorem Inv.diskOpen {B : Base} {p : Nat} {D : Disk} {F : List Nat} {H : List Res} {w : World} (hv : Inv B (diskR p D F :: H) w) :
    ∃ gd vad vc, D.Ok ∧ Inv B (Res.cell p [.slice (some ⟨gd, 0, none⟩) D.dur.length D.dur.length, .slice vad D.pend.length vc, .int .i64 D.left] 87 :: Res.cell gd (durCells D.dur) 90 :: Res.row 92 65 (.slice vad D.pend.length vc) D.pend.length (pendCells D.pend) :: H) w := by
  obtain ⟨hok, gd, vp, rfl, hn, h1, h2, h3⟩ := (show DiskAt w p D F from hv.head)
  obtain ⟨vad, vc, rfl⟩ := pendSlice h3
  have a1 := hv.split (Res.cell p [.slice (some ⟨gd, 0, none⟩) D.dur.length D.dur.length, .slice vad D.pend.length vc, .int .i64 D.left] 87) ⟨gd :: (Value.ownBlock (.slice vad D.pend.length vc)).toList, fun w => Blk w gd (durCells D.dur) 90 ∧ w.ownsRow 0 92 65 (.slice vad D.pend.length vc) D.pend.length (pendCells D.pend), fun w w' h hh => ⟨(h gd (by simp)).trans hh.1, (Res.row 92 65 (.slice vad D.pend.length vc) D.pend.length (pendCells D.pend)).stab w w' (fun b hb => h b (by simp [hb])) hh.2⟩⟩ h1 ⟨h2, h3⟩ rfl
  have a2 := a1.front 1 rfl
  have a3 := Pm.Inv.split a2 (Res.cell gd (durCells D.dur) 90) (Res.row 92 65 (.slice vad D.pend.length vc) D.pend.length (pendCells D.pend)) h2 h3 rfl
  exact ⟨gd, vad, vc, hok, a3.front 2 rfl⟩
theorem Inv.diskClose {B : Base} {p gd : Nat} {D : Disk} {v : Value} {H : List Res} {w : World} (hok : D.Ok) (hv : Inv B (Res.cell p [.slice (some ⟨gd, 0, none⟩) D.dur.length D.dur.length, v, .int .i64 D.left] 87 :: Res.cell gd (durCells D.dur) 90 :: Res.row 92 65 v D.pend.length (pendCells D.pend) :: H) w) :
    ∃ F, Inv B (diskR p D F :: H) w := by
  have h1 : Blk w p [.slice (some ⟨gd, 0, none⟩) D.dur.length D.dur.length, v, .int .i64 D.left] 87 := hv.head
  have h2 : Blk w gd (durCells D.dur) 90 := hv.get 1 rfl
  have h3 : w.ownsRow 0 92 65 v D.pend.length (pendCells D.pend) := hv.get 2 rfl
  have hn : (p :: gd :: v.ownBlock.toList).Nodup := (hv.dis.sublist (by simp [List.flatMap_cons]))
  have a1 := hv.join ⟨[p, gd], fun w => Blk w p [.slice (some ⟨gd, 0, none⟩) D.dur.length D.dur.length, v, .int .i64 D.left] 87 ∧ Blk w gd (durCells D.dur) 90, fun w w' h hh => ⟨(h p (by simp)).trans hh.1, (h gd (by simp)).trans hh.2⟩⟩ ⟨h1, h2⟩ (List.Sublist.refl _)
  exact ⟨p :: gd :: v.ownBlock.toList, Pm.Inv.join a1 (diskR p D (p :: gd :: v.ownBlock.toList)) ⟨hok, gd, v, rfl, hn, h1, h2, h3⟩ (List.Sublist.refl _)⟩
theorem Inv.diskParts {B : Base} {p gd : Nat} {D : Disk} {v : Value} {H : List Res} {w : World} (hok : D.Ok) (hv : Inv B (Res.cell p [.slice (some ⟨gd, 0, none⟩) D.dur.length D.dur.length, v, .int .i64 D.left] 87 :: Res.cell gd (durCells D.dur) 90 :: Res.row 92 65 v D.pend.length (pendCells D.pend) :: H) w) :
    DiskParts w p D (p :: gd :: v.ownBlock.toList) gd v :=
  ⟨hok, rfl, hv.dis.sublist (by simp [List.flatMap_cons]), hv.head, hv.get 1 rfl, hv.get 2 rfl⟩
theorem _root_.Go.Pm.Inv.tail {B : Base} {H : List Res} {w : World} (hv : Inv B H w) (k : Nat) : Inv B (H.drop k) w := hv.sub (List.drop_sublist _ _)
/-- a row laid by for a while -/
theorem _root_.Go.Pm.Inv.layBy {B : Base} {e : TypeId} {size n : Nat} {v : Value} {xs : List Value} {H : List Res} {w : World} (hv : Inv B (Res.row e size v n xs :: H) w) :
    ∃ C : Base, B.Le C ∧ Inv C H w ∧ (∀ g, v.ownBlock = some g → ∃ o, C.I g = some o) ∧ ∀ K w', Inv C K w' → Inv B (Res.row e size v n xs :: K) w' := by
  have hr : w.ownsRow 0 e size v n xs := hv.head
  have hr' := hr
  rcases hr.2 with ⟨rfl, rfl⟩ | ⟨g, cap, cur, rfl, hb, hg, h5⟩
  · refine ⟨B, Base.Le.refl B, hv.drop, fun g hg => by simp [Value.ownBlock] at hg, fun K w' hK => ?_⟩
    exact hK.new (Ext.rfl' _) (Res.row e size (.slice none 0 0) 0 xs) ⟨hr'.1, .inl ⟨rfl, rfl⟩⟩ (fun b hb => by simp [Value.ownBlock] at hb) (by simp [Value.ownBlock])
  · have hout : B.I g = none := hv.out _ (List.mem_cons_self) g (by simp [Value.ownBlock])
    have hc : Inv B (Res.cell g cur.toList e :: H) w := hv.as (Res.cell g cur.toList e) (by simpa using hg) (by simp [Value.ownBlock])
    have hf := hc.freeze
    simp only [Array.toArray_toList] at hf
    refine ⟨_, Base.add_le hout, hf, fun g' hg' => ⟨_, by simp [Value.ownBlock] at hg'; subst hg'; exact Base.add_self⟩, fun K w' hK => ?_⟩
    have hblk := hK.base.blk g _ Base.add_self
    have hw := hK.weak (Base.add_le hout)
    refine Inv.join2 hw (K := [Res.row e size (.slice (some ⟨g, 0, none⟩) n cap) n xs]) (fun r hr => ?_) (fun r hr b hb => ?_) ?_ (fun r hr b hb => ?_) (fun b hb hm => ?_)
    · simp at hr; subst hr; exact ⟨hr'.1, .inr ⟨g, cap, cur, rfl, by omega, hblk, h5⟩⟩
    · simp at hr; subst hr; simp [Value.ownBlock] at hb; subst hb; exact (Array.getElem?_eq_some_iff.1 hblk).1
    · simp [Value.ownBlock]
    · simp at hr; subst hr; simp [Value.ownBlock] at hb; subst hb; exact hout
    · simp [Value.ownBlock] at hb
      subst hb
      obtain ⟨r, hr, hb⟩ := List.mem_flatMap.1 hm
      have := hK.out r hr b hb
      rw [Base.add_self] at this
      cases this
/-- all but the first ones laid by for a while -/
theorem _root_.Go.Pm.Inv.layRest {B : Base} {K H : List Res} {w : World} (hv : Inv B (K ++ H) w) :
    ∃ C : Base, B.Le C ∧ Inv C K w ∧ (∀ b, b ∈ H.flatMap (·.fp) → ∃ o, C.I b = some o) ∧ ∀ K' w', Inv C K' w' → Inv B (K' ++ H) w' := by
  have hK : Inv B K w := hv.sub (List.sublist_append_left _ _)
  have hd := hv.dis
  rw [List.flatMap_append, List.nodup_append] at hd
  have hin : ∀ b, b ∈ H.flatMap (·.fp) → (B.snap K w).I b = w.heap[b]? := fun b hb => by
    show (if b ∈ K.flatMap (·.fp) then none else w.heap[b]?) = _
    rw [if_neg (fun hm => hd.2.2 b hm b hb rfl)]
  have hsome : ∀ b, b ∈ H.flatMap (·.fp) → ∃ o, w.heap[b]? = some o := fun b hb => by
    obtain ⟨r, hr, hb⟩ := List.mem_flatMap.1 hb
    exact ⟨_, Array.getElem?_eq_getElem (hv.right.lt r hr b hb)⟩
  refine ⟨B.snap K w, hK.snapLe, hK.snap, fun b hb => ?_, fun K' w' hi => ?_⟩
  · obtain ⟨o, ho⟩ := hsome b hb
    exact ⟨o, (hin b hb).trans ho⟩
  · have hi' := hi.weak hK.snapLe
    have hsame : ∀ b, b ∈ H.flatMap (·.fp) → w'.heap[b]? = w.heap[b]? := fun b hb => by
      obtain ⟨o, ho⟩ := hsome b hb
      rw [ho]
      exact hi.base.blk b o ((hin b hb).trans ho)
    refine Pm.Inv.perm (Pm.Inv.join2 hi' (K := H) (fun r hr => r.stab w w' (fun b hb => hsame b (List.mem_flatMap.2 ⟨r, hr, hb⟩)) (hv.right.own r hr)) (fun r hr b hb => ?_) hv.right.dis hv.right.out (fun b hb hm => ?_)) List.perm_append_comm
    · have := hsame b (List.mem_flatMap.2 ⟨r, hr, hb⟩)
      obtain ⟨o, ho⟩ := hsome b (List.mem_flatMap.2 ⟨r, hr, hb⟩)
      rw [ho] at this
      exact (Array.getElem?_eq_some_iff.1 this).1
    · obtain ⟨r, hr, hb'⟩ := List.mem_flatMap.1 hm
      have := hi.out r hr b hb'
      rw [hin b hb] at this
      obtain ⟨o, ho⟩ := hsome b hb
      rw [ho] at this
      cases this
/-- a range over a disk's pending writes -/
theorem sl_writes {n : Nat} {g : Operand} {ps : Array Tmp} {assign body : Code} {Q : Exit → Act → World → Prop} {a : Act} {w : World} (h1 : 1 ≤ n) {bw p gd : Nat} {D : Disk} {vp : Value} {F : List Nat} (hg : a.eval g = .func (.func 57) #[] #[.pointer (some ⟨bw, 0, none⟩)])
    (hP : DiskParts w p D F gd vp) (hcB : w.cell? ⟨bw, 0, none⟩ = some (.pointer (some ⟨p, 0, none⟩))) (hpl : D.pend.length ≤ 2000000000) (hps : 2 = ps.size)
    {B : Base} {K H : List Res} (hv : Inv B (K ++ H) w) (hrow : ∀ g, vp.ownBlock = some g → g ∈ H.flatMap (·.fp)) (Hs : List (PendEl D) → List Res) (hs0 : Hs [] = K) (fr : PendEl D → Nat → Act)
    (hcel : ∀ pre r, r ∈ Hs pre → r.Celled) (hfp : ∀ pre r, r ∈ Hs pre → ∀ b ∈ r.fp, b < w.heap.size)
    (hassign : ∀ (l : Nat) (pre : List (PendEl D)) (x : PendEl D) (w : World) (B' : Base), B.Le B' → Inv B' (Hs pre) w → assign.wpIn (Fence.wide.inRound l) (n - 1 - 1) Try.prog (fun e a' W' => e = .normal ∧ ∃ b, a' = fr x b ∧ Inv B' (Res.cell b (wrCells x.1.2) 92 :: Hs pre) W') { tmps := (ps.zip (pendEnc x)).foldl (fun t (p, v) => t.setIfInBounds p v) a.tmps, defers := [] } w)
    (hbody : ∀ (l : Nat) (pre : List (PendEl D)) (x : PendEl D) (b : Nat) (w : World) (B' : Base), B.Le B' → Inv B' (Res.cell b (wrCells x.1.2) 92 :: Hs pre) w → pre.length < D.pend.length → body.wpIn (Fence.wide.inRound l) (n - 1 - 1) Try.prog (fun e _ W' => e = .normal ∧ Inv B' (Hs (pre ++ [x])) W') (fr x b) w)
    (hdone : ∀ (d : Nat) (xs : List (PendEl D)) (w : World), xs.map (·.1) = numbered D → Inv B (Res.defd d :: (Hs xs ++ H)) w → Q .normal { a with defers := { target := .collected d, args := #[] } :: a.defers } w) :
    (Code.rangeFunc g ps assign body).wpIn Fence.wide n Try.prog Q a w := by
  subst hs0
  obtain ⟨C, hBC, hvC, hin, hback⟩ := hv.layRest
  have hlt : bw < w.heap.size := World.block_lt_of_cell? w _ hcB
  have hpin : ∀ g, vp.ownBlock = some g → ∃ o, C.I g = some o := fun g hg => hin g (hrow g hg)
  refine sl_range h1 hg (enters_of Try.func57 (by kernel_rfl) rfl) (diskIter w p D F gd vp hP bw _ hcB hlt hpl) (fun h k => pendKept.tr h k) (fun _ => hps)
    (B := C) Hs (fun x b => [Res.cell b (wrCells x.1.2) 92]) fr hcel (fun x b r hr => by simp at hr; subst hr; exact celled_cell _ _ _) (.inr hfp) (fun K' W W' hi hle hs => ⟨hle, fun g hg => ?_⟩) (fun W l o' hl => ⟨by simp, fun g hg => World.putObj_heap_other (fun e => ?_)⟩) hvC
    (fun l pre x W B' hB hi => hassign l pre x W B' (hBC.trans hB) hi) (fun l pre x b W B' hB hi hN => hbody l pre x b W B' (hBC.trans hB) hi hN) (fun d xs W hS hi => hdone d xs W hS (hback _ _ hi))
  · obtain ⟨o, ho⟩ := hpin g hg
    refine hs g (hi.base.lt ho) (fun hm => ?_)
    obtain ⟨r, hr, hb⟩ := List.mem_flatMap.1 hm
    rw [hi.out r hr g hb] at ho
    cases ho
  · obtain ⟨o, ho⟩ := hpin g hg
    have := hvC.base.lt ho
    omega
theorem diskWritesSl (B : Base) (H : List Res) (w : World) (ad : Option Addr) (hv : Inv B H w) :
    Calls Try.prog 46 #[.pointer ad] w fun e w' => ∃ b, e = .returned (.func (.func 57) #[] #[.pointer (some ⟨b, 0, none⟩)]) ∧ Inv B (Res.cell b [.pointer ad] 36 :: H) w' :=
  (diskWrites w ad).mono fun e w' ⟨h1, h2⟩ => ⟨_, h1, by rw [h2]; exact hv.alloc [.pointer ad] _⟩
theorem diskHasSl (w : World) (p : Nat) (D : Disk) (F : List Nat) (at_ n : Int) {b : Bool} (hb : D.has at_ n = b) (hD : DiskAt w p D F) (ha : -9223372036854775808 ≤ at_ ∧ at_ ≤ 9223372036854775807) :
    Calls Try.prog 44 #[.pointer (some ⟨p, 0, none⟩), .int .i64 at_, .int .i64 n] w fun e w' => e = .returned (.bool b) ∧ w = w' := by subst hb; exact diskHas w p D F at_ n hD ha
theorem diskCallSl (B : Base) (H : List Res) (w : World) (p : Nat) (D : Disk) (F : List Nat) (k : Nat) (hv : Inv B H w) (hk : H[k]? = some (diskR p D F)) {b : Bool} (hb : (D.left != 0) = b) :
    Calls Try.prog 45 #[.pointer (some ⟨p, 0, none⟩)] w fun e w' => e = .returned (.bool b) ∧ Inv B (H.set k (diskR p D.tick F)) w' := by
  subst hb
  have hD : DiskAt w p D F := hv.get k hk
  refine (diskCall w p D F hD).mono fun e w' ⟨h1, h2, h3⟩ => ⟨h1, hv.updAt k hk (diskR p D.tick F) h3 h2 (fun b hb => .inl hb) h2.lt ?_⟩
  obtain ⟨_, gd, vp, rfl, hn, _⟩ := hD
  exact hn
end Go.Proofs.Ytkannfkjnohdlaa
/- disk.Crash -/
namespace Go.Proofs.Ytkannfkjnohdlaa
open Go.RowKit Go.Pm
/-- ints behind an address -/
def Ints (w : World) (a : Option Addr) (l : List Int) : Prop :=
  ∀ i (h : i < l.length), ∃ b off, a = some ⟨b, off, none⟩ ∧ w.cell? ⟨b, off + i, none⟩ = some (.int .i64 l[i])
def boolsOf (n : Nat) (ks : List Int) : List Value := (List.range n).map (fun (j : Nat) => .bool (ks.contains (j : Int)))
theorem boolsOf_nil (n : Nat) : boolsOf n [] = List.replicate n (.bool false) := by
  unfold boolsOf
  apply List.ext_getElem <;> simp
theorem boolsOf_len (n : Nat) (ks : List Int) : (boolsOf n ks).length = n := by simp [boolsOf]
theorem boolsOf_set (n : Nat) (ks : List Int) (j : Nat) (hj : j < n) : (boolsOf n ks).set (0 + j) (.bool true) = boolsOf n (ks ++ [(j : Int)]) := by
  rw [Nat.zero_add]
  apply List.ext_getElem (by simp [boolsOf])
  intro i h1 h2
  rw [List.getElem_set]
  by_cases hij : j = i
  · subst hij; simp [boolsOf]
  · have : ¬ ((i : Int) = (j : Int)) := by omega
    simp [boolsOf, hij, this]
theorem boolsOf_out (n : Nat) (ks : List Int) (v : Int) (hv : v < 0 ∨ (n : Int) ≤ v) : boolsOf n (ks ++ [v]) = boolsOf n ks := by
  unfold boolsOf
  apply List.map_congr_left
  intro j hj
  have : ¬ ((j : Int) = v) := by have := List.mem_range.1 hj; omega
  simp [this]
theorem boolsOf_get (n : Nat) (ks : List Int) (j : Nat) (hj : j < n) {b : Bool} (hb : ks.contains (j : Int) = b) : (boolsOf n ks)[0 + j]? = some (.bool b) := by
  rw [Nat.zero_add, ← hb]
  simp [boolsOf, hj]
/-- those that are kept, of the first ones -/
def keptOf {D : Disk} (ks : List Int) (pre : List (PendEl D)) : List (Nat × List UInt8) := (pre.filter (fun x => ks.contains (x.1.1 : Int))).map (·.1.2)
theorem keptOf_yes {D : Disk} {ks : List Int} {pre : List (PendEl D)} {x : PendEl D} (h : ks.contains (x.1.1 : Int) = true) : keptOf ks (pre ++ [x]) = keptOf ks pre ++ [x.1.2] := by
  simp only [keptOf, List.filter_append, List.map_append, List.filter_cons, h, if_true, List.filter_nil, List.map_cons, List.map_nil]
theorem keptOf_no {D : Disk} {ks : List Int} {pre : List (PendEl D)} {x : PendEl D} (h : ks.contains (x.1.1 : Int) = false) : keptOf ks (pre ++ [x]) = keptOf ks pre := by
  simp only [keptOf, List.filter_append, List.map_append, List.filter_cons, h, List.filter_nil, List.map_nil, List.append_nil]
  simp
theorem keptOf_all {D : Disk} {ks : List Int} {xs : List (PendEl D)} (h : xs.map (·.1) = numbered D) : keptOf ks xs = D.kept ks := by
  have e : keptOf ks xs = ((xs.map (·.1)).filter (fun y => ks.contains (y.1 : Int))).map (·.2) := by
    unfold keptOf
    rw [List.filter_map, List.map_map]
    rfl
  rw [e, h]
  unfold numbered Disk.kept
  rw [List.filter_map, List.map_map]
  rfl
theorem keptOf_le {D : Disk} (ks : List Int) (pre : List (PendEl D)) : (keptOf ks pre).length ≤ pre.length := by
  unfold keptOf
  rw [List.length_map]
  exact List.length_filter_le _ _
theorem wrOne (x : Nat × List UInt8) : ∀ v ∈ wrCells x, v.oneCell' = true := wrCells_one x
theorem crashEnd {B : Base} {p gd : Nat} {D : Disk} {ks : List Int} {H : List Res} {w : World} (hok : D.Ok) (hv : Inv B (Res.cell p [.slice (some ⟨gd, 0, none⟩) D.dur.length D.dur.length, .slice none 0 0, .int .i64 (-1)] 87 :: Res.cell gd (durCells ((D.kept ks).foldl Disk.put D.dur)) 90 :: H) w) : ∃ F', Inv B (diskR p (D.crash ks) F' :: H) w := by
  have h2 := hv.new (Ext.rfl' _) (Res.row 92 65 (.slice none 0 0) 0 []) (World.ownsRow_nil _ _ _ _) (fun b hb => by simp [Value.ownBlock] at hb) (by simp [Value.ownBlock])
  have h3 := (h2.front 2 rfl).front 2 rfl
  have hl : ((D.kept ks).foldl Disk.put D.dur).length = D.dur.length := Disk.foldl_put_length _ _
  refine Inv.diskClose (D := D.crash ks) (gd := gd) (v := .slice none 0 0) (Disk.crash_ok hok ks) ?_
  show Inv B (Res.cell p [.slice (some ⟨gd, 0, none⟩) ((D.kept ks).foldl Disk.put D.dur).length ((D.kept ks).foldl Disk.put D.dur).length, .slice none 0 0, .int .i64 (-1)] 87 :: _) w
  rw [hl]
  exact h3
theorem szWrite (l : List Value) (h : l.length = 65) : (Try.prog.info? 92).map (·.size) = some l.length := by rw [h]; exact wideW.size
theorem wrLen {x : Nat × List UInt8} (h : x.2.length = 64) : (wrCells x).length = 65 := by simp [wrCells, h]

theorem crna36 (w : World) : (isAgg 36).run Try.prog w = .ok false w := by kernel_rfl
theorem crfa87_1 (w : World) (b o : Nat) : (Instr.fieldAt 87 (.pointer (some ⟨b, o, none⟩)) 1).run Try.prog w = .ok (.pointer (some ⟨b, o + 1, none⟩)) w := by kernel_rfl
theorem crna85 (w : World) : (isAgg 85).run Try.prog w = .ok false w := by kernel_rfl
theorem crmk4 : (Try.prog.info? 4).map (fun i => (i.zero, i.size, i.bytes)) = some (some (.bool false), 1, 1) := by kernel_rfl
theorem cral96 (w : World) : (Instr.alloc 96 true (.tuple #[])).run Try.prog w = .ok (.pointer (some ⟨w.heap.size, 0, none⟩)) (w.alloc (.cells ([.slice none 0 0] : List Value).toArray 96)) := by kernel_rfl
theorem crsz96 : (Try.prog.info? 96).map (·.size) = some 1 := by kernel_rfl
theorem cres44 (w : World) : (sizeOf (Try.prog.elem 44)).run Try.prog w = .ok 1 w := by kernel_rfl
theorem crna3 (w : World) : (isAgg 3).run Try.prog w = .ok false w := by kernel_rfl
theorem crna96 (w : World) : (isAgg 96).run Try.prog w = .ok false w := by kernel_rfl
theorem cres96 (w : World) : (sizeOf (Try.prog.elem 96)).run Try.prog w = .ok 1 w := by kernel_rfl
theorem crsz4 : (Try.prog.info? 4).map (·.size) = some 1 := by kernel_rfl
theorem cral3 (w : World) : (Instr.alloc 3 true (.tuple #[])).run Try.prog w = .ok (.pointer (some ⟨w.heap.size, 0, none⟩)) (w.alloc (.cells ([.int .i64 0] : List Value).toArray 3)) := by kernel_rfl
theorem crsz3 : (Try.prog.info? 3).map (·.size) = some 1 := by kernel_rfl
theorem crcallable46 : Callable Try.prog 46 := ⟨_, Try.func46, by kernel_rfl, by kernel_rfl⟩
theorem cral92 (w : World) : (Instr.alloc 92 true (.tuple #[])).run Try.prog w = .ok (.pointer (some ⟨w.heap.size, 0, none⟩)) (w.alloc (.cells ([.int .i64 0, .int .u8 0, .int .u8 0, .int .u8 0, .int .u8 0, .int .u8 0, .int .u8 0, .int .u8 0, .int .u8 0, .int .u8 0, .int .u8 0, .int .u8 0, .int .u8 0, .int .u8 0, .int .u8 0, .int .u8 0, .int .u8 0, .int .u8 0, .int .u8 0, .int .u8 0, .int .u8 0, .int .u8 0, .int .u8 0, .int .u8 0, .int .u8 0, .int .u8 0, .int .u8 0, .int .u8 0, .int .u8 0, .int .u8 0, .int .u8 0, .int .u8 0, .int .u8 0, .int .u8 0, .int .u8 0, .int .u8 0, .int .u8 0, .int .u8 0, .int .u8 0, .int .u8 0, .int .u8 0, .int .u8 0, .int .u8 0, .int .u8 0, .int .u8 0, .int .u8 0, .int .u8 0, .int .u8 0, .int .u8 0, .int .u8 0, .int .u8 0, .int .u8 0, .int .u8 0, .int .u8 0, .int .u8 0, .int .u8 0, .int .u8 0, .int .u8 0, .int .u8 0, .int .u8 0, .int .u8 0, .int .u8 0, .int .u8 0, .int .u8 0, .int .u8 0] : List Value).toArray 92)) := by kernel_rfl
theorem crna4 (w : World) : (isAgg 4).run Try.prog w = .ok false w := by kernel_rfl
theorem crfa87_0 (w : World) (b o : Nat) : (Instr.fieldAt 87 (.pointer (some ⟨b, o, none⟩)) 0).run Try.prog w = .ok (.pointer (some ⟨b, o + 0, none⟩)) w := by kernel_rfl
theorem crna84 (w : World) : (isAgg 84).run Try.prog w = .ok false w := by kernel_rfl
theorem crfa92_0 (w : World) (b o : Nat) : (Instr.fieldAt 92 (.pointer (some ⟨b, o, none⟩)) 0).run Try.prog w = .ok (.pointer (some ⟨b, o + 0, none⟩)) w := by kernel_rfl
theorem crfa92_1 (w : World) (b o : Nat) : (Instr.fieldAt 92 (.pointer (some ⟨b, o, none⟩)) 1).run Try.prog w = .ok (.pointer (some ⟨b, o + 1, none⟩)) w := by kernel_rfl
theorem cres84 (w : World) : (sizeOf (Try.prog.elem 84)).run Try.prog w = .ok 64 w := by kernel_rfl
theorem crsz85 : (Try.prog.info? 85).map (·.size) = some 1 := by kernel_rfl
theorem crfa87_2 (w : World) (b o : Nat) : (Instr.fieldAt 87 (.pointer (some ⟨b, o, none⟩)) 2).run Try.prog w = .ok (.pointer (some ⟨b, o + 2, none⟩)) w := by kernel_rfl
set_option maxRecDepth 100000 in
set_option maxHeartbeats 2000000 in
theorem diskCrash (B : Base) (H : List Res) (w : World) (p : Nat) (D : Disk) (F : List Nat) (ka : Option Addr) (n kc : Nat) (ks : List Int) (hv : Inv B (diskR p D F :: H) w) (hpl : D.pend.length ≤ 1000000000) (hn : ks.length = n) (hm : n ≤ 1000000000) (hks : ∀ w, Inv B H w → Ints w ka ks) (hw : ∀ k ∈ ks, -9223372036854775808 ≤ k ∧ k ≤ 9223372036854775807) :
    Calls Try.prog 25 #[.pointer (some ⟨p, 0, none⟩), .slice ka n kc] w fun e w' => e = .returned (.int .i64 ((D.kept ks).length : Int)) ∧ ∃ F', Inv B (diskR p (D.crash ks) F' :: H) w' := by
  obtain ⟨gd, vad, vc, hok, hv⟩ := Inv.diskOpen hv
  refine (callsIn_wide (n := 5)).1 ?_
  refine callsIn_of_wp_marks Try.func25 rfl trivial ?_ rfl
  simp only [Try.ntmps25, List.size_toArray, List.length_cons, List.length_nil, Nat.reduceAdd, Nat.reduceSub, Array.replicate_succ, Array.replicate_zero, List.push_toArray, List.append_toArray, List.nil_append, List.cons_append]
  refine wpIn_seq_k (fun K1 hK1 => ?_)
  refine wpIn_region_lit ?_
  refine sl_box (L := [.pointer (some ⟨p, 0, none⟩)]) (fun _ => trivial) (wn rfl) rfl (p := .pointer (some ⟨p, 0, none⟩)) rfl hv (fun w => by kernel_rfl) (fun b2 w3 hv => ?_)
  refine wpi_exG (v := .int .i64 0) (fun _ => trivial) (wn rfl) rfl (ex_assign rfl rfl) ?_
  refine wpListIn_nil ?_
  simp only [Act.put, List.setIfInBounds_toArray, List.set_cons_succ, List.set_cons_zero]
  refine then_normal (hK1 _ _ ?_)
  clear hK1 K1
  refine wpIn_seq_k (fun K4 hK4 => ?_)
  refine wpIn_region_lit ?_
  refine wpi_exG (v := .pointer (some ⟨p, 0, none⟩)) (fun _ => trivial) (wn rfl) rfl (ex_load rfl rfl (run_load1 crna36 (hv.load 0 0 rfl rfl))) ?_
  refine wpi_exG (v := .pointer (some ⟨p, 0, none⟩)) (fun _ => trivial) (wn rfl) rfl (ex_nil rfl rfl) ?_
  refine wpi_exG (v := .pointer (some ⟨p, 1, none⟩)) (fun _ => trivial) (wn rfl) rfl (ex_field rfl rfl (crfa87_1 _ _ _)) ?_
  simp only [Act.put, List.setIfInBounds_toArray, List.set_cons_succ, List.set_cons_zero]
  refine wpi_exG (v := .slice vad D.pend.length vc) (fun _ => trivial) (wn rfl) rfl (ex_load rfl rfl (run_load1 crna85 (hv.load 1 1 rfl rfl))) ?_
  refine wpi_exG (v := .int .i64 (D.pend.length : Int)) (fun _ => trivial) (wn rfl) rfl (ex_len0 Try.underlying85 rfl rfl) ?_
  refine sl_make1 (len := D.pend.length) (cap := D.pend.length) (fun _ => trivial) (wn rfl) rfl rfl rfl Try.underlying96 crmk4 rfl (by omega) (by unfold maxLen; omega) (by omega) hv (fun b5 w6 hv => ?_)
  simp only [Act.put, List.setIfInBounds_toArray, List.set_cons_succ, List.set_cons_zero]
  refine sl_alloc (fun _ => trivial) (wn rfl) rfl hv cral96 (fun b7 w8 hv => ?_)
  refine sl_storeAt 0 (v := .slice (some ⟨b5, 0, none⟩) D.pend.length D.pend.length) (L' := [.slice (some ⟨b5, 0, none⟩) D.pend.length D.pend.length]) (fun _ => trivial) (wn rfl) rfl rfl rfl hv rfl crsz96 (by simp) rfl rfl rfl (fun w9 hv => ?_)
  simp only [List.set_cons_succ, List.set_cons_zero] at hv
  refine wpListIn_nil ?_
  simp only [Act.put, List.setIfInBounds_toArray, List.set_cons_succ, List.set_cons_zero]
  refine then_normal (hK4 _ _ ?_)
  clear hK4 K4
  refine wpIn_seq_k (fun K10 hK10 => ?_)
  refine wpIn_seq_k (fun K11 hK11 => ?_)
  refine wpIn_region_lit ?_
  refine wpi_exG (v := .slice ka n kc) (fun _ => trivial) (wn rfl) rfl (ex_move rfl rfl) ?_
  refine wpi_exG (v := .int .i64 (n : Int)) (fun _ => trivial) (wn rfl) rfl (ex_len0 Try.underlying44 rfl rfl) ?_
  refine wpi_exG (v := .int .i64 0) (fun _ => trivial) (wn rfl) rfl (ex_move rfl rfl) ?_
  refine wpListIn_nil ?_
  simp only [Act.put, List.setIfInBounds_toArray, List.set_cons_succ, List.set_cons_zero]
  refine then_normal (hK11 _ _ ?_)
  clear hK11 K11
  refine wpIn_block ?_
  gi_loopw [19] (fun x19 wr => ∃ i : Nat, x19 = .int .i64 (i : Int) ∧ i ≤ n ∧ Inv B (Res.cell b7 [.slice (some ⟨b5, 0, none⟩) D.pend.length D.pend.length] 96 :: Res.cell b5 (boolsOf D.pend.length (ks.take i)) 4 :: Res.cell b2 [.pointer (some ⟨p, 0, none⟩)] 36 :: Res.cell p [.slice (some ⟨gd, 0, none⟩) D.dur.length D.dur.length, .slice vad D.pend.length vc, .int .i64 D.left] 87 :: Res.cell gd (durCells D.dur) 90 :: Res.row 92 65 (.slice vad D.pend.length vc) D.pend.length (pendCells D.pend) :: H) wr) (fun x19 _ => n - (intOf x19).toNat)
  case atStart => exact ⟨0, rfl, by omega, by rw [List.take_zero, boolsOf_nil]; exact hv⟩
  case round =>
    obtain ⟨i, rfl, hi, hv⟩ := hrel
    refine wpIn_seq_k (fun K13 hK13 => ?_)
    refine wpIn_region_lit ?_
    by_cases hb14 : (i : Int) < (n : Int)
    · refine wpi_exG (v := .bool true) (fun _ => trivial) (wn rfl) rfl (ex_lss (k := .i64) (m := (i : Int)) (n := (n : Int)) rfl rfl rfl (decide_eq_true hb14)) ?_
      refine wpListIn_nil ?_
      simp only [Act.put, List.setIfInBounds_toArray, List.set_cons_succ, List.set_cons_zero]
      refine then_normal (hK13 _ _ ?_)
      clear hK13 K13
      refine wpIn_seq_k (fun K15 hK15 => ?_)
      refine wpIn_cond_true rfl ?_
      refine wpIn_skip ?_
      refine then_normal (hK15 _ _ ?_)
      clear hK15 K15
      refine wpIn_seq_k (fun K16 hK16 => ?_)
      refine wpIn_block ?_
      refine wpIn_seq_k (fun K17 hK17 => ?_)
      refine wpIn_region_lit ?_
      have hin : i < n := by omega
      obtain ⟨ab, aoff, rfl, hcell⟩ := hks _ (hv.tail 6) i (by omega)
      have hk64 := hw _ (List.getElem_mem (show i < ks.length by omega))
      have htake : ks.take (i + 1) = ks.take i ++ [ks[i]] := by rw [List.take_succ_eq_append_getElem (by omega)]
      generalize ks[i]'(by omega) = v at *
      refine wpi_exG (v := .pointer (some ⟨ab, aoff + i, none⟩)) (fun _ => trivial) (wn rfl) rfl (ex_index rfl rfl rfl (run_idx1 (k := i) Try.underlying44 cres44 (by omega))) ?_
      refine wpi_exG (v := .int .i64 v) (fun _ => trivial) (wn rfl) rfl (ex_load rfl rfl (run_load1 crna3 hcell)) ?_
      refine wpi_exG (v := .int .i64 v) (fun _ => trivial) (wn rfl) rfl (ex_assign rfl rfl) ?_
      refine wpListIn_nil ?_
      simp only [Act.put, List.setIfInBounds_toArray, List.set_cons_succ, List.set_cons_zero]
      refine then_normal (hK17 _ _ ?_)
      clear hK17 K17
      refine wpIn_seq_k (fun K18 hK18 => ?_)
      refine wpIn_region_lit ?_
      refine wpi_exG (v := .int .i64 v) (fun _ => trivial) (wn rfl) rfl (ex_move rfl rfl) ?_
      by_cases hb19 : v ≥ 0
      · refine wpi_exG (v := .bool true) (fun _ => trivial) (wn rfl) rfl (ex_geq (k := .i64) (m := v) (n := 0) rfl rfl rfl (decide_eq_true hb19)) ?_
        refine wpi_exG (v := .bool true) (fun _ => trivial) (wn rfl) rfl (ex_move rfl rfl) ?_
        simp only [Act.put, List.setIfInBounds_toArray, List.set_cons_succ, List.set_cons_zero]
        refine wpi_exG (v := .int .i64 v) (fun _ => trivial) (wanted_of (j := 2) (d := 25) (b := true) rfl rfl rfl) rfl (ex_move rfl rfl) ?_
        refine wpi_exG (v := .slice (some ⟨b5, 0, none⟩) D.pend.length D.pend.length) (fun _ => trivial) (wanted_of (j := 2) (d := 25) (b := true) rfl rfl rfl) rfl (ex_load rfl rfl (run_load1 crna96 (hv.load 0 0 rfl rfl))) ?_
        refine wpi_exG (v := .int .i64 (D.pend.length : Int)) (fun _ => trivial) (wanted_of (j := 2) (d := 25) (b := true) rfl rfl rfl) rfl (ex_len0 Try.underlying96 rfl rfl) ?_
        simp only [Act.put, List.setIfInBounds_toArray, List.set_cons_succ, List.set_cons_zero]
        by_cases hb20 : v < (D.pend.length : Int)
        · obtain ⟨j, hvj⟩ : ∃ j : Nat, v = (j : Int) := ⟨v.toNat, by omega⟩
          have hj : j < D.pend.length := by omega
          skip
          refine wpi_exG (v := .bool true) (fun _ => trivial) (wanted_of (j := 2) (d := 25) (b := true) rfl rfl rfl) rfl (ex_lss (k := .i64) (m := v) (n := (D.pend.length : Int)) rfl rfl rfl (decide_eq_true hb20)) ?_
          refine wpi_exG (v := .bool true) (fun _ => trivial) (wn rfl) rfl (ex_pick (b := true) rfl rfl rfl) ?_
          refine wpListIn_nil ?_
          simp only [Act.put, List.setIfInBounds_toArray, List.set_cons_succ, List.set_cons_zero]
          refine then_normal (hK18 _ _ ?_)
          clear hK18 K18
          refine wpIn_cond_true rfl ?_
          refine wpIn_region_lit ?_
          refine wpi_exG (v := .slice (some ⟨b5, 0, none⟩) D.pend.length D.pend.length) (fun _ => trivial) (wn rfl) rfl (ex_load rfl rfl (run_load1 crna96 (hv.load 0 0 rfl rfl))) ?_
          refine wpi_exG (v := .int .i64 (j : Int)) (fun _ => trivial) (wn rfl) rfl (ex_move rfl (by rw [← hvj]; rfl)) ?_
          refine wpi_exG (v := .pointer (some ⟨b5, 0 + j, none⟩)) (fun _ => trivial) (wn rfl) rfl (ex_index rfl rfl rfl (run_idx1 (k := j) Try.underlying96 cres96 (by omega))) ?_
          simp only [Act.put, List.setIfInBounds_toArray, List.set_cons_succ, List.set_cons_zero]
          refine sl_storeAt 1 (v := .bool true) (L' := boolsOf D.pend.length (ks.take i ++ [(j : Int)])) (fun _ => trivial) (wn rfl) rfl rfl rfl hv rfl crsz4 (by rw [boolsOf_len]; omega) rfl rfl (boolsOf_set _ _ _ hj) (fun w21 hv => ?_)
          simp only [List.set_cons_succ, List.set_cons_zero] at hv
          refine wpListIn_nil ?_
          simp only [Act.put, List.setIfInBounds_toArray, List.set_cons_succ, List.set_cons_zero]
          refine blk_normal ?_
          refine then_normal (hK16 _ _ ?_)
          clear hK16 K16
          refine wpIn_region_lit ?_
          refine wpi_exG (v := .int .i64 ((i : Int) + 1)) (fun _ => trivial) (wn rfl) rfl (ex_add (m := (i : Int)) (n := 1) rfl rfl rfl (i64_in (by omega))) ?_
          refine wpi_exG (v := .int .i64 ((i : Int) + 1)) (fun _ => trivial) (wn rfl) rfl (ex_move rfl rfl) ?_
          refine wpListIn_nil ?_
          simp only [Act.put, List.setIfInBounds_toArray, List.set_cons_succ, List.set_cons_zero]
          refine then_normal ?_
          go_roundw
          case rel => exact ⟨i + 1, by simp, hin, by rw [htake, hvj]; exact hv⟩
          case measure => show n - ((i : Int) + 1).toNat < n - (i : Int).toNat; omega
        · skip
          refine wpi_exG (v := .bool false) (fun _ => trivial) (wanted_of (j := 2) (d := 25) (b := true) rfl rfl rfl) rfl (ex_lss (k := .i64) (m := v) (n := (D.pend.length : Int)) rfl rfl rfl (decide_eq_false hb20)) ?_
          refine wpi_exG (v := .bool false) (fun _ => trivial) (wn rfl) rfl (ex_pick (b := true) rfl rfl rfl) ?_
          refine wpListIn_nil ?_
          simp only [Act.put, List.setIfInBounds_toArray, List.set_cons_succ, List.set_cons_zero]
          refine then_normal (hK18 _ _ ?_)
          clear hK18 K18
          refine wpIn_cond_false rfl ?_
          refine wpIn_skip ?_
          refine blk_normal ?_
          refine then_normal (hK16 _ _ ?_)
          clear hK16 K16
          refine wpIn_region_lit ?_
          refine wpi_exG (v := .int .i64 ((i : Int) + 1)) (fun _ => trivial) (wn rfl) rfl (ex_add (m := (i : Int)) (n := 1) rfl rfl rfl (i64_in (by omega))) ?_
          refine wpi_exG (v := .int .i64 ((i : Int) + 1)) (fun _ => trivial) (wn rfl) rfl (ex_move rfl rfl) ?_
          refine wpListIn_nil ?_
          simp only [Act.put, List.setIfInBounds_toArray, List.set_cons_succ, List.set_cons_zero]
          refine then_normal ?_
          go_roundw
          case rel => exact ⟨i + 1, by simp, hin, by rw [htake, boolsOf_out _ _ v (.inr (by omega))]; exact hv⟩
          case measure => show n - ((i : Int) + 1).toNat < n - (i : Int).toNat; omega
      · skip
        refine wpi_exG (v := .bool false) (fun _ => trivial) (wn rfl) rfl (ex_geq (k := .i64) (m := v) (n := 0) rfl rfl rfl (decide_eq_false hb19)) ?_
        refine wpi_exG (v := .bool false) (fun _ => trivial) (wn rfl) rfl (ex_move rfl rfl) ?_
        simp only [Act.put, List.setIfInBounds_toArray, List.set_cons_succ, List.set_cons_zero]
        refine wpi_not (fun _ => trivial) (wanted_not (j := 2) (d := 25) (b := true) (b' := false) rfl rfl rfl (by decide)) ?_
        refine wpi_not (fun _ => trivial) (wanted_not (j := 2) (d := 25) (b := true) (b' := false) rfl rfl rfl (by decide)) ?_
        refine wpi_not (fun _ => trivial) (wanted_not (j := 2) (d := 25) (b := true) (b' := false) rfl rfl rfl (by decide)) ?_
        simp only [Act.put, List.setIfInBounds_toArray, List.set_cons_succ, List.set_cons_zero]
        refine wpi_not (fun _ => trivial) (wanted_not (j := 2) (d := 25) (b := true) (b' := false) rfl rfl rfl (by decide)) ?_
        refine wpi_exG (v := .bool false) (fun _ => trivial) (wn rfl) rfl (ex_pick (b := false) rfl rfl rfl) ?_
        refine wpListIn_nil ?_
        simp only [Act.put, List.setIfInBounds_toArray, List.set_cons_succ, List.set_cons_zero]
        refine then_normal (hK18 _ _ ?_)
        clear hK18 K18
        refine wpIn_cond_false rfl ?_
        refine wpIn_skip ?_
        refine blk_normal ?_
        refine then_normal (hK16 _ _ ?_)
        clear hK16 K16
        refine wpIn_region_lit ?_
        refine wpi_exG (v := .int .i64 ((i : Int) + 1)) (fun _ => trivial) (wn rfl) rfl (ex_add (m := (i : Int)) (n := 1) rfl rfl rfl (i64_in (by omega))) ?_
        refine wpi_exG (v := .int .i64 ((i : Int) + 1)) (fun _ => trivial) (wn rfl) rfl (ex_move rfl rfl) ?_
        refine wpListIn_nil ?_
        simp only [Act.put, List.setIfInBounds_toArray, List.set_cons_succ, List.set_cons_zero]
        refine then_normal ?_
        go_roundw
        case rel => exact ⟨i + 1, by simp, hin, by rw [htake, boolsOf_out _ _ v (.inl (by omega))]; exact hv⟩
        case measure => show n - ((i : Int) + 1).toNat < n - (i : Int).toNat; omega
    · rw [List.take_of_length_le (by omega)] at hv
      skip
      refine wpi_exG (v := .bool false) (fun _ => trivial) (wn rfl) rfl (ex_lss (k := .i64) (m := (i : Int)) (n := (n : Int)) rfl rfl rfl (decide_eq_false hb14)) ?_
      refine wpListIn_nil ?_
      simp only [Act.put, List.setIfInBounds_toArray, List.set_cons_succ, List.set_cons_zero]
      refine then_normal (hK13 _ _ ?_)
      clear hK13 K13
      refine wpIn_seq_k (fun K22 hK22 => ?_)
      refine wpIn_cond_false rfl ?_
      refine wpIn_exit ?_
      refine then_exit ?_
      clear hK22 K22
      refine then_exit ?_
      refine blk_hit ?_
      refine then_normal (hK10 _ _ ?_)
      clear hK10 K10
      refine wpIn_seq_k (fun K23 hK23 => ?_)
      refine wpIn_region_lit ?_
      refine sl_alloc (fun _ => trivial) (wn rfl) rfl hv cral3 (fun b24 w25 hv => ?_)
      refine sl_storeAt 0 (v := .int .i64 0) (L' := [.int .i64 0]) (fun _ => trivial) (wn rfl) rfl rfl rfl hv rfl crsz3 (by simp) rfl rfl rfl (fun w26 hv => ?_)
      simp only [List.set_cons_succ, List.set_cons_zero] at hv
      refine wpListIn_nil ?_
      simp only [Act.put, List.setIfInBounds_toArray, List.set_cons_succ, List.set_cons_zero]
      refine then_normal (hK23 _ _ ?_)
      clear hK23 K23
      refine wpIn_seq_k (fun K27 hK27 => ?_)
      refine wpIn_seq_k (fun K28 hK28 => ?_)
      refine wpIn_region_lit ?_
      refine wpi_exG (v := .pointer (some ⟨p, 0, none⟩)) (fun _ => trivial) (wn rfl) rfl (ex_load rfl rfl (run_load1 crna36 (hv.load 3 0 rfl rfl))) ?_
      refine wpi_callG crcallable46 (fun _ => trivial) wideC rfl (wn rfl) rfl (args := #[.pointer (some ⟨p, 0, none⟩)]) (by simp only [List.map_toArray, List.map_cons, List.map_nil]; rfl) ((diskWritesSl B _ _ _ hv).mono ?_)
      rintro e w30 ⟨b29, rfl, hv⟩
      refine ⟨_, rfl, ?_⟩
      refine wpListIn_nil ?_
      simp only [Act.put, List.setIfInBounds_toArray, List.set_cons_succ, List.set_cons_zero]
      refine then_normal (hK28 _ _ ?_)
      clear hK28 K28
      refine wpIn_block ?_
      have hmax := hok.max
      have hP := Inv.diskParts hok (((hv.front 7 rfl).front 7 rfl).front 7 rfl)
      have hcB := hv.load 0 0 (b := b29) rfl rfl
      have hlts := fun (r : Res) (hr : r ∈ ([Res.cell b29 [.pointer (some ⟨p, 0, none⟩)] 36, Res.cell b24 [.int .i64 0] 3, Res.cell b7 [.slice (some ⟨b5, 0, none⟩) D.pend.length D.pend.length] 96, Res.cell b5 (boolsOf D.pend.length ks) 4, Res.cell b2 [.pointer (some ⟨p, 0, none⟩)] 36, Res.cell p [.slice (some ⟨gd, 0, none⟩) D.dur.length D.dur.length, .slice vad D.pend.length vc, .int .i64 D.left] 87, Res.cell gd (durCells D.dur) 90] : List Res)) => hv.lt r (List.mem_append_left (Res.row 92 65 (.slice vad D.pend.length vc) D.pend.length (pendCells D.pend) :: H) hr)
      refine sl_writes (by omega) (bw := b29) (p := p) (gd := gd) (D := D) rfl hP hcB (by omega) rfl (K := [Res.cell b29 [.pointer (some ⟨p, 0, none⟩)] 36, Res.cell b24 [.int .i64 0] 3, Res.cell b7 [.slice (some ⟨b5, 0, none⟩) D.pend.length D.pend.length] 96, Res.cell b5 (boolsOf D.pend.length ks) 4, Res.cell b2 [.pointer (some ⟨p, 0, none⟩)] 36, Res.cell p [.slice (some ⟨gd, 0, none⟩) D.dur.length D.dur.length, .slice vad D.pend.length vc, .int .i64 D.left] 87, Res.cell gd (durCells D.dur) 90]) (H := Res.row 92 65 (.slice vad D.pend.length vc) D.pend.length (pendCells D.pend) :: H) hv (fun g hg => by rw [List.flatMap_cons]; exact List.mem_append_left _ (by simp [hg])) (fun pre => [Res.cell b29 [.pointer (some ⟨p, 0, none⟩)] 36, Res.cell b24 [.int .i64 ((keptOf ks pre).length : Int)] 3, Res.cell b7 [.slice (some ⟨b5, 0, none⟩) D.pend.length D.pend.length] 96, Res.cell b5 (boolsOf D.pend.length ks) 4, Res.cell b2 [.pointer (some ⟨p, 0, none⟩)] 36, Res.cell p [.slice (some ⟨gd, 0, none⟩) D.dur.length D.dur.length, .slice vad D.pend.length vc, .int .i64 D.left] 87, Res.cell gd (durCells ((keptOf ks pre).foldl Disk.put D.dur)) 90]) rfl (fun x b => { tmps := #[.pointer (some ⟨p, 0, none⟩), .slice ka n kc, .pointer (some ⟨b2, 0, none⟩), undef, .int .i64 0, .pointer (some ⟨b7, 0, none⟩), undef, u7, .pointer (some ⟨b24, 0, none⟩), .int .i64 (x.1.1 : Int), .pointer (some ⟨b, 0, none⟩), .pointer (some ⟨p, 0, none⟩), .pointer (some ⟨p, 0, none⟩), .pointer (some ⟨p, 1, none⟩), .slice vad D.pend.length vc, .int .i64 (D.pend.length : Int), .slice (some ⟨b5, 0, none⟩) D.pend.length D.pend.length, .slice ka n kc, .int .i64 (n : Int), .int .i64 (i : Int), .bool false, u21, u22, u23, u24, u25, u26, u27, u28, u29, u30, u31, u32, u33, u34, .pointer (some ⟨p, 0, none⟩), .func (.func 57) #[] #[.pointer (some ⟨b29, 0, none⟩)], .int .i64 (x.1.1 : Int), .agg (wrCells x.1.2).toArray, undef, undef, undef, undef, undef, undef, undef, undef, undef, undef, undef, undef, undef, undef, undef, undef, undef, undef, undef, undef, undef, undef], defers := [] }) ?cel ?fp ?assign ?body ?done
      case cel =>
        intro pre r hr
        simp only [List.mem_cons, List.not_mem_nil, or_false] at hr
        rcases hr with rfl | rfl | rfl | rfl | rfl | rfl | rfl
        all_goals exact celled_cell _ _ _
      case fp =>
        intro pre r hr b hb
        simp only [List.mem_cons, List.not_mem_nil, or_false] at hr
        rcases hr with rfl | rfl | rfl | rfl | rfl | rfl | rfl
        · rw [show b = _ from List.mem_singleton.1 hb]; exact hlts (Res.cell b29 [.pointer (some ⟨p, 0, none⟩)] 36) (by simp) _ (by simp)
        · rw [show b = _ from List.mem_singleton.1 hb]; exact hlts (Res.cell b24 [.int .i64 0] 3) (by simp) _ (by simp)
        · rw [show b = _ from List.mem_singleton.1 hb]; exact hlts (Res.cell b7 [.slice (some ⟨b5, 0, none⟩) D.pend.length D.pend.length] 96) (by simp) _ (by simp)
        · rw [show b = _ from List.mem_singleton.1 hb]; exact hlts (Res.cell b5 (boolsOf D.pend.length ks) 4) (by simp) _ (by simp)
        · rw [show b = _ from List.mem_singleton.1 hb]; exact hlts (Res.cell b2 [.pointer (some ⟨p, 0, none⟩)] 36) (by simp) _ (by simp)
        · rw [show b = _ from List.mem_singleton.1 hb]; exact hlts (Res.cell p [.slice (some ⟨gd, 0, none⟩) D.dur.length D.dur.length, .slice vad D.pend.length vc, .int .i64 D.left] 87) (by simp) _ (by simp)
        · rw [show b = _ from List.mem_singleton.1 hb]; exact hlts (Res.cell gd (durCells D.dur) 90) (by simp) _ (by simp)
      case assign =>
        intro l pre x w B' hB' hv
        have hx := pendEl_len hok x
        simp only [pendEnc, List.zip_toArray, List.zip_cons_cons, List.zip_nil_left, List.zip_nil_right, List.foldl_toArray', List.foldl_cons, List.foldl_nil, List.setIfInBounds_toArray, List.set_cons_succ, List.set_cons_zero]
        refine wpIn_seq_k (fun K31 hK31 => ?_)
        refine wpIn_region_lit ?_
        refine wpi_exG (v := .int .i64 (x.1.1 : Int)) (fun _ => trivial) (wn rfl) rfl (ex_assign rfl rfl) ?_
        refine wpListIn_nil ?_
        simp only [Act.put, List.setIfInBounds_toArray, List.set_cons_succ, List.set_cons_zero]
        refine then_normal (hK31 _ _ ?_)
        clear hK31 K31
        refine wpIn_region_lit ?_
        refine sl_alloc (fun _ => trivial) (wn rfl) rfl hv cral92 (fun b32 w33 hv => ?_)
        refine sl_storeNAt 0 (new := wrCells x.1.2) (pre := []) (mid := [.int .i64 0, .int .u8 0, .int .u8 0, .int .u8 0, .int .u8 0, .int .u8 0, .int .u8 0, .int .u8 0, .int .u8 0, .int .u8 0, .int .u8 0, .int .u8 0, .int .u8 0, .int .u8 0, .int .u8 0, .int .u8 0, .int .u8 0, .int .u8 0, .int .u8 0, .int .u8 0, .int .u8 0, .int .u8 0, .int .u8 0, .int .u8 0, .int .u8 0, .int .u8 0, .int .u8 0, .int .u8 0, .int .u8 0, .int .u8 0, .int .u8 0, .int .u8 0, .int .u8 0, .int .u8 0, .int .u8 0, .int .u8 0, .int .u8 0, .int .u8 0, .int .u8 0, .int .u8 0, .int .u8 0, .int .u8 0, .int .u8 0, .int .u8 0, .int .u8 0, .int .u8 0, .int .u8 0, .int .u8 0, .int .u8 0, .int .u8 0, .int .u8 0, .int .u8 0, .int .u8 0, .int .u8 0, .int .u8 0, .int .u8 0, .int .u8 0, .int .u8 0, .int .u8 0, .int .u8 0, .int .u8 0, .int .u8 0, .int .u8 0, .int .u8 0, .int .u8 0]) (post := []) (L' := wrCells x.1.2) (fun _ => trivial) (wn rfl) rfl rfl rfl hv rfl (szWrite _ (wrLen hx.2)) rfl rfl (by rw [wrLen hx.2]; rfl) (wrOne _) (by simp) (fun w34 hv => ?_)
        simp only [List.set_cons_succ, List.set_cons_zero] at hv
        refine wpListIn_nil ?_
        simp only [Act.put, List.setIfInBounds_toArray, List.set_cons_succ, List.set_cons_zero]
        exact ⟨by trivial, _, rfl, hv⟩
      case body =>
        intro l pre x b w B' hB' hv hN
        have hx := pendEl_len hok x
        have hds : ∀ s ∈ (keptOf ks pre).foldl Disk.put D.dur, s.length = 64 := Disk.foldl_put_mem hok.dur (fun q hq => by obtain ⟨y, _, rfl⟩ := List.mem_map.1 hq; exact (pendEl_len hok y).2)
        have hxd : x.1.2.1 < ((keptOf ks pre).foldl Disk.put D.dur).length := by rw [Disk.foldl_put_length]; exact hx.1
        have hxn : x.1.1 < D.pend.length := (List.getElem?_eq_some_iff.1 x.2).1
        have hkl := keptOf_le ks pre
        refine wpIn_block ?_
        refine wpIn_seq_k (fun K35 hK35 => ?_)
        refine wpIn_region_lit ?_
        refine wpi_exG (v := .slice (some ⟨b5, 0, none⟩) D.pend.length D.pend.length) (fun _ => trivial) (wn rfl) rfl (ex_load rfl rfl (run_load1 crna96 (hv.load 3 0 rfl rfl))) ?_
        refine wpi_exG (v := .int .i64 (x.1.1 : Int)) (fun _ => trivial) (wn rfl) rfl (ex_move rfl rfl) ?_
        refine wpi_exG (v := .pointer (some ⟨b5, 0 + x.1.1, none⟩)) (fun _ => trivial) (wn rfl) rfl (ex_index rfl rfl rfl (run_idx1 (k := x.1.1) Try.underlying96 cres96 (by omega))) ?_
        simp only [Act.put, List.setIfInBounds_toArray, List.set_cons_succ, List.set_cons_zero]
        rcases hkc : ks.contains (x.1.1 : Int)
        · refine wpi_exG (v := .bool false) (fun _ => trivial) (wn rfl) rfl (ex_load rfl rfl (run_load1 crna4 (hv.load 4 (0 + x.1.1) rfl (boolsOf_get _ _ _ hxn hkc)))) ?_
          refine wpListIn_nil ?_
          simp only [Act.put, List.setIfInBounds_toArray, List.set_cons_succ, List.set_cons_zero]
          refine then_normal (hK35 _ _ ?_)
          clear hK35 K35
          refine wpIn_cond_false rfl ?_
          refine wpIn_skip ?_
          refine blk_normal ?_
          rw [keptOf_no hkc]
          exact ⟨by trivial, hv.drop⟩
        · refine wpi_exG (v := .bool true) (fun _ => trivial) (wn rfl) rfl (ex_load rfl rfl (run_load1 crna4 (hv.load 4 (0 + x.1.1) rfl (boolsOf_get _ _ _ hxn hkc)))) ?_
          refine wpListIn_nil ?_
          simp only [Act.put, List.setIfInBounds_toArray, List.set_cons_succ, List.set_cons_zero]
          refine then_normal (hK35 _ _ ?_)
          clear hK35 K35
          refine wpIn_cond_true rfl ?_
          refine wpIn_seq_k (fun K36 hK36 => ?_)
          refine region_stR mixed (fun ⟨_, _, h⟩ => by simp [Exit.then, Exit.inBlock] at h) [.pointer (some ⟨p, 0, none⟩), .pointer (some ⟨p, 0, none⟩), .pointer (some ⟨p, 0, none⟩), .slice (some ⟨gd, 0, none⟩) D.dur.length D.dur.length, .pointer (some ⟨b, 0, none⟩), .int .i64 (x.1.2.1 : Int), .pointer (some ⟨b, 1, none⟩), .agg (x.1.2.2.map B8).toArray, .pointer (some ⟨gd, 0 + x.1.2.1 * 64, none⟩), undef] [9] [⟨fun vals w => vals = [] ∧ Inv B' (Res.cell b (wrCells x.1.2) 92 :: Res.cell b29 [.pointer (some ⟨p, 0, none⟩)] 36 :: Res.cell b24 [.int .i64 ((keptOf ks pre).length : Int)] 3 :: Res.cell b7 [.slice (some ⟨b5, 0, none⟩) D.pend.length D.pend.length] 96 :: Res.cell b5 (boolsOf D.pend.length ks) 4 :: Res.cell b2 [.pointer (some ⟨p, 0, none⟩)] 36 :: Res.cell p [.slice (some ⟨gd, 0, none⟩) D.dur.length D.dur.length, .slice vad D.pend.length vc, .int .i64 D.left] 87 :: Res.cell gd (durCells ((keptOf ks pre).foldl Disk.put D.dur)) 90 :: []) w, fun _ _ _ ⟨h, hi⟩ he => ⟨h, hi.ext he⟩⟩, ⟨fun vals w => vals = [undef] ∧ Inv B' (Res.cell b (wrCells x.1.2) 92 :: Res.cell b29 [.pointer (some ⟨p, 0, none⟩)] 36 :: Res.cell b24 [.int .i64 ((keptOf ks pre).length : Int)] 3 :: Res.cell b7 [.slice (some ⟨b5, 0, none⟩) D.pend.length D.pend.length] 96 :: Res.cell b5 (boolsOf D.pend.length ks) 4 :: Res.cell b2 [.pointer (some ⟨p, 0, none⟩)] 36 :: Res.cell p [.slice (some ⟨gd, 0, none⟩) D.dur.length D.dur.length, .slice vad D.pend.length vc, .int .i64 D.left] 87 :: Res.cell gd (durCells (((keptOf ks pre).foldl Disk.put D.dur).set x.1.2.1 x.1.2.2)) 90 :: []) w, fun _ _ _ ⟨h, hi⟩ he => ⟨h, hi.ext he⟩⟩] 61 rfl (by kernel_rfl) (by kernel_rfl) ⟨rfl, hv⟩ ⟨?_, ?_, ?_, ?_, ?_, ?_, ?_, ?_, ?_, ?_, trivial⟩ ?_
          · intro aa ww vals hJ hR
            have h2 : vals.length ≤ 0 := hR.hi 9 (by simp) rfl
            have hl : vals.length = 0 := by omega
            obtain ⟨hvals, hv⟩ := hJ.at0 hl
            exact add_step' rfl (Ex.adds' (ex_load rfl (show aa.eval (.tmp 2) = _ from hR.keep 2 rfl) (run_load1 crna36 (hv.load 5 0 rfl rfl))) (wn rfl) rfl)
          · intro aa ww vals hJ hR
            exact add_step' rfl (Ex.adds' (ex_nil rfl (show aa.eval (.tmp 43) = _ from hR.v 0 43 rfl rfl rfl rfl)) (wn rfl) rfl)
          · intro aa ww vals hJ hR
            exact add_step' rfl (Ex.adds' (ex_field rfl (show aa.eval (.tmp 44) = _ from hR.v 1 44 rfl rfl rfl rfl) (crfa87_0 _ _ _)) (wn rfl) rfl)
          · intro aa ww vals hJ hR
            have h2 : vals.length ≤ 0 := hR.hi 9 (by simp) rfl
            have hl : vals.length = 0 := by omega
            obtain ⟨hvals, hv⟩ := hJ.at0 hl
            exact add_step' rfl (Ex.adds' (ex_load rfl (show aa.eval (.tmp 45) = _ from hR.v 2 45 rfl rfl rfl rfl) (run_load1 crna84 (hv.load 6 0 rfl rfl))) (wn rfl) rfl)
          · intro aa ww vals hJ hR
            exact add_step' rfl (Ex.adds' (ex_field rfl (show aa.eval (.tmp 10) = _ from hR.keep 10 rfl) (crfa92_0 _ _ _)) (wn rfl) rfl)
          · intro aa ww vals hJ hR
            have h2 : vals.length ≤ 0 := hR.hi 9 (by simp) rfl
            have hl : vals.length = 0 := by omega
            obtain ⟨hvals, hv⟩ := hJ.at0 hl
            exact add_step' rfl (Ex.adds' (ex_load rfl (show aa.eval (.tmp 47) = _ from hR.v 4 47 rfl rfl rfl rfl) (run_load1 crna3 (hv.load 0 0 rfl rfl))) (wn rfl) rfl)
          · intro aa ww vals hJ hR
            exact add_step' rfl (Ex.adds' (ex_field rfl (show aa.eval (.tmp 10) = _ from hR.keep 10 rfl) (crfa92_1 _ _ _)) (wn rfl) rfl)
          · intro aa ww vals hJ hR
            have h2 : vals.length ≤ 0 := hR.hi 9 (by simp) rfl
            have hl : vals.length = 0 := by omega
            obtain ⟨hvals, hv⟩ := hJ.at0 hl
            exact add_step' rfl (Ex.adds' (ex_load rfl (show aa.eval (.tmp 49) = _ from hR.v 6 49 rfl rfl rfl rfl) (loadW1 (x := x.1.2) hx.2 (hv.get 0 rfl))) (wn rfl) rfl)
          · intro aa ww vals hJ hR
            exact add_step' rfl (Ex.adds' (ex_index rfl (show aa.eval (.tmp 46) = _ from hR.v 3 46 rfl rfl rfl rfl) (show aa.eval (.tmp 48) = _ from hR.v 5 48 rfl rfl rfl rfl) (run_idx (k := x.1.2.1) Try.underlying84 cres84 (by omega))) (wn rfl) rfl)
          · intro aa ww vals hJ hR
            refine mem_step' rfl fun hvl => ?_
            have hl : vals.length = 0 := hvl
            obtain ⟨hvals, hv⟩ := hJ.at0 hl
            exact ExU.mem (ex_store rfl (show aa.eval (.tmp 51) = _ from hR.v 8 51 rfl rfl rfl rfl) (show aa.eval (.tmp 50) = _ from hR.v 7 50 rfl rfl rfl rfl) (storeSec (hv.get 7 rfl) hds x.1.2.1 hxd x.1.2.2 hx.2)) (wn rfl) (JS.next hl ⟨by rw [hvals]; rfl, (hv.putAt 7 rfl _)⟩)
          rintro w37 vals ⟨rfl, hv⟩
          rw [show mixV [9] [undef] 0 [.pointer (some ⟨p, 0, none⟩), .pointer (some ⟨p, 0, none⟩), .pointer (some ⟨p, 0, none⟩), .slice (some ⟨gd, 0, none⟩) D.dur.length D.dur.length, .pointer (some ⟨b, 0, none⟩), .int .i64 (x.1.2.1 : Int), .pointer (some ⟨b, 1, none⟩), .agg (x.1.2.2.map B8).toArray, .pointer (some ⟨gd, 0 + x.1.2.1 * 64, none⟩), undef] = [.pointer (some ⟨p, 0, none⟩), .pointer (some ⟨p, 0, none⟩), .pointer (some ⟨p, 0, none⟩), .slice (some ⟨gd, 0, none⟩) D.dur.length D.dur.length, .pointer (some ⟨b, 0, none⟩), .int .i64 (x.1.2.1 : Int), .pointer (some ⟨b, 1, none⟩), .agg (x.1.2.2.map B8).toArray, .pointer (some ⟨gd, 0 + x.1.2.1 * 64, none⟩), undef] from rfl]
          simp only [putAll, Act.put, List.setIfInBounds_toArray, List.set_cons_succ, List.set_cons_zero]
          refine then_normal (hK36 _ _ ?_)
          clear hK36 K36
          refine wpIn_region_lit ?_
          refine wpi_exG (v := .int .i64 ((keptOf ks pre).length : Int)) (fun _ => trivial) (wn rfl) rfl (ex_load rfl rfl (run_load1 crna3 (hv.load 2 0 rfl rfl))) ?_
          refine wpi_exG (v := .int .i64 (((keptOf ks pre).length : Int) + 1)) (fun _ => trivial) (wn rfl) rfl (ex_add (m := ((keptOf ks pre).length : Int)) (n := 1) rfl rfl rfl (i64_in (by omega))) ?_
          refine sl_storeAt 2 (v := .int .i64 (((keptOf ks pre).length : Int) + 1)) (L' := [.int .i64 (((keptOf ks pre).length : Int) + 1)]) (fun _ => trivial) (wn rfl) rfl rfl rfl hv rfl crsz3 (by simp) rfl rfl rfl (fun w38 hv => ?_)
          simp only [List.set_cons_succ, List.set_cons_zero] at hv
          refine wpListIn_nil ?_
          simp only [Act.put, List.setIfInBounds_toArray, List.set_cons_succ, List.set_cons_zero]
          refine blk_normal ?_
          rw [keptOf_yes hkc, List.foldl_append, List.length_append]
          exact ⟨by trivial, hv.drop⟩
      case done =>
        intro d39 xs w40 hS hv
        simp only [List.cons_append, List.nil_append] at hv
        refine blk_normal ?_
        refine then_normal (hK27 _ _ ?_)
        clear hK27 K27
        refine wpIn_seq_k (fun K41 hK41 => ?_)
        refine wpIn_region_lit ?_
        refine wpi_exG (v := .pointer (some ⟨p, 0, none⟩)) (fun _ => trivial) (wn rfl) rfl (ex_load rfl rfl (run_load1 crna36 (hv.load 5 0 rfl rfl))) ?_
        refine wpi_exG (v := .pointer (some ⟨p, 0, none⟩)) (fun _ => trivial) (wn rfl) rfl (ex_nil rfl rfl) ?_
        refine wpi_exG (v := .pointer (some ⟨p, 1, none⟩)) (fun _ => trivial) (wn rfl) rfl (ex_field rfl rfl (crfa87_1 _ _ _)) ?_
        simp only [Act.put, List.setIfInBounds_toArray, List.set_cons_succ, List.set_cons_zero]
        refine sl_storeAt 6 (v := .slice none 0 0) (L' := [.slice (some ⟨gd, 0, none⟩) D.dur.length D.dur.length, .slice none 0 0, .int .i64 D.left]) (fun _ => trivial) (wn rfl) rfl rfl rfl hv rfl crsz85 (by simp) rfl rfl rfl (fun w42 hv => ?_)
        simp only [List.set_cons_succ, List.set_cons_zero] at hv
        refine wpListIn_nil ?_
        simp only [Act.put, List.setIfInBounds_toArray, List.set_cons_succ, List.set_cons_zero]
        refine then_normal (hK41 _ _ ?_)
        clear hK41 K41
        refine wpIn_seq_k (fun K43 hK43 => ?_)
        refine wpIn_region_lit ?_
        refine wpi_exG (v := .pointer (some ⟨p, 0, none⟩)) (fun _ => trivial) (wn rfl) rfl (ex_load rfl rfl (run_load1 crna36 (hv.load 5 0 rfl rfl))) ?_
        refine wpi_exG (v := .pointer (some ⟨p, 0, none⟩)) (fun _ => trivial) (wn rfl) rfl (ex_nil rfl rfl) ?_
        refine wpi_exG (v := .pointer (some ⟨p, 2, none⟩)) (fun _ => trivial) (wn rfl) rfl (ex_field rfl rfl (crfa87_2 _ _ _)) ?_
        simp only [Act.put, List.setIfInBounds_toArray, List.set_cons_succ, List.set_cons_zero]
        refine sl_storeAt 6 (v := .int .i64 (-1)) (L' := [.slice (some ⟨gd, 0, none⟩) D.dur.length D.dur.length, .slice none 0 0, .int .i64 (-1)]) (fun _ => trivial) (wn rfl) rfl rfl rfl hv rfl crsz3 (by simp) rfl rfl rfl (fun w44 hv => ?_)
        simp only [List.set_cons_succ, List.set_cons_zero] at hv
        refine wpListIn_nil ?_
        simp only [Act.put, List.setIfInBounds_toArray, List.set_cons_succ, List.set_cons_zero]
        refine then_normal (hK43 _ _ ?_)
        clear hK43 K43
        refine wpIn_seq_k (fun K45 hK45 => ?_)
        refine wpIn_region_lit ?_
        refine wpi_exG (v := .int .i64 ((keptOf ks xs).length : Int)) (fun _ => trivial) (wn rfl) rfl (ex_load rfl rfl (run_load1 crna3 (hv.load 2 0 rfl rfl))) ?_
        refine wpi_exG (v := .int .i64 ((keptOf ks xs).length : Int)) (fun _ => trivial) (wn rfl) rfl (ex_assign rfl rfl) ?_
        refine wpListIn_nil ?_
        simp only [Act.put, List.setIfInBounds_toArray, List.set_cons_succ, List.set_cons_zero]
        refine then_normal (hK45 _ _ ?_)
        clear hK45 K45
        refine wpIn_ret ?_
        refine sl_end1 hv (fun w46 hv => ⟨_, results_tmp rfl _ _ _, ?_⟩)
        rw [keptOf_all hS] at hv ⊢
        exact ⟨rfl, crashEnd hok ((hv.tail 5).front 2 rfl).drop⟩
end Go.Proofs.Ytkannfkjnohdlaa
/- disk.Read -/
namespace Go.Proofs.Ytkannfkjnohdlaa
open Go.RowKit Go.Pm
theorem Disk.view_len (E : Disk) (l : List (Nat × List UInt8)) (at_ n : Nat) : (E.view l at_ n).length = n := by simp [Disk.view]
theorem Disk.over_len {l : List (Nat × List UInt8)} {s : List UInt8} (hl : ∀ p ∈ l, p.2.length = 64) (hs : s.length = 64) (i : Nat) : (Disk.over l i s).length = 64 := by
  unfold Disk.over
  induction l generalizing s with
  | nil => exact hs
  | cons p l ih =>
    rw [List.foldl_cons]
    refine ih (fun q hq => hl q (by simp [hq])) ?_
    split
    · exact hl p (by simp)
    · exact hs
theorem Disk.view_64 {E : Disk} (hok : E.Ok) {l : List (Nat × List UInt8)} (hl : ∀ p ∈ l, p.2.length = 64) {at_ n : Nat} (h : at_ + n ≤ E.dur.length) : ∀ s ∈ E.view l at_ n, s.length = 64 := by
  intro s hs
  obtain ⟨k, hk, rfl⟩ := List.mem_map.1 hs
  have hk := List.mem_range.1 hk
  refine Disk.over_len hl ?_ _
  rw [List.getD_eq_getElem?_getD, List.getElem?_eq_getElem (by omega)]
  exact hok.dur _ (List.getElem_mem _)
theorem Disk.view_succ (E : Disk) (at_ i : Nat) (h : at_ + i < E.dur.length) : E.view [] at_ (i + 1) = E.view [] at_ i ++ [E.dur[at_ + i]] := by
  unfold Disk.view Disk.over
  rw [List.range_succ, List.map_append]
  simp [List.getD_eq_getElem?_getD, List.getElem?_eq_getElem h]
theorem Disk.over_snoc (l : List (Nat × List UInt8)) (x : Nat × List UInt8) (i : Nat) (s : List UInt8) : Disk.over (l ++ [x]) i s = if x.1 = i then x.2 else Disk.over l i s := by
  unfold Disk.over
  rw [List.foldl_append]
  rfl
theorem Disk.view_in (E : Disk) (l : List (Nat × List UInt8)) (x : Nat × List UInt8) (at_ n : Nat) (h1 : at_ ≤ x.1) : (E.view l at_ n).set (x.1 - at_) x.2 = E.view (l ++ [x]) at_ n := by
  apply List.ext_getElem
  · simp [Disk.view]
  · intro i h2 h3
    rw [List.getElem_set]
    simp only [Disk.view, List.getElem_map, List.getElem_range, Disk.over_snoc]
    by_cases hi : x.1 - at_ = i
    · rw [if_pos hi, if_pos (by omega)]
    · rw [if_neg hi, if_neg (by omega)]
theorem Disk.view_out (E : Disk) (l : List (Nat × List UInt8)) (x : Nat × List UInt8) (at_ n : Nat) (h : x.1 < at_ ∨ at_ + n ≤ x.1) : E.view (l ++ [x]) at_ n = E.view l at_ n := by
  unfold Disk.view
  apply List.map_congr_left
  intro k hk
  have hk := List.mem_range.1 hk
  rw [Disk.over_snoc, if_neg (by omega)]
theorem durCells_app (a b : List (List UInt8)) : durCells (a ++ b) = durCells a ++ durCells b := by simp [durCells]
theorem elem8 : Elem Try.prog 24 5 (.int .u8 0) 1 1 := by
  refine ⟨Try.underlying24, ?_, rfl, by omega⟩
  obtain ⟨i, hi, h⟩ := Option.map_eq_some_iff.1 (show (Try.prog.info? 5).map (fun i => (i.zero, i.size, i.bytes)) = some (some (.int .u8 0), 1, 1) by kernel_rfl)
  simp only [Prod.mk.injEq] at h
  exact ⟨i, hi, h⟩
theorem durSrc {w : World} {gd : Nat} {d : List (List UInt8)} (hb : Blk w gd (durCells d) 90) (hd : ∀ s ∈ d, s.length = 64) (k : Nat) (hk : k < d.length) : Src w (some ⟨gd, 0 + k * 64, none⟩) (d[k].map B8) := by
  rw [durCells_split d k hk] at hb
  refine src_mid hb ?_
  rw [durCells_length (fun s hs => hd s (List.mem_of_mem_take hs)), List.length_take, Nat.min_eq_left (Nat.le_of_lt hk)]
  omega
section
variable {a : Act} {o : Oper} {x y : Operand} {w : World}
theorem rdAppend {bb gd at_ i n : Nat} {E : Disk} (hok : E.Ok) (hin : i < n) (hat : at_ + n ≤ E.dur.length) (ho : o.op = .call { callee := .builtin .append, args := #[x, y], argTypes := #[24, 24] })
    (hx : a.eval x = .slice (some ⟨bb, 0, none⟩) (i * 64) (n * 64)) (hy : a.eval y = .slice (some ⟨gd, 0 + (at_ + i) * 64, none⟩) 64 64) (hb : Blk w bb (durCells (E.view [] at_ i) ++ List.replicate (64 * (n - i)) (.int .u8 0)) 5) (hg : Blk w gd (durCells E.dur) 90) :
    Ex Try.prog a o w (.slice (some ⟨bb, 0, none⟩) (i * 64 + 64) (n * 64)) (setBlk w bb (durCells (E.view [] at_ (i + 1)) ++ List.replicate (64 * (n - (i + 1))) (Value.int .u8 0))) := by
  have hl : (E.dur[at_ + i]).length = 64 := hok.dur _ (List.getElem_mem _)
  have e1 : List.replicate (64 * (n - i)) (Value.int .u8 0) = List.replicate 64 (.int .u8 0) ++ List.replicate (64 * (n - (i + 1))) (Value.int .u8 0) := by rw [List.replicate_append_replicate]; congr 1; omega
  rw [e1, ← List.append_assoc] at hb
  have := ex_appendRoom (P := Try.prog) (l := i * 64) (c := n * 64) (m := 64) (news := (E.dur[at_ + i]).map B8) elem8 ho hx hy hb (by rw [durCells_length (Disk.view_64 hok (by simp) (by omega)), Disk.view_len]) (by simp) (by simp [hl]) (by omega) (durSrc hg hok.dur (at_ + i) (by omega)) (oneCell_bytes _)
  rw [Disk.view_succ E at_ i (by omega), durCells_app]
  simpa [durCells] using this
theorem rdCopy {bb b at_ n : Nat} {E : Disk} (hok : E.Ok) {l : List (Nat × List UInt8)} (hl : ∀ p ∈ l, p.2.length = 64) {q : Nat × List UInt8} (hq : q.2.length = 64) (h1 : at_ ≤ q.1) (h2 : q.1 < at_ + n) (hat : at_ + n ≤ E.dur.length) (ho : o.op = .call { callee := .builtin .copy, args := #[x, y], argTypes := #[24, 24] })
    (hx : a.eval x = .slice (some ⟨bb, 0 + (q.1 - at_) * 64, none⟩) (n * 64 - (q.1 - at_) * 64) (n * 64 - (q.1 - at_) * 64)) (hy : a.eval y = .slice (some ⟨b, 1, none⟩) 64 64) (hb : Blk w bb (durCells (E.view l at_ n)) 5) (hg : Blk w b (wrCells q) 92) :
    Ex Try.prog a o w (.int .i64 64) (setBlk w bb (durCells (E.view (l ++ [q]) at_ n))) := by
  have hv64 := Disk.view_64 hok hl hat
  have hlen := Disk.view_len E l at_ n
  have hk : q.1 - at_ < (E.view l at_ n).length := by omega
  rw [durCells_split _ (q.1 - at_) hk] at hb
  rw [← Disk.view_in E l q at_ n h1, durCells_set _ (q.1 - at_) hk]
  have hs : Src w (some ⟨b, 1, none⟩) (q.2.map B8) := src_mid (pre := [.int .i64 (q.1 : Int)]) (post := []) (t := 92) (by simpa [wrCells] using hg) rfl
  have hc := run_copy_mid (P := Try.prog) (dT := 24) (el := 5) (ty := o.type) (dLen := n * 64 - (q.1 - at_) * 64) (dCap := n * 64 - (q.1 - at_) * 64) (sLen := 64) (sCap := 64) (cs := q.2.map B8) Try.underlying24 (by kernel_rfl) hb (0 + (q.1 - at_) * 64)
    (by rw [durCells_length (fun s hs => hv64 s (List.mem_of_mem_take hs)), List.length_take, Nat.min_eq_left (Nat.le_of_lt hk)]; omega) (by rw [List.length_map, List.length_map, hq]; exact hv64 _ (List.getElem_mem hk)) (by rw [List.length_map, hq]; exact (Nat.min_eq_left (by omega)).symm) ⟨Nat.le_refl _, by unfold maxLen; omega, fun h => by cases h⟩ hs (oneCell_bytes _)
  rw [show goInt (q.2.map B8).length = .int .i64 64 by rw [List.length_map, hq]; rfl] at hc
  exact ex_copy ho hx hy hc
end
theorem pre64 {D : Disk} (hok : D.Ok) (pre : List (PendEl D)) : ∀ p ∈ pre.map (·.1.2), p.2.length = 64 := by
  intro p hp
  obtain ⟨y, _, rfl⟩ := List.mem_map.1 hp
  exact (pendEl_len hok y).2
theorem map_snoc {D : Disk} (pre : List (PendEl D)) (x : PendEl D) : (pre ++ [x]).map (·.1.2) = pre.map (·.1.2) ++ [x.1.2] := by simp
theorem all_pend {D : Disk} {xs : List (PendEl D)} (h : xs.map (·.1) = numbered D) : xs.map (·.1.2) = D.pend := by
  have h1 := congrArg (List.map (·.2)) h
  rw [numbered_snd, List.map_map] at h1
  exact h1

theorem rdna3 (w : World) : (isAgg 3).run Try.prog w = .ok false w := by kernel_rfl
theorem rdcallable44 : Callable Try.prog 44 := ⟨_, Try.func44, by kernel_rfl, by kernel_rfl⟩
set_option maxRecDepth 100000 in
set_option maxHeartbeats 2000000 in
theorem diskReadBad (B : Base) (H : List Res) (w : World) (p : Nat) (D : Disk) (F : List Nat) (at_ n : Int) (hv : Inv B (diskR p D F :: H) w) (ha : -9223372036854775808 ≤ at_ ∧ at_ ≤ 9223372036854775807) (hh : D.has at_ n = false) :
    Calls Try.prog 26 #[.pointer (some ⟨p, 0, none⟩), .int .i64 at_, .int .i64 n] w fun e w' => e = .returned (.tuple #[.slice none 0 0, .int .i64 2]) ∧ Inv B (diskR p D F :: H) w' := by
  refine (callsIn_wide (n := 5)).1 ?_
  refine callsIn_of_wp_marks Try.func26 rfl trivial ?_ rfl
  simp only [Try.ntmps26, List.size_toArray, List.length_cons, List.length_nil, Nat.reduceAdd, Nat.reduceSub, Array.replicate_succ, Array.replicate_zero, List.push_toArray, List.append_toArray, List.nil_append, List.cons_append]
  refine wpIn_seq_k (fun K1 hK1 => ?_)
  refine wpIn_region_lit ?_
  refine sl_box (L := [.int .i64 at_]) (fun _ => trivial) (wn rfl) rfl (p := .int .i64 at_) rfl hv (fun w => by kernel_rfl) (fun b2 w3 hv => ?_)
  refine sl_box (L := [.int .i64 n]) (fun _ => trivial) (wn rfl) rfl (p := .int .i64 n) rfl hv (fun w => by kernel_rfl) (fun b4 w5 hv => ?_)
  refine wpi_exG (v := .slice none 0 0) (fun _ => trivial) (wn rfl) rfl (ex_assign rfl rfl) ?_
  simp only [Act.put, List.setIfInBounds_toArray, List.set_cons_succ, List.set_cons_zero]
  refine wpi_exG (v := .int .i64 0) (fun _ => trivial) (wn rfl) rfl (ex_assign rfl rfl) ?_
  refine wpListIn_nil ?_
  simp only [Act.put, List.setIfInBounds_toArray, List.set_cons_succ, List.set_cons_zero]
  refine then_normal (hK1 _ _ ?_)
  clear hK1 K1
  refine wpIn_seq_k (fun K6 hK6 => ?_)
  refine wpIn_seq_k (fun K7 hK7 => ?_)
  refine wpIn_region_lit ?_
  refine wpi_exG (v := .pointer (some ⟨p, 0, none⟩)) (fun _ => trivial) (wn rfl) rfl (ex_move rfl rfl) ?_
  refine wpi_exG (v := .int .i64 at_) (fun _ => trivial) (wn rfl) rfl (ex_load rfl rfl (run_load1 rdna3 (hv.load 1 0 rfl rfl))) ?_
  refine wpi_exG (v := .int .i64 n) (fun _ => trivial) (wn rfl) rfl (ex_load rfl rfl (run_load1 rdna3 (hv.load 0 0 rfl rfl))) ?_
  simp only [Act.put, List.setIfInBounds_toArray, List.set_cons_succ, List.set_cons_zero]
  refine wpi_callG rdcallable44 (fun _ => trivial) wideC rfl (wn rfl) rfl (args := #[.pointer (some ⟨p, 0, none⟩), .int .i64 at_, .int .i64 n]) (by simp only [List.map_toArray, List.map_cons, List.map_nil]; rfl) ((diskHasSl _ p D F _ _ (b := false) hh (hv.get 2 rfl) ha).mono ?_)
  rintro e w8 ⟨rfl, rfl⟩
  refine ⟨_, rfl, ?_⟩
  refine wpi_exG (v := .bool true) (fun _ => trivial) (wn rfl) rfl (ex_not rfl rfl rfl) ?_
  refine wpListIn_nil ?_
  simp only [Act.put, List.setIfInBounds_toArray, List.set_cons_succ, List.set_cons_zero]
  refine then_normal (hK7 _ _ ?_)
  clear hK7 K7
  refine wpIn_cond_true rfl ?_
  refine wpIn_seq_k (fun K9 hK9 => ?_)
  refine wpIn_region_lit ?_
  refine wpi_exG (v := .slice none 0 0) (fun _ => trivial) (wn rfl) rfl (ex_assign rfl rfl) ?_
  refine wpi_exG (v := .int .i64 2) (fun _ => trivial) (wn rfl) rfl (ex_assign rfl rfl) ?_
  refine wpListIn_nil ?_
  simp only [Act.put, List.setIfInBounds_toArray, List.set_cons_succ, List.set_cons_zero]
  refine then_normal (hK9 _ _ ?_)
  clear hK9 K9
  refine wpIn_ret ?_
  refine then_ret ?_
  clear hK6 K6
  refine sl_end0 (results_tmp2 rfl _ _ _) ?_
  exact ⟨rfl, hv.tail 2⟩
theorem rdcallable45 : Callable Try.prog 45 := ⟨_, Try.func45, by kernel_rfl, by kernel_rfl⟩
set_option maxRecDepth 100000 in
set_option maxHeartbeats 2000000 in
theorem diskReadOff (B : Base) (H : List Res) (w : World) (p : Nat) (D : Disk) (F : List Nat) (at_ n : Int) (hv : Inv B (diskR p D F :: H) w) (ha : -9223372036854775808 ≤ at_ ∧ at_ ≤ 9223372036854775807) (hh : D.has at_ n = true) (hl : D.left = 0) :
    Calls Try.prog 26 #[.pointer (some ⟨p, 0, none⟩), .int .i64 at_, .int .i64 n] w fun e w' => e = .returned (.tuple #[.slice none 0 0, .int .i64 20]) ∧ Inv B (diskR p D.tick F :: H) w' := by
  refine (callsIn_wide (n := 5)).1 ?_
  refine callsIn_of_wp_marks Try.func26 rfl trivial ?_ rfl
  simp only [Try.ntmps26, List.size_toArray, List.length_cons, List.length_nil, Nat.reduceAdd, Nat.reduceSub, Array.replicate_succ, Array.replicate_zero, List.push_toArray, List.append_toArray, List.nil_append, List.cons_append]
  refine wpIn_seq_k (fun K1 hK1 => ?_)
  refine wpIn_region_lit ?_
  refine sl_box (L := [.int .i64 at_]) (fun _ => trivial) (wn rfl) rfl (p := .int .i64 at_) rfl hv (fun w => by kernel_rfl) (fun b2 w3 hv => ?_)
  refine sl_box (L := [.int .i64 n]) (fun _ => trivial) (wn rfl) rfl (p := .int .i64 n) rfl hv (fun w => by kernel_rfl) (fun b4 w5 hv => ?_)
  refine wpi_exG (v := .slice none 0 0) (fun _ => trivial) (wn rfl) rfl (ex_assign rfl rfl) ?_
  simp only [Act.put, List.setIfInBounds_toArray, List.set_cons_succ, List.set_cons_zero]
  refine wpi_exG (v := .int .i64 0) (fun _ => trivial) (wn rfl) rfl (ex_assign rfl rfl) ?_
  refine wpListIn_nil ?_
  simp only [Act.put, List.setIfInBounds_toArray, List.set_cons_succ, List.set_cons_zero]
  refine then_normal (hK1 _ _ ?_)
  clear hK1 K1
  refine wpIn_seq_k (fun K6 hK6 => ?_)
  refine wpIn_seq_k (fun K7 hK7 => ?_)
  refine wpIn_region_lit ?_
  refine wpi_exG (v := .pointer (some ⟨p, 0, none⟩)) (fun _ => trivial) (wn rfl) rfl (ex_move rfl rfl) ?_
  refine wpi_exG (v := .int .i64 at_) (fun _ => trivial) (wn rfl) rfl (ex_load rfl rfl (run_load1 rdna3 (hv.load 1 0 rfl rfl))) ?_
  refine wpi_exG (v := .int .i64 n) (fun _ => trivial) (wn rfl) rfl (ex_load rfl rfl (run_load1 rdna3 (hv.load 0 0 rfl rfl))) ?_
  simp only [Act.put, List.setIfInBounds_toArray, List.set_cons_succ, List.set_cons_zero]
  refine wpi_callG rdcallable44 (fun _ => trivial) wideC rfl (wn rfl) rfl (args := #[.pointer (some ⟨p, 0, none⟩), .int .i64 at_, .int .i64 n]) (by simp only [List.map_toArray, List.map_cons, List.map_nil]; rfl) ((diskHasSl _ p D F _ _ (b := true) hh (hv.get 2 rfl) ha).mono ?_)
  rintro e w8 ⟨rfl, rfl⟩
  refine ⟨_, rfl, ?_⟩
  refine wpi_exG (v := .bool false) (fun _ => trivial) (wn rfl) rfl (ex_not rfl rfl rfl) ?_
  refine wpListIn_nil ?_
  simp only [Act.put, List.setIfInBounds_toArray, List.set_cons_succ, List.set_cons_zero]
  refine then_normal (hK7 _ _ ?_)
  clear hK7 K7
  refine wpIn_cond_false rfl ?_
  refine wpIn_skip ?_
  refine then_normal (hK6 _ _ ?_)
  clear hK6 K6
  refine wpIn_seq_k (fun K9 hK9 => ?_)
  refine wpIn_seq_k (fun K10 hK10 => ?_)
  refine wpIn_region_lit ?_
  refine wpi_exG (v := .pointer (some ⟨p, 0, none⟩)) (fun _ => trivial) (wn rfl) rfl (ex_move rfl rfl) ?_
  refine wpi_callG rdcallable45 (fun _ => trivial) wideC rfl (wn rfl) rfl (args := #[.pointer (some ⟨p, 0, none⟩)]) (by simp only [List.map_toArray, List.map_cons, List.map_nil]; rfl) ((diskCallSl _ _ _ p D F 2 hv rfl (b := false) (by simp [hl])).mono ?_)
  rintro e w11 ⟨rfl, hv⟩
  refine ⟨_, rfl, ?_⟩
  simp only [List.set_cons_succ, List.set_cons_zero] at hv
  refine wpi_exG (v := .bool true) (fun _ => trivial) (wn rfl) rfl (ex_not rfl rfl rfl) ?_
  refine wpListIn_nil ?_
  simp only [Act.put, List.setIfInBounds_toArray, List.set_cons_succ, List.set_cons_zero]
  refine then_normal (hK10 _ _ ?_)
  clear hK10 K10
  refine wpIn_cond_true rfl ?_
  refine wpIn_seq_k (fun K12 hK12 => ?_)
  refine wpIn_region_lit ?_
  refine wpi_exG (v := .slice none 0 0) (fun _ => trivial) (wn rfl) rfl (ex_assign rfl rfl) ?_
  refine wpi_exG (v := .int .i64 20) (fun _ => trivial) (wn rfl) rfl (ex_assign rfl rfl) ?_
  refine wpListIn_nil ?_
  simp only [Act.put, List.setIfInBounds_toArray, List.set_cons_succ, List.set_cons_zero]
  refine then_normal (hK12 _ _ ?_)
  clear hK12 K12
  refine wpIn_ret ?_
  refine then_ret ?_
  clear hK9 K9
  refine sl_end0 (results_tmp2 rfl _ _ _) ?_
  exact ⟨rfl, hv.tail 2⟩
theorem rdmk5 : (Try.prog.info? 5).map (fun i => (i.zero, i.size, i.bytes)) = some (some (.int .u8 0), 1, 1) := by kernel_rfl
theorem rdal24 (w : World) : (Instr.alloc 24 true (.tuple #[])).run Try.prog w = .ok (.pointer (some ⟨w.heap.size, 0, none⟩)) (w.alloc (.cells ([.slice none 0 0] : List Value).toArray 24)) := by kernel_rfl
theorem rdsz24 : (Try.prog.info? 24).map (·.size) = some 1 := by kernel_rfl
theorem rdna24 (w : World) : (isAgg 24).run Try.prog w = .ok false w := by kernel_rfl
theorem rdfa87_0 (w : World) (b o : Nat) : (Instr.fieldAt 87 (.pointer (some ⟨b, o, none⟩)) 0).run Try.prog w = .ok (.pointer (some ⟨b, o + 0, none⟩)) w := by kernel_rfl
theorem rdna84 (w : World) : (isAgg 84).run Try.prog w = .ok false w := by kernel_rfl
theorem rdes84 (w : World) : (sizeOf (Try.prog.elem 84)).run Try.prog w = .ok 64 w := by kernel_rfl
theorem rdsa90 (w : World) (b o : Nat) : (Instr.sliceAt 90 (.pointer (some ⟨b, o, none⟩)) none none none).run Try.prog w = .ok (.slice (some ⟨b, o, none⟩) 64 64) w := by kernel_rfl
theorem rdcallable46 : Callable Try.prog 46 := ⟨_, Try.func46, by kernel_rfl, by kernel_rfl⟩
theorem rdal92 (w : World) : (Instr.alloc 92 true (.tuple #[])).run Try.prog w = .ok (.pointer (some ⟨w.heap.size, 0, none⟩)) (w.alloc (.cells ([.int .i64 0, .int .u8 0, .int .u8 0, .int .u8 0, .int .u8 0, .int .u8 0, .int .u8 0, .int .u8 0, .int .u8 0, .int .u8 0, .int .u8 0, .int .u8 0, .int .u8 0, .int .u8 0, .int .u8 0, .int .u8 0, .int .u8 0, .int .u8 0, .int .u8 0, .int .u8 0, .int .u8 0, .int .u8 0, .int .u8 0, .int .u8 0, .int .u8 0, .int .u8 0, .int .u8 0, .int .u8 0, .int .u8 0, .int .u8 0, .int .u8 0, .int .u8 0, .int .u8 0, .int .u8 0, .int .u8 0, .int .u8 0, .int .u8 0, .int .u8 0, .int .u8 0, .int .u8 0, .int .u8 0, .int .u8 0, .int .u8 0, .int .u8 0, .int .u8 0, .int .u8 0, .int .u8 0, .int .u8 0, .int .u8 0, .int .u8 0, .int .u8 0, .int .u8 0, .int .u8 0, .int .u8 0, .int .u8 0, .int .u8 0, .int .u8 0, .int .u8 0, .int .u8 0, .int .u8 0, .int .u8 0, .int .u8 0, .int .u8 0, .int .u8 0, .int .u8 0] : List Value).toArray 92)) := by kernel_rfl
theorem rdfa92_0 (w : World) (b o : Nat) : (Instr.fieldAt 92 (.pointer (some ⟨b, o, none⟩)) 0).run Try.prog w = .ok (.pointer (some ⟨b, o + 0, none⟩)) w := by kernel_rfl
theorem rdes24 (w : World) : (sizeOf (Try.prog.elem 24)).run Try.prog w = .ok 1 w := by kernel_rfl
theorem rdfa92_1 (w : World) (b o : Nat) : (Instr.fieldAt 92 (.pointer (some ⟨b, o, none⟩)) 1).run Try.prog w = .ok (.pointer (some ⟨b, o + 1, none⟩)) w := by kernel_rfl
set_option maxRecDepth 100000 in
set_option maxHeartbeats 2000000 in
theorem diskReadOk (B : Base) (H : List Res) (w : World) (p : Nat) (D : Disk) (F : List Nat) (at_ n : Nat) (hv : Inv B (diskR p D F :: H) w) (E : Disk) (hE : D.tick = E) (hpl : E.pend.length ≤ 1000000000) (hh : D.has at_ n = true) (hl : D.left ≠ 0) (hn1 : n ≤ 65536) (ha1 : at_ ≤ 65536) (hat : at_ + n ≤ E.dur.length) :
    Calls Try.prog 26 #[.pointer (some ⟨p, 0, none⟩), .int .i64 (at_ : Int), .int .i64 (n : Int)] w fun e w' => ∃ b, e = .returned (.tuple #[.slice (some ⟨b, 0, none⟩) (n * 64) (n * 64), .int .i64 0]) ∧ ∃ F', Inv B (Res.cell b (durCells (E.view E.pend at_ n)) 5 :: diskR p E F' :: H) w' := by
  refine (callsIn_wide (n := 5)).1 ?_
  refine callsIn_of_wp_marks Try.func26 rfl trivial ?_ rfl
  simp only [Try.ntmps26, List.size_toArray, List.length_cons, List.length_nil, Nat.reduceAdd, Nat.reduceSub, Array.replicate_succ, Array.replicate_zero, List.push_toArray, List.append_toArray, List.nil_append, List.cons_append]
  refine wpIn_seq_k (fun K1 hK1 => ?_)
  refine wpIn_region_lit ?_
  refine sl_box (L := [.int .i64 (at_ : Int)]) (fun _ => trivial) (wn rfl) rfl (p := .int .i64 (at_ : Int)) rfl hv (fun w => by kernel_rfl) (fun b2 w3 hv => ?_)
  refine sl_box (L := [.int .i64 (n : Int)]) (fun _ => trivial) (wn rfl) rfl (p := .int .i64 (n : Int)) rfl hv (fun w => by kernel_rfl) (fun b4 w5 hv => ?_)
  refine wpi_exG (v := .slice none 0 0) (fun _ => trivial) (wn rfl) rfl (ex_assign rfl rfl) ?_
  simp only [Act.put, List.setIfInBounds_toArray, List.set_cons_succ, List.set_cons_zero]
  refine wpi_exG (v := .int .i64 0) (fun _ => trivial) (wn rfl) rfl (ex_assign rfl rfl) ?_
  refine wpListIn_nil ?_
  simp only [Act.put, List.setIfInBounds_toArray, List.set_cons_succ, List.set_cons_zero]
  refine then_normal (hK1 _ _ ?_)
  clear hK1 K1
  refine wpIn_seq_k (fun K6 hK6 => ?_)
  refine wpIn_seq_k (fun K7 hK7 => ?_)
  refine wpIn_region_lit ?_
  refine wpi_exG (v := .pointer (some ⟨p, 0, none⟩)) (fun _ => trivial) (wn rfl) rfl (ex_move rfl rfl) ?_
  refine wpi_exG (v := .int .i64 (at_ : Int)) (fun _ => trivial) (wn rfl) rfl (ex_load rfl rfl (run_load1 rdna3 (hv.load 1 0 rfl rfl))) ?_
  refine wpi_exG (v := .int .i64 (n : Int)) (fun _ => trivial) (wn rfl) rfl (ex_load rfl rfl (run_load1 rdna3 (hv.load 0 0 rfl rfl))) ?_
  simp only [Act.put, List.setIfInBounds_toArray, List.set_cons_succ, List.set_cons_zero]
  refine wpi_callG rdcallable44 (fun _ => trivial) wideC rfl (wn rfl) rfl (args := #[.pointer (some ⟨p, 0, none⟩), .int .i64 (at_ : Int), .int .i64 (n : Int)]) (by simp only [List.map_toArray, List.map_cons, List.map_nil]; rfl) ((diskHasSl _ p D F _ _ (b := true) hh (hv.get 2 rfl) (by omega)).mono ?_)
  rintro e w8 ⟨rfl, rfl⟩
  refine ⟨_, rfl, ?_⟩
  refine wpi_exG (v := .bool false) (fun _ => trivial) (wn rfl) rfl (ex_not rfl rfl rfl) ?_
  refine wpListIn_nil ?_
  simp only [Act.put, List.setIfInBounds_toArray, List.set_cons_succ, List.set_cons_zero]
  refine then_normal (hK7 _ _ ?_)
  clear hK7 K7
  refine wpIn_cond_false rfl ?_
  refine wpIn_skip ?_
  refine then_normal (hK6 _ _ ?_)
  clear hK6 K6
  refine wpIn_seq_k (fun K9 hK9 => ?_)
  refine wpIn_seq_k (fun K10 hK10 => ?_)
  refine wpIn_region_lit ?_
  refine wpi_exG (v := .pointer (some ⟨p, 0, none⟩)) (fun _ => trivial) (wn rfl) rfl (ex_move rfl rfl) ?_
  refine wpi_callG rdcallable45 (fun _ => trivial) wideC rfl (wn rfl) rfl (args := #[.pointer (some ⟨p, 0, none⟩)]) (by simp only [List.map_toArray, List.map_cons, List.map_nil]; rfl) ((diskCallSl _ _ _ p D F 2 hv rfl (b := true) (by simp [hl])).mono ?_)
  rintro e w11 ⟨rfl, hv⟩
  refine ⟨_, rfl, ?_⟩
  simp only [List.set_cons_succ, List.set_cons_zero] at hv
  refine wpi_exG (v := .bool false) (fun _ => trivial) (wn rfl) rfl (ex_not rfl rfl rfl) ?_
  refine wpListIn_nil ?_
  simp only [Act.put, List.setIfInBounds_toArray, List.set_cons_succ, List.set_cons_zero]
  refine then_normal (hK10 _ _ ?_)
  clear hK10 K10
  refine wpIn_cond_false rfl ?_
  refine wpIn_skip ?_
  refine then_normal (hK9 _ _ ?_)
  clear hK9 K9
  refine wpIn_seq_k (fun K12 hK12 => ?_)
  replace hv := hv.front 2 rfl
  simp only [List.eraseIdx_cons_succ, List.eraseIdx_cons_zero] at hv
  rw [hE] at hv
  obtain ⟨gd, vad, vc, hok, hv⟩ := Inv.diskOpen hv
  have hmax := hok.max
  replace hv := hv.front 4 rfl
  simp only [List.eraseIdx_cons_succ, List.eraseIdx_cons_zero] at hv
  replace hv := hv.front 4 rfl
  simp only [List.eraseIdx_cons_succ, List.eraseIdx_cons_zero] at hv
  refine wpIn_region_lit ?_
  refine wpi_exG (v := .int .i64 (n : Int)) (fun _ => trivial) (wn rfl) rfl (ex_load rfl rfl (run_load1 rdna3 (hv.load 0 0 rfl rfl))) ?_
  refine wpi_exG (v := .int .i64 ((n * 64 : Nat) : Int)) (fun _ => trivial) (wn rfl) rfl (ex_mul (m := (n : Int)) (n := 64) rfl rfl rfl (by rw [i64_in (by omega)]; omega)) ?_
  refine sl_make1 (len := 0) (cap := (n * 64 : Nat)) (fun _ => trivial) (wn rfl) rfl rfl rfl Try.underlying24 rdmk5 rfl (by omega) (by unfold maxLen; omega) (by omega) hv (fun b13 w14 hv => ?_)
  simp only [Act.put, List.setIfInBounds_toArray, List.set_cons_succ, List.set_cons_zero]
  refine sl_alloc (fun _ => trivial) (wn rfl) rfl hv rdal24 (fun b15 w16 hv => ?_)
  refine sl_storeAt 0 (v := .slice (some ⟨b13, 0, none⟩) 0 (n * 64 : Nat)) (L' := [.slice (some ⟨b13, 0, none⟩) 0 (n * 64 : Nat)]) (fun _ => trivial) (wn rfl) rfl rfl rfl hv rfl rdsz24 (by simp) rfl rfl rfl (fun w17 hv => ?_)
  simp only [List.set_cons_succ, List.set_cons_zero] at hv
  refine wpListIn_nil ?_
  simp only [Act.put, List.setIfInBounds_toArray, List.set_cons_succ, List.set_cons_zero]
  refine then_normal (hK12 _ _ ?_)
  clear hK12 K12
  refine wpIn_seq_k (fun K18 hK18 => ?_)
  refine wpIn_seq_k (fun K19 hK19 => ?_)
  refine wpIn_region_lit ?_
  refine wpi_exG (v := .int .i64 (n : Int)) (fun _ => trivial) (wn rfl) rfl (ex_load rfl rfl (run_load1 rdna3 (hv.load 2 0 rfl rfl))) ?_
  refine wpi_exG (v := .int .i64 0) (fun _ => trivial) (wn rfl) rfl (ex_move rfl rfl) ?_
  refine wpListIn_nil ?_
  simp only [Act.put, List.setIfInBounds_toArray, List.set_cons_succ, List.set_cons_zero]
  refine then_normal (hK19 _ _ ?_)
  clear hK19 K19
  refine wpIn_block ?_
  gi_loopw [24] (fun x24 wr => ∃ i : Nat, x24 = .int .i64 (i : Int) ∧ i ≤ n ∧ Inv B (Res.cell b15 [.slice (some ⟨b13, 0, none⟩) (i * 64) (n * 64)] 24 :: Res.cell b13 (durCells (E.view [] at_ i) ++ List.replicate (64 * (n - i)) (Value.int .u8 0)) 5 :: Res.cell b4 [.int .i64 (n : Int)] 3 :: Res.cell b2 [.int .i64 (at_ : Int)] 3 :: Res.cell p [.slice (some ⟨gd, 0, none⟩) E.dur.length E.dur.length, .slice vad E.pend.length vc, .int .i64 E.left] 87 :: Res.cell gd (durCells E.dur) 90 :: Res.row 92 65 (.slice vad E.pend.length vc) E.pend.length (pendCells E.pend) :: H) wr) (fun x24 _ => n - (intOf x24).toNat)
  case atStart => exact ⟨0, rfl, by omega, by simpa [Disk.view, durCells, Nat.mul_comm] using hv⟩
  case round =>
    obtain ⟨i, rfl, hi, hv⟩ := hrel
    refine wpIn_seq_k (fun K21 hK21 => ?_)
    refine wpIn_region_lit ?_
    by_cases hb22 : (i : Int) < (n : Int)
    · refine wpi_exG (v := .bool true) (fun _ => trivial) (wn rfl) rfl (ex_lss (k := .i64) (m := (i : Int)) (n := (n : Int)) rfl rfl rfl (decide_eq_true hb22)) ?_
      refine wpListIn_nil ?_
      simp only [Act.put, List.setIfInBounds_toArray, List.set_cons_succ, List.set_cons_zero]
      refine then_normal (hK21 _ _ ?_)
      clear hK21 K21
      refine wpIn_seq_k (fun K23 hK23 => ?_)
      refine wpIn_cond_true rfl ?_
      refine wpIn_skip ?_
      refine then_normal (hK23 _ _ ?_)
      clear hK23 K23
      refine wpIn_seq_k (fun K24 hK24 => ?_)
      refine wpIn_block ?_
      refine wpIn_seq_k (fun K25 hK25 => ?_)
      refine wpIn_region_lit ?_
      refine wpi_exG (v := .int .i64 (i : Int)) (fun _ => trivial) (wn rfl) rfl (ex_move rfl rfl) ?_
      refine wpi_exG (v := .int .i64 (i : Int)) (fun _ => trivial) (wn rfl) rfl (ex_assign rfl rfl) ?_
      refine wpListIn_nil ?_
      simp only [Act.put, List.setIfInBounds_toArray, List.set_cons_succ, List.set_cons_zero]
      refine then_normal (hK25 _ _ ?_)
      clear hK25 K25
      refine region_st mixed [.slice (some ⟨b13, 0, none⟩) (i * 64) (n * 64), .pointer (some ⟨p, 0, none⟩), .pointer (some ⟨p, 0, none⟩), .pointer (some ⟨p, 0, none⟩), .slice (some ⟨gd, 0, none⟩) E.dur.length E.dur.length, .int .i64 (at_ : Int), .int .i64 (i : Int), .int .i64 ((at_ + i : Nat) : Int), .pointer (some ⟨gd, 0 + (at_ + i : Nat) * 64, none⟩), .slice (some ⟨gd, 0 + (at_ + i : Nat) * 64, none⟩) 64 64, undef, undef] [10, 11] [⟨fun vals w => vals = [] ∧ Inv B (Res.cell b15 [.slice (some ⟨b13, 0, none⟩) (i * 64) (n * 64)] 24 :: Res.cell b13 (durCells (E.view [] at_ i) ++ List.replicate (64 * (n - i)) (Value.int .u8 0)) 5 :: Res.cell b4 [.int .i64 (n : Int)] 3 :: Res.cell b2 [.int .i64 (at_ : Int)] 3 :: Res.cell p [.slice (some ⟨gd, 0, none⟩) E.dur.length E.dur.length, .slice vad E.pend.length vc, .int .i64 E.left] 87 :: Res.cell gd (durCells E.dur) 90 :: Res.row 92 65 (.slice vad E.pend.length vc) E.pend.length (pendCells E.pend) :: H) w, fun _ _ _ ⟨h, hi⟩ he => ⟨h, hi.ext he⟩⟩, ⟨fun vals w => vals = [.slice (some ⟨b13, 0, none⟩) (i * 64 + 64) (n * 64)] ∧ Inv B (Res.cell b15 [.slice (some ⟨b13, 0, none⟩) (i * 64) (n * 64)] 24 :: Res.cell b13 (durCells (E.view [] at_ (i + 1)) ++ List.replicate (64 * (n - (i + 1))) (Value.int .u8 0)) 5 :: Res.cell b4 [.int .i64 (n : Int)] 3 :: Res.cell b2 [.int .i64 (at_ : Int)] 3 :: Res.cell p [.slice (some ⟨gd, 0, none⟩) E.dur.length E.dur.length, .slice vad E.pend.length vc, .int .i64 E.left] 87 :: Res.cell gd (durCells E.dur) 90 :: Res.row 92 65 (.slice vad E.pend.length vc) E.pend.length (pendCells E.pend) :: H) w, fun _ _ _ ⟨h, hi⟩ he => ⟨h, hi.ext he⟩⟩, ⟨fun vals w => vals = [.slice (some ⟨b13, 0, none⟩) (i * 64 + 64) (n * 64), undef] ∧ Inv B (Res.cell b15 [.slice (some ⟨b13, 0, none⟩) (i * 64 + 64) (n * 64)] 24 :: Res.cell b13 (durCells (E.view [] at_ (i + 1)) ++ List.replicate (64 * (n - (i + 1))) (Value.int .u8 0)) 5 :: Res.cell b4 [.int .i64 (n : Int)] 3 :: Res.cell b2 [.int .i64 (at_ : Int)] 3 :: Res.cell p [.slice (some ⟨gd, 0, none⟩) E.dur.length E.dur.length, .slice vad E.pend.length vc, .int .i64 E.left] 87 :: Res.cell gd (durCells E.dur) 90 :: Res.row 92 65 (.slice vad E.pend.length vc) E.pend.length (pendCells E.pend) :: H) w, fun _ _ _ ⟨h, hi⟩ he => ⟨h, hi.ext he⟩⟩] 66 rfl (by kernel_rfl) ⟨rfl, hv⟩ ⟨?_, ?_, ?_, ?_, ?_, ?_, ?_, ?_, ?_, ?_, ?_, ?_, trivial⟩ ?_
      · intro aa ww vals hJ hR
        have h2 : vals.length ≤ 0 := hR.hi 10 (by simp) rfl
        have hl : vals.length = 0 := by omega
        obtain ⟨hvals, hv⟩ := hJ.at0 hl
        exact add_step' rfl (Ex.adds' (ex_load rfl (show aa.eval (.tmp 8) = _ from hR.keep 8 rfl) (run_load1 rdna24 (hv.load 0 0 rfl rfl))) (wn rfl) rfl)
      · intro aa ww vals hJ hR
        exact add_step' rfl (Ex.adds' (ex_move rfl (show aa.eval (.tmp 0) = _ from hR.keep 0 rfl)) (wn rfl) rfl)
      · intro aa ww vals hJ hR
        exact add_step' rfl (Ex.adds' (ex_nil rfl (show aa.eval (.tmp 28) = _ from hR.v 1 28 rfl rfl rfl rfl)) (wn rfl) rfl)
      · intro aa ww vals hJ hR
        exact add_step' rfl (Ex.adds' (ex_field rfl (show aa.eval (.tmp 29) = _ from hR.v 2 29 rfl rfl rfl rfl) (rdfa87_0 _ _ _)) (wn rfl) rfl)
      · intro aa ww vals hJ hR
        have h2 : vals.length ≤ 0 := hR.hi 10 (by simp) rfl
        have hl : vals.length = 0 := by omega
        obtain ⟨hvals, hv⟩ := hJ.at0 hl
        exact add_step' rfl (Ex.adds' (ex_load rfl (show aa.eval (.tmp 30) = _ from hR.v 3 30 rfl rfl rfl rfl) (run_load1 rdna84 (hv.load 4 0 rfl rfl))) (wn rfl) rfl)
      · intro aa ww vals hJ hR
        have h2 : vals.length ≤ 0 := hR.hi 10 (by simp) rfl
        have hl : vals.length = 0 := by omega
        obtain ⟨hvals, hv⟩ := hJ.at0 hl
        exact add_step' rfl (Ex.adds' (ex_load rfl (show aa.eval (.tmp 4) = _ from hR.keep 4 rfl) (run_load1 rdna3 (hv.load 3 0 rfl rfl))) (wn rfl) rfl)
      · intro aa ww vals hJ hR
        exact add_step' rfl (Ex.adds' (ex_move rfl (show aa.eval (.tmp 9) = _ from hR.keep 9 rfl)) (wn rfl) rfl)
      · intro aa ww vals hJ hR
        exact add_step' rfl (Ex.adds' (ex_add (m := (at_ : Int)) (n := (i : Int)) rfl (show aa.eval (.tmp 32) = _ from hR.v 5 32 rfl rfl rfl rfl) (show aa.eval (.tmp 33) = _ from hR.v 6 33 rfl rfl rfl rfl) (by rw [i64_in (by omega)]; omega)) (wn rfl) rfl)
      · intro aa ww vals hJ hR
        exact add_step' rfl (Ex.adds' (ex_index rfl (show aa.eval (.tmp 31) = _ from hR.v 4 31 rfl rfl rfl rfl) (show aa.eval (.tmp 34) = _ from hR.v 7 34 rfl rfl rfl rfl) (run_idx (k := (at_ + i : Nat)) Try.underlying84 rdes84 (by omega))) (wn rfl) rfl)
      · intro aa ww vals hJ hR
        exact add_step' rfl (Ex.adds' (ex_slice rfl (show aa.eval (.tmp 35) = _ from hR.v 8 35 rfl rfl rfl rfl) rfl rfl rfl (rdsa90 _ _ _)) (wn rfl) rfl)
      · intro aa ww vals hJ hR
        refine mem_step' rfl fun hvl => ?_
        have hl : vals.length = 0 := hvl
        obtain ⟨hvals, hv⟩ := hJ.at0 hl
        exact Ex.mem (rdAppend hok (by omega) hat rfl (show aa.eval (.tmp 27) = _ from hR.v 0 27 rfl rfl rfl rfl) (show aa.eval (.tmp 36) = _ from hR.v 9 36 rfl rfl rfl rfl) (hv.get 1 rfl) (hv.get 5 rfl)) (wn rfl) (JS.next hl ⟨by rw [hvals]; rfl, (hv.putAt 1 rfl _)⟩)
      · intro aa ww vals hJ hR
        refine mem_step' rfl fun hvl => ?_
        have hl : vals.length = 1 := hvl
        obtain ⟨hvals, hv⟩ := hJ.at0 hl
        refine mem_storeAt 0 (v := .slice (some ⟨b13, 0, none⟩) (i * 64 + 64) (n * 64)) (L' := [.slice (some ⟨b13, 0, none⟩) (i * 64 + 64) (n * 64)]) (wn rfl) rfl (show aa.eval (.tmp 8) = _ from hR.keep 8 rfl) (show aa.eval (.tmp 37) = _ from (hR.val 10 37 rfl rfl rfl).trans (by rw [hvals]; rfl)) hv rfl rdsz24 (by simp) rfl rfl rfl (fun w26 hv => ?_)
        exact JS.next hl ⟨by rw [hvals]; rfl, hv⟩
      rintro w27 vals ⟨rfl, hv⟩
      rw [show mixV [10, 11] [.slice (some ⟨b13, 0, none⟩) (i * 64 + 64) (n * 64), undef] 0 [.slice (some ⟨b13, 0, none⟩) (i * 64) (n * 64), .pointer (some ⟨p, 0, none⟩), .pointer (some ⟨p, 0, none⟩), .pointer (some ⟨p, 0, none⟩), .slice (some ⟨gd, 0, none⟩) E.dur.length E.dur.length, .int .i64 (at_ : Int), .int .i64 (i : Int), .int .i64 ((at_ + i : Nat) : Int), .pointer (some ⟨gd, 0 + (at_ + i : Nat) * 64, none⟩), .slice (some ⟨gd, 0 + (at_ + i : Nat) * 64, none⟩) 64 64, undef, undef] = [.slice (some ⟨b13, 0, none⟩) (i * 64) (n * 64), .pointer (some ⟨p, 0, none⟩), .pointer (some ⟨p, 0, none⟩), .pointer (some ⟨p, 0, none⟩), .slice (some ⟨gd, 0, none⟩) E.dur.length E.dur.length, .int .i64 (at_ : Int), .int .i64 (i : Int), .int .i64 ((at_ + i : Nat) : Int), .pointer (some ⟨gd, 0 + (at_ + i : Nat) * 64, none⟩), .slice (some ⟨gd, 0 + (at_ + i : Nat) * 64, none⟩) 64 64, .slice (some ⟨b13, 0, none⟩) (i * 64 + 64) (n * 64), undef] from rfl]
      simp only [putAll, Act.put, List.setIfInBounds_toArray, List.set_cons_succ, List.set_cons_zero]
      refine blk_normal ?_
      refine then_normal (hK24 _ _ ?_)
      clear hK24 K24
      refine wpIn_region_lit ?_
      refine wpi_exG (v := .int .i64 ((i : Int) + 1)) (fun _ => trivial) (wn rfl) rfl (ex_add (m := (i : Int)) (n := 1) rfl rfl rfl (i64_in (by omega))) ?_
      refine wpi_exG (v := .int .i64 ((i : Int) + 1)) (fun _ => trivial) (wn rfl) rfl (ex_move rfl rfl) ?_
      refine wpListIn_nil ?_
      simp only [Act.put, List.setIfInBounds_toArray, List.set_cons_succ, List.set_cons_zero]
      refine then_normal ?_
      go_roundw
      case rel => exact ⟨i + 1, by simp, by omega, by rw [Nat.succ_mul]; exact hv⟩
      case measure => show n - ((i : Int) + 1).toNat < n - (i : Int).toNat; omega
    · have hni : i = n := by omega
      rw [hni, Nat.sub_self, Nat.mul_zero, List.replicate_zero, List.append_nil] at hv
      skip
      refine wpi_exG (v := .bool false) (fun _ => trivial) (wn rfl) rfl (ex_lss (k := .i64) (m := (i : Int)) (n := (n : Int)) rfl rfl rfl (decide_eq_false hb22)) ?_
      refine wpListIn_nil ?_
      simp only [Act.put, List.setIfInBounds_toArray, List.set_cons_succ, List.set_cons_zero]
      refine then_normal (hK21 _ _ ?_)
      clear hK21 K21
      refine wpIn_seq_k (fun K28 hK28 => ?_)
      refine wpIn_cond_false rfl ?_
      refine wpIn_exit ?_
      refine then_exit ?_
      clear hK28 K28
      refine then_exit ?_
      refine blk_hit ?_
      refine then_normal (hK18 _ _ ?_)
      clear hK18 K18
      refine wpIn_seq_k (fun K29 hK29 => ?_)
      refine wpIn_seq_k (fun K30 hK30 => ?_)
      refine wpIn_region_lit ?_
      refine wpi_exG (v := .pointer (some ⟨p, 0, none⟩)) (fun _ => trivial) (wn rfl) rfl (ex_move rfl rfl) ?_
      refine wpi_callG rdcallable46 (fun _ => trivial) wideC rfl (wn rfl) rfl (args := #[.pointer (some ⟨p, 0, none⟩)]) (by simp only [List.map_toArray, List.map_cons, List.map_nil]; rfl) ((diskWritesSl B _ _ _ hv).mono ?_)
      rintro e w32 ⟨b31, rfl, hv⟩
      refine ⟨_, rfl, ?_⟩
      refine wpListIn_nil ?_
      simp only [Act.put, List.setIfInBounds_toArray, List.set_cons_succ, List.set_cons_zero]
      refine then_normal (hK30 _ _ ?_)
      clear hK30 K30
      refine wpIn_block ?_
      have hP := Inv.diskParts hok (((hv.front 7 rfl).front 7 rfl).front 7 rfl)
      have hcB := hv.load 0 0 (b := b31) rfl rfl
      have hlts := fun (r : Res) (hr : r ∈ ([Res.cell b31 [.pointer (some ⟨p, 0, none⟩)] 36, Res.cell b15 [.slice (some ⟨b13, 0, none⟩) (n * 64) (n * 64)] 24, Res.cell b13 (durCells (E.view [] at_ n)) 5, Res.cell b4 [.int .i64 (n : Int)] 3, Res.cell b2 [.int .i64 (at_ : Int)] 3, Res.cell p [.slice (some ⟨gd, 0, none⟩) E.dur.length E.dur.length, .slice vad E.pend.length vc, .int .i64 E.left] 87, Res.cell gd (durCells E.dur) 90] : List Res)) => hv.lt r (List.mem_append_left (Res.row 92 65 (.slice vad E.pend.length vc) E.pend.length (pendCells E.pend) :: H) hr)
      refine sl_writes (by omega) (bw := b31) (p := p) (gd := gd) (D := E) rfl hP hcB (by omega) rfl (K := [Res.cell b31 [.pointer (some ⟨p, 0, none⟩)] 36, Res.cell b15 [.slice (some ⟨b13, 0, none⟩) (n * 64) (n * 64)] 24, Res.cell b13 (durCells (E.view [] at_ n)) 5, Res.cell b4 [.int .i64 (n : Int)] 3, Res.cell b2 [.int .i64 (at_ : Int)] 3, Res.cell p [.slice (some ⟨gd, 0, none⟩) E.dur.length E.dur.length, .slice vad E.pend.length vc, .int .i64 E.left] 87, Res.cell gd (durCells E.dur) 90]) (H := Res.row 92 65 (.slice vad E.pend.length vc) E.pend.length (pendCells E.pend) :: H) hv (fun g hg => by rw [List.flatMap_cons]; exact List.mem_append_left _ (by simp [hg])) (fun pre => [Res.cell b31 [.pointer (some ⟨p, 0, none⟩)] 36, Res.cell b15 [.slice (some ⟨b13, 0, none⟩) (n * 64) (n * 64)] 24, Res.cell b13 (durCells (E.view (pre.map (fun y : PendEl E => y.1.2)) at_ n)) 5, Res.cell b4 [.int .i64 (n : Int)] 3, Res.cell b2 [.int .i64 (at_ : Int)] 3, Res.cell p [.slice (some ⟨gd, 0, none⟩) E.dur.length E.dur.length, .slice vad E.pend.length vc, .int .i64 E.left] 87, Res.cell gd (durCells E.dur) 90]) rfl (fun x b => { tmps := #[.pointer (some ⟨p, 0, none⟩), .int .i64 (at_ : Int), .int .i64 (n : Int), undef, .pointer (some ⟨b2, 0, none⟩), .pointer (some ⟨b4, 0, none⟩), .slice none 0 0, .int .i64 0, .pointer (some ⟨b15, 0, none⟩), u9, undef, .pointer (some ⟨b, 0, none⟩), .pointer (some ⟨p, 0, none⟩), .int .i64 (at_ : Int), .int .i64 (n : Int), .bool true, .bool false, .pointer (some ⟨p, 0, none⟩), .bool true, .bool false, .int .i64 (n : Int), .int .i64 ((n * 64 : Nat) : Int), .slice (some ⟨b13, 0, none⟩) 0 (n * 64 : Nat), .int .i64 (n : Int), .int .i64 (i : Int), .bool false, u26, u27, u28, u29, u30, u31, u32, u33, u34, u35, u36, u37, u38, .pointer (some ⟨p, 0, none⟩), .func (.func 57) #[] #[.pointer (some ⟨b31, 0, none⟩)], .int .i64 (x.1.1 : Int), .agg (wrCells x.1.2).toArray, undef, undef, undef, undef, undef, undef, undef, undef, undef, undef, undef, undef, undef, undef, undef, undef, undef, undef, undef, undef, undef, undef, undef], defers := [] }) ?cel ?fp ?assign ?body ?done
      case cel =>
        intro pre r hr
        simp only [List.mem_cons, List.not_mem_nil, or_false] at hr
        rcases hr with rfl | rfl | rfl | rfl | rfl | rfl | rfl
        all_goals exact celled_cell _ _ _
      case fp =>
        intro pre r hr b hb
        simp only [List.mem_cons, List.not_mem_nil, or_false] at hr
        rcases hr with rfl | rfl | rfl | rfl | rfl | rfl | rfl
        · rw [show b = _ from List.mem_singleton.1 hb]; exact hlts (Res.cell b31 [.pointer (some ⟨p, 0, none⟩)] 36) (by simp) _ (by simp)
        · rw [show b = _ from List.mem_singleton.1 hb]; exact hlts (Res.cell b15 [.slice (some ⟨b13, 0, none⟩) (n * 64) (n * 64)] 24) (by simp) _ (by simp)
        · rw [show b = _ from List.mem_singleton.1 hb]; exact hlts (Res.cell b13 (durCells (E.view [] at_ n)) 5) (by simp) _ (by simp)
        · rw [show b = _ from List.mem_singleton.1 hb]; exact hlts (Res.cell b4 [.int .i64 (n : Int)] 3) (by simp) _ (by simp)
        · rw [show b = _ from List.mem_singleton.1 hb]; exact hlts (Res.cell b2 [.int .i64 (at_ : Int)] 3) (by simp) _ (by simp)
        · rw [show b = _ from List.mem_singleton.1 hb]; exact hlts (Res.cell p [.slice (some ⟨gd, 0, none⟩) E.dur.length E.dur.length, .slice vad E.pend.length vc, .int .i64 E.left] 87) (by simp) _ (by simp)
        · rw [show b = _ from List.mem_singleton.1 hb]; exact hlts (Res.cell gd (durCells E.dur) 90) (by simp) _ (by simp)
      case assign =>
        intro l pre x w B' hB' hv
        have hx := pendEl_len hok x
        simp only [pendEnc, List.zip_toArray, List.zip_cons_cons, List.zip_nil_left, List.zip_nil_right, List.foldl_toArray', List.foldl_cons, List.foldl_nil, List.setIfInBounds_toArray, List.set_cons_succ, List.set_cons_zero]
        refine wpIn_region_lit ?_
        refine sl_alloc (fun _ => trivial) (wn rfl) rfl hv rdal92 (fun b33 w34 hv => ?_)
        refine sl_storeNAt 0 (new := wrCells x.1.2) (pre := []) (mid := [.int .i64 0, .int .u8 0, .int .u8 0, .int .u8 0, .int .u8 0, .int .u8 0, .int .u8 0, .int .u8 0, .int .u8 0, .int .u8 0, .int .u8 0, .int .u8 0, .int .u8 0, .int .u8 0, .int .u8 0, .int .u8 0, .int .u8 0, .int .u8 0, .int .u8 0, .int .u8 0, .int .u8 0, .int .u8 0, .int .u8 0, .int .u8 0, .int .u8 0, .int .u8 0, .int .u8 0, .int .u8 0, .int .u8 0, .int .u8 0, .int .u8 0, .int .u8 0, .int .u8 0, .int .u8 0, .int .u8 0, .int .u8 0, .int .u8 0, .int .u8 0, .int .u8 0, .int .u8 0, .int .u8 0, .int .u8 0, .int .u8 0, .int .u8 0, .int .u8 0, .int .u8 0, .int .u8 0, .int .u8 0, .int .u8 0, .int .u8 0, .int .u8 0, .int .u8 0, .int .u8 0, .int .u8 0, .int .u8 0, .int .u8 0, .int .u8 0, .int .u8 0, .int .u8 0, .int .u8 0, .int .u8 0, .int .u8 0, .int .u8 0, .int .u8 0, .int .u8 0]) (post := []) (L' := wrCells x.1.2) (fun _ => trivial) (wn rfl) rfl rfl rfl hv rfl (szWrite _ (wrLen hx.2)) rfl rfl (by rw [wrLen hx.2]; rfl) (wrOne _) (by simp) (fun w35 hv => ?_)
        simp only [List.set_cons_succ, List.set_cons_zero] at hv
        refine wpListIn_nil ?_
        simp only [Act.put, List.setIfInBounds_toArray, List.set_cons_succ, List.set_cons_zero]
        exact ⟨by trivial, _, rfl, hv⟩
      case body =>
        intro l pre x b w B' hB' hv hN
        have hx := pendEl_len hok x
        refine wpIn_block ?_
        refine wpIn_seq_k (fun K36 hK36 => ?_)
        refine wpIn_region_lit ?_
        refine wpi_exG (v := .pointer (some ⟨b, 0, none⟩)) (fun _ => trivial) (wn rfl) rfl (ex_field rfl rfl (rdfa92_0 _ _ _)) ?_
        refine wpi_exG (v := .int .i64 (x.1.2.1 : Int)) (fun _ => trivial) (wn rfl) rfl (ex_load rfl rfl (run_load1 rdna3 (hv.load 0 0 rfl rfl))) ?_
        refine wpi_exG (v := .int .i64 (at_ : Int)) (fun _ => trivial) (wn rfl) rfl (ex_load rfl rfl (run_load1 rdna3 (hv.load 5 0 rfl rfl))) ?_
        simp only [Act.put, List.setIfInBounds_toArray, List.set_cons_succ, List.set_cons_zero]
        by_cases hb37 : (x.1.2.1 : Int) ≥ (at_ : Int)
        · refine wpi_exG (v := .bool true) (fun _ => trivial) (wn rfl) rfl (ex_geq (k := .i64) (m := (x.1.2.1 : Int)) (n := (at_ : Int)) rfl rfl rfl (decide_eq_true hb37)) ?_
          refine wpi_exG (v := .bool true) (fun _ => trivial) (wn rfl) rfl (ex_move rfl rfl) ?_
          refine wpi_exG (v := .pointer (some ⟨b, 0, none⟩)) (fun _ => trivial) (wanted_of (j := 4) (d := 47) (b := true) rfl rfl rfl) rfl (ex_field rfl rfl (rdfa92_0 _ _ _)) ?_
          simp only [Act.put, List.setIfInBounds_toArray, List.set_cons_succ, List.set_cons_zero]
          refine wpi_exG (v := .int .i64 (x.1.2.1 : Int)) (fun _ => trivial) (wanted_of (j := 4) (d := 47) (b := true) rfl rfl rfl) rfl (ex_load rfl rfl (run_load1 rdna3 (hv.load 0 0 rfl rfl))) ?_
          refine wpi_exG (v := .int .i64 (at_ : Int)) (fun _ => trivial) (wanted_of (j := 4) (d := 47) (b := true) rfl rfl rfl) rfl (ex_load rfl rfl (run_load1 rdna3 (hv.load 5 0 rfl rfl))) ?_
          refine wpi_exG (v := .int .i64 ((x.1.2.1 : Int) - (at_ : Int))) (fun _ => trivial) (wanted_of (j := 4) (d := 47) (b := true) rfl rfl rfl) rfl (ex_sub (m := (x.1.2.1 : Int)) (n := (at_ : Int)) rfl rfl rfl (i64_in (by omega))) ?_
          simp only [Act.put, List.setIfInBounds_toArray, List.set_cons_succ, List.set_cons_zero]
          refine wpi_exG (v := .int .i64 (n : Int)) (fun _ => trivial) (wanted_of (j := 4) (d := 47) (b := true) rfl rfl rfl) rfl (ex_load rfl rfl (run_load1 rdna3 (hv.load 4 0 rfl rfl))) ?_
          by_cases hb38 : ((x.1.2.1 : Int) - (at_ : Int)) < (n : Int)
          · refine wpi_exG (v := .bool true) (fun _ => trivial) (wanted_of (j := 4) (d := 47) (b := true) rfl rfl rfl) rfl (ex_lss (k := .i64) (m := ((x.1.2.1 : Int) - (at_ : Int))) (n := (n : Int)) rfl rfl rfl (decide_eq_true hb38)) ?_
            refine wpi_exG (v := .bool true) (fun _ => trivial) (wn rfl) rfl (ex_pick (b := true) rfl rfl rfl) ?_
            refine wpListIn_nil ?_
            simp only [Act.put, List.setIfInBounds_toArray, List.set_cons_succ, List.set_cons_zero]
            refine then_normal (hK36 _ _ ?_)
            clear hK36 K36
            refine wpIn_cond_true rfl ?_
            refine region_stR mixed (fun ⟨_, _, h⟩ => by simp [Exit.then, Exit.inBlock] at h) [.slice (some ⟨b13, 0, none⟩) (n * 64) (n * 64), .pointer (some ⟨b, 0, none⟩), .int .i64 (x.1.2.1 : Int), .int .i64 (at_ : Int), .int .i64 ((x.1.2.1 : Int) - (at_ : Int)), .int .i64 (((x.1.2.1 - at_) * 64 : Nat) : Int), .slice (some ⟨b13, 0 + ((x.1.2.1 - at_) * 64 : Nat), none⟩) (n * 64 - ((x.1.2.1 - at_) * 64 : Nat)) (n * 64 - ((x.1.2.1 - at_) * 64 : Nat)), .pointer (some ⟨b, 1, none⟩), .slice (some ⟨b, 1, none⟩) 64 64, undef] [9] [⟨fun vals w => vals = [] ∧ Inv B' (Res.cell b (wrCells x.1.2) 92 :: Res.cell b31 [.pointer (some ⟨p, 0, none⟩)] 36 :: Res.cell b15 [.slice (some ⟨b13, 0, none⟩) (n * 64) (n * 64)] 24 :: Res.cell b13 (durCells (E.view (pre.map (fun y : PendEl E => y.1.2)) at_ n)) 5 :: Res.cell b4 [.int .i64 (n : Int)] 3 :: Res.cell b2 [.int .i64 (at_ : Int)] 3 :: Res.cell p [.slice (some ⟨gd, 0, none⟩) E.dur.length E.dur.length, .slice vad E.pend.length vc, .int .i64 E.left] 87 :: Res.cell gd (durCells E.dur) 90 :: []) w, fun _ _ _ ⟨h, hi⟩ he => ⟨h, hi.ext he⟩⟩, ⟨fun vals w => vals = [.int .i64 64] ∧ Inv B' (Res.cell b (wrCells x.1.2) 92 :: Res.cell b31 [.pointer (some ⟨p, 0, none⟩)] 36 :: Res.cell b15 [.slice (some ⟨b13, 0, none⟩) (n * 64) (n * 64)] 24 :: Res.cell b13 (durCells (E.view (pre.map (fun y : PendEl E => y.1.2) ++ [x.1.2]) at_ n)) 5 :: Res.cell b4 [.int .i64 (n : Int)] 3 :: Res.cell b2 [.int .i64 (at_ : Int)] 3 :: Res.cell p [.slice (some ⟨gd, 0, none⟩) E.dur.length E.dur.length, .slice vad E.pend.length vc, .int .i64 E.left] 87 :: Res.cell gd (durCells E.dur) 90 :: []) w, fun _ _ _ ⟨h, hi⟩ he => ⟨h, hi.ext he⟩⟩] 66 rfl (by kernel_rfl) (by kernel_rfl) ⟨rfl, hv⟩ ⟨?_, ?_, ?_, ?_, ?_, ?_, ?_, ?_, ?_, ?_, trivial⟩ ?_
            · intro aa ww vals hJ hR
              have h2 : vals.length ≤ 0 := hR.hi 9 (by simp) rfl
              have hl : vals.length = 0 := by omega
              obtain ⟨hvals, hv⟩ := hJ.at0 hl
              exact add_step' rfl (Ex.adds' (ex_load rfl (show aa.eval (.tmp 8) = _ from hR.keep 8 rfl) (run_load1 rdna24 (hv.load 2 0 rfl rfl))) (wn rfl) rfl)
            · intro aa ww vals hJ hR
              exact add_step' rfl (Ex.adds' (ex_field rfl (show aa.eval (.tmp 11) = _ from hR.keep 11 rfl) (rdfa92_0 _ _ _)) (wn rfl) rfl)
            · intro aa ww vals hJ hR
              have h2 : vals.length ≤ 0 := hR.hi 9 (by simp) rfl
              have hl : vals.length = 0 := by omega
              obtain ⟨hvals, hv⟩ := hJ.at0 hl
              exact add_step' rfl (Ex.adds' (ex_load rfl (show aa.eval (.tmp 56) = _ from hR.v 1 56 rfl rfl rfl rfl) (run_load1 rdna3 (hv.load 0 0 rfl rfl))) (wn rfl) rfl)
            · intro aa ww vals hJ hR
              have h2 : vals.length ≤ 0 := hR.hi 9 (by simp) rfl
              have hl : vals.length = 0 := by omega
              obtain ⟨hvals, hv⟩ := hJ.at0 hl
              exact add_step' rfl (Ex.adds' (ex_load rfl (show aa.eval (.tmp 4) = _ from hR.keep 4 rfl) (run_load1 rdna3 (hv.load 5 0 rfl rfl))) (wn rfl) rfl)
            · intro aa ww vals hJ hR
              exact add_step' rfl (Ex.adds' (ex_sub (m := (x.1.2.1 : Int)) (n := (at_ : Int)) rfl (show aa.eval (.tmp 57) = _ from hR.v 2 57 rfl rfl rfl rfl) (show aa.eval (.tmp 58) = _ from hR.v 3 58 rfl rfl rfl rfl) (i64_in (by omega))) (wn rfl) rfl)
            · intro aa ww vals hJ hR
              exact add_step' rfl (Ex.adds' (ex_mul (m := ((x.1.2.1 : Int) - (at_ : Int))) (n := 64) rfl (show aa.eval (.tmp 59) = _ from hR.v 4 59 rfl rfl rfl rfl) rfl (by rw [i64_in (by omega)]; omega)) (wn rfl) rfl)
            · intro aa ww vals hJ hR
              exact add_step' rfl (Ex.adds' (ex_slice (lo' := some (.int .i64 (((x.1.2.1 - at_) * 64 : Nat) : Int))) rfl (show aa.eval (.tmp 55) = _ from hR.v 0 55 rfl rfl rfl rfl) (congrArg some (show aa.eval (.tmp 60) = _ from hR.v 5 60 rfl rfl rfl rfl)) rfl rfl (run_from1 Try.underlying24 rdes24 (by omega) (by omega))) (wn rfl) rfl)
            · intro aa ww vals hJ hR
              exact add_step' rfl (Ex.adds' (ex_field rfl (show aa.eval (.tmp 11) = _ from hR.keep 11 rfl) (rdfa92_1 _ _ _)) (wn rfl) rfl)
            · intro aa ww vals hJ hR
              exact add_step' rfl (Ex.adds' (ex_slice rfl (show aa.eval (.tmp 62) = _ from hR.v 7 62 rfl rfl rfl rfl) rfl rfl rfl (rdsa90 _ _ _)) (wn rfl) rfl)
            · intro aa ww vals hJ hR
              refine mem_step' rfl fun hvl => ?_
              have hl : vals.length = 0 := hvl
              obtain ⟨hvals, hv⟩ := hJ.at0 hl
              exact Ex.mem (rdCopy hok (pre64 hok pre) hx.2 (by omega) (by omega) hat rfl (show aa.eval (.tmp 61) = _ from hR.v 6 61 rfl rfl rfl rfl) (show aa.eval (.tmp 63) = _ from hR.v 8 63 rfl rfl rfl rfl) (hv.get 3 rfl) (hv.get 0 rfl)) (wn rfl) (JS.next hl ⟨by rw [hvals]; rfl, (hv.putAt 3 rfl _)⟩)
            rintro w39 vals ⟨rfl, hv⟩
            rw [show mixV [9] [.int .i64 64] 0 [.slice (some ⟨b13, 0, none⟩) (n * 64) (n * 64), .pointer (some ⟨b, 0, none⟩), .int .i64 (x.1.2.1 : Int), .int .i64 (at_ : Int), .int .i64 ((x.1.2.1 : Int) - (at_ : Int)), .int .i64 (((x.1.2.1 - at_) * 64 : Nat) : Int), .slice (some ⟨b13, 0 + ((x.1.2.1 - at_) * 64 : Nat), none⟩) (n * 64 - ((x.1.2.1 - at_) * 64 : Nat)) (n * 64 - ((x.1.2.1 - at_) * 64 : Nat)), .pointer (some ⟨b, 1, none⟩), .slice (some ⟨b, 1, none⟩) 64 64, undef] = [.slice (some ⟨b13, 0, none⟩) (n * 64) (n * 64), .pointer (some ⟨b, 0, none⟩), .int .i64 (x.1.2.1 : Int), .int .i64 (at_ : Int), .int .i64 ((x.1.2.1 : Int) - (at_ : Int)), .int .i64 (((x.1.2.1 - at_) * 64 : Nat) : Int), .slice (some ⟨b13, 0 + ((x.1.2.1 - at_) * 64 : Nat), none⟩) (n * 64 - ((x.1.2.1 - at_) * 64 : Nat)) (n * 64 - ((x.1.2.1 - at_) * 64 : Nat)), .pointer (some ⟨b, 1, none⟩), .slice (some ⟨b, 1, none⟩) 64 64, .int .i64 64] from rfl]
            simp only [putAll, Act.put, List.setIfInBounds_toArray, List.set_cons_succ, List.set_cons_zero]
            refine blk_normal ?_
            rw [map_snoc]
            exact ⟨by trivial, hv.drop⟩
          · refine wpi_exG (v := .bool false) (fun _ => trivial) (wanted_of (j := 4) (d := 47) (b := true) rfl rfl rfl) rfl (ex_lss (k := .i64) (m := ((x.1.2.1 : Int) - (at_ : Int))) (n := (n : Int)) rfl rfl rfl (decide_eq_false hb38)) ?_
            refine wpi_exG (v := .bool false) (fun _ => trivial) (wn rfl) rfl (ex_pick (b := true) rfl rfl rfl) ?_
            refine wpListIn_nil ?_
            simp only [Act.put, List.setIfInBounds_toArray, List.set_cons_succ, List.set_cons_zero]
            refine then_normal (hK36 _ _ ?_)
            clear hK36 K36
            refine wpIn_cond_false rfl ?_
            refine wpIn_skip ?_
            refine blk_normal ?_
            rw [map_snoc, Disk.view_out _ _ _ _ _ (by omega)]
            exact ⟨by trivial, hv.drop⟩
        · refine wpi_exG (v := .bool false) (fun _ => trivial) (wn rfl) rfl (ex_geq (k := .i64) (m := (x.1.2.1 : Int)) (n := (at_ : Int)) rfl rfl rfl (decide_eq_false hb37)) ?_
          refine wpi_exG (v := .bool false) (fun _ => trivial) (wn rfl) rfl (ex_move rfl rfl) ?_
          refine wpi_not (fun _ => trivial) (wanted_not (j := 4) (d := 47) (b := true) (b' := false) rfl rfl rfl (by decide)) ?_
          simp only [Act.put, List.setIfInBounds_toArray, List.set_cons_succ, List.set_cons_zero]
          refine wpi_not (fun _ => trivial) (wanted_not (j := 4) (d := 47) (b := true) (b' := false) rfl rfl rfl (by decide)) ?_
          refine wpi_not (fun _ => trivial) (wanted_not (j := 4) (d := 47) (b := true) (b' := false) rfl rfl rfl (by decide)) ?_
          refine wpi_not (fun _ => trivial) (wanted_not (j := 4) (d := 47) (b := true) (b' := false) rfl rfl rfl (by decide)) ?_
          simp only [Act.put, List.setIfInBounds_toArray, List.set_cons_succ, List.set_cons_zero]
          refine wpi_not (fun _ => trivial) (wanted_not (j := 4) (d := 47) (b := true) (b' := false) rfl rfl rfl (by decide)) ?_
          refine wpi_not (fun _ => trivial) (wanted_not (j := 4) (d := 47) (b := true) (b' := false) rfl rfl rfl (by decide)) ?_
          refine wpi_exG (v := .bool false) (fun _ => trivial) (wn rfl) rfl (ex_pick (b := false) rfl rfl rfl) ?_
          refine wpListIn_nil ?_
          simp only [Act.put, List.setIfInBounds_toArray, List.set_cons_succ, List.set_cons_zero]
          refine then_normal (hK36 _ _ ?_)
          clear hK36 K36
          refine wpIn_cond_false rfl ?_
          refine wpIn_skip ?_
          refine blk_normal ?_
          rw [map_snoc, Disk.view_out _ _ _ _ _ (by omega)]
          exact ⟨by trivial, hv.drop⟩
      case done =>
        intro d40 xs w41 hS hv
        simp only [List.cons_append, List.nil_append] at hv
        refine blk_normal ?_
        refine then_normal (hK29 _ _ ?_)
        clear hK29 K29
        refine wpIn_seq_k (fun K42 hK42 => ?_)
        refine wpIn_region_lit ?_
        refine wpi_exG (v := .slice (some ⟨b13, 0, none⟩) (n * 64) (n * 64)) (fun _ => trivial) (wn rfl) rfl (ex_load rfl rfl (run_load1 rdna24 (hv.load 2 0 rfl rfl))) ?_
        refine wpi_exG (v := .slice (some ⟨b13, 0, none⟩) (n * 64) (n * 64)) (fun _ => trivial) (wn rfl) rfl (ex_assign rfl rfl) ?_
        refine wpi_exG (v := .int .i64 0) (fun _ => trivial) (wn rfl) rfl (ex_assign rfl rfl) ?_
        refine wpListIn_nil ?_
        simp only [Act.put, List.setIfInBounds_toArray, List.set_cons_succ, List.set_cons_zero]
        refine then_normal (hK42 _ _ ?_)
        clear hK42 K42
        refine wpIn_ret ?_
        refine sl_end1 hv (fun w43 hv => ⟨_, results_tmp2 rfl _ _ _, ?_⟩)
        rw [all_pend hS] at hv
        obtain ⟨F', hv⟩ := Inv.diskClose (v := .slice vad E.pend.length vc) hok (((((hv.front 2 rfl).front 7 rfl).front 7 rfl).front 7 rfl).sub (List.Sublist.cons_cons _ (List.Sublist.cons_cons _ (List.Sublist.cons_cons _ (List.Sublist.cons_cons _ (List.Sublist.cons _ (List.Sublist.cons _ (List.Sublist.cons _ (List.Sublist.cons _ (List.Sublist.refl _))))))))))
        exact ⟨_, rfl, F', (hv.front 1 rfl)⟩
end Go.Proofs.Ytkannfkjnohdlaa
