/- disk.Sync -/
import Derived.Test.YtkannfkjnohdlaaDiskIt
namespace Go.Proofs.Ytkannfkjnohdlaa
open Go.RowKit Go.Pm

theorem callWrites : Callable Try.prog 46 := ⟨_, Try.func46, by kernel_rfl, by kernel_rfl⟩
theorem callCall : Callable Try.prog 45 := ⟨_, Try.func45, by kernel_rfl, by kernel_rfl⟩
set_option maxRecDepth 100000 in
theorem sizeS (w : World) : (sizeOf (Try.prog.elem 84)).run Try.prog w = .ok 64 w := by kernel_rfl
theorem durCells_split (l : List (List UInt8)) (k : Nat) (hk : k < l.length) : durCells l = durCells (l.take k) ++ l[k].map B8 ++ durCells (l.drop (k + 1)) := by
  have : l = l.take k ++ [l[k]] ++ l.drop (k + 1) := by simp
  conv => lhs; rw [this]
  simp only [durCells, List.map_append, List.flatten_append, List.map_cons, List.map_nil, List.flatten_cons, List.flatten_nil, List.append_nil]
theorem durCells_set (l : List (List UInt8)) (k : Nat) (hk : k < l.length) (s : List UInt8) : durCells (l.set k s) = durCells (l.take k) ++ s.map B8 ++ durCells (l.drop (k + 1)) := by
  rw [durCells_split (l.set k s) k (by simpa using hk)]
  rw [List.take_set, List.set_eq_of_length_le (by simp; omega)]
  simp [List.drop_set]
theorem durCells_length {l : List (List UInt8)} (h : ∀ p ∈ l, p.length = 64) : (durCells l).length = l.length * 64 := by
  induction l with
  | nil => rfl
  | cons p l ih =>
    have h1 := h p (by simp)
    have h2 := ih (fun q hq => h q (by simp [hq]))
    simp only [durCells, List.map_cons, List.flatten_cons, List.length_append, List.length_cons] at h2 ⊢
    rw [h2]
    simp [h1]
    omega
theorem storeSec {w : World} {gd : Nat} {d : List (List UInt8)} (hb : Blk w gd (durCells d) 90) (hd : ∀ s ∈ d, s.length = 64) (k : Nat) (hk : k < d.length) (s : List UInt8) (hs : s.length = 64) :
    (Instr.storeAt 90 (.pointer (some ⟨gd, 0 + k * 64, none⟩)) (.agg (s.map B8).toArray)).run Try.prog w = .ok () (setBlk w gd (durCells (d.set k s))) := by
  rw [durCells_split d k hk] at hb
  rw [durCells_set d k hk s]
  refine run_store_mid (by rw [List.length_map, hs]; exact wideS.size) hb ?_ (by simp [hs, hd _ (List.getElem_mem hk)]) (oneCell_bytes s)
  rw [durCells_length (fun s hs => hd s (List.mem_of_mem_take hs)), List.length_take, Nat.min_eq_left (Nat.le_of_lt hk)]
  omega
/-- while a sector is put -/
def PutJ (W : World) (gd : Nat) (d : List (List UInt8)) (x : Nat × List UInt8) : List Value → World → Prop
  | [], w => Ext W w
  | _, w => Only [gd] W w ∧ Blk w gd (durCells (Disk.put d x)) 90
theorem putJ_ext {W : World} {gd : Nat} {d : List (List UInt8)} {x : Nat × List UInt8} : ∀ vals w w', PutJ W gd d x vals w → Ext w w' → PutJ W gd d x vals w'
  | [], _, _, h, he => h.tr he
  | _ :: _, _, _, ⟨h1, h2⟩, he => ⟨only_then h1 he, h2.ext he⟩
/-- a disk's post -/
def DiskTo (F : List Nat) (w w' : World) (p : Nat) (D : Disk) : Prop := ∃ F', DiskAt w' p D F' ∧ Only F w w' ∧ ∀ k ∈ F', k ∈ F ∨ w.heap.size ≤ k

theorem DiskParts.same {w w' : World} {p : Nat} {D : Disk} {F : List Nat} {gd : Nat} {vp : Value} (h : DiskParts w p D F gd vp) (hs : ∀ k ∈ F, w'.heap[k]? = w.heap[k]?) : DiskParts w' p D F gd vp := by
  have hF := h.eqF
  refine ⟨h.ok, hF, h.nd, (hs p (by simp [hF])).trans h.blk, (hs gd (by simp [hF])).trans h.dur, h.pend.1, ?_⟩
  rcases h.pend.2 with h4 | ⟨g, cap, cur, e, hb, hg, h5⟩
  · exact .inl h4
  · exact .inr ⟨g, cap, cur, e, hb, (hs g (by simp [hF, e, Value.ownBlock])).trans hg, h5⟩
theorem DiskParts.ne {w : World} {p : Nat} {D : Disk} {F : List Nat} {gd : Nat} {vp : Value} (h : DiskParts w p D F gd vp) : p ≠ gd ∧ (∀ g, vp.ownBlock = some g → g ≠ p ∧ g ≠ gd) ∧ p ∈ F ∧ gd ∈ F ∧ ∀ g, vp.ownBlock = some g → g ∈ F := by
  have hnd := h.nd
  have hF := h.eqF
  subst hF
  simp only [List.nodup_cons, List.mem_cons, Option.mem_toList, not_or] at hnd
  exact ⟨hnd.1.1, fun g hg => ⟨fun e => hnd.1.2 (e ▸ hg), fun e => hnd.2.1 (e ▸ hg)⟩, by simp, by simp, fun g hg => by simp [hg]⟩
/-- a sector put: the disk's parts -/
theorem DiskParts.put {W w : World} {p : Nat} {D : Disk} {F : List Nat} {gd : Nat} {vp : Value} (h : DiskParts W p D F gd vp) {x : Nat × List UInt8} (hx : x.2.length = 64) (ho : Only [gd] W w) (hb : Blk w gd (durCells (Disk.put D.dur x)) 90) : DiskParts w p { D with dur := Disk.put D.dur x } F gd vp := by
  obtain ⟨n1, n2, _, _, _⟩ := h.ne
  have hl : (Disk.put D.dur x).length = D.dur.length := by simp [Disk.put]
  refine ⟨⟨?_, ?_, ?_, ?_, h.ok.left1, h.ok.left2⟩, h.eqF, h.nd, ?_, hb, ownsRow_only h.pend ho (fun g hg => by simpa using (n2 g hg).2)⟩
  · intro s hs
    rcases List.mem_or_eq_of_mem_set hs with h1 | h1
    · exact h.ok.dur s h1
    · rw [h1]; exact hx
  · simp only [hl]; exact h.ok.pos
  · simp only [hl]; exact h.ok.max
  · simp only [hl]; exact h.ok.pend
  · simp only [hl]; exact h.blk.only ho (by simpa using n1)
/-- pending writes forgotten -/
theorem clearPend {W : World} {p : Nat} {D : Disk} {F : List Nat} {gd : Nat} {vp : Value} (h : DiskParts W p D F gd vp) :
    (Instr.storeAt 85 (.pointer (some ⟨p, 0 + 1, none⟩)) (.slice none 0 0)).run Try.prog W = .ok () (setBlk W p [.slice (some ⟨gd, 0, none⟩) D.dur.length D.dur.length, .slice none 0 0, .int .i64 D.left]) ∧
    DiskParts (setBlk W p [.slice (some ⟨gd, 0, none⟩) D.dur.length D.dur.length, .slice none 0 0, .int .i64 D.left]) p { D with pend := [] } [p, gd] gd (.slice none 0 0) := by
  obtain ⟨n1, n2, _, _, _⟩ := h.ne
  refine ⟨?_, ⟨h.ok.dur, h.ok.pos, h.ok.max, fun q hq => by simp at hq, h.ok.left1, h.ok.left2⟩, rfl, by simpa using n1, h.blk.set _, h.dur.setOther (fun e => n1 e.symm) _, World.ownsRow_nil _ _ _ _⟩
  have hst := run_storeCells_at Try.prog p 1 87 [.slice none 0 0] 0 _ W h.blk (by simp) (by simp [Value.oneCell'])
  have hz : (sizeOf 85).run Try.prog W = .ok 1 W := by kernel_rfl
  simp only [Instr.storeAt, Instr.sureAddr, storeVar]
  simp [hz, Value.cells]
  simpa using hst
theorem _root_.Go.Pm.Only.putObj {F : List Nat} {a w : World} (h : Only F a w) {b : Nat} (hb : a.heap.size ≤ b) (o : Obj) : Only F a (w.putObj b o) :=
  ⟨h.os, h.tape, h.output, by simpa using h.size, fun k hk hn => (World.putObj_heap_other (by omega)).trans (h.block k hk hn)⟩
theorem numbered_snd (D : Disk) : (numbered D).map (·.2) = D.pend := by
  unfold numbered
  rw [List.map_map]
  exact List.zipIdx_map_fst 0 D.pend
/-- a write's cells, read -/
theorem loadW0 {w : World} {b : Nat} {x : Nat × List UInt8} (h : Blk w b (wrCells x) 92) : (Instr.loadAt 3 (.pointer (some ⟨b, 0, none⟩))).run Try.prog w = .ok (.int .i64 (x.1 : Int)) w :=
  run_load1 naI (h.cell 0)
theorem loadW1 {w : World} {b : Nat} {x : Nat × List UInt8} (hx : x.2.length = 64) (h : Blk w b (wrCells x) 92) : (Instr.loadAt 90 (.pointer (some ⟨b, 0 + 1, none⟩))).run Try.prog w = .ok (.agg (x.2.map B8).toArray) w :=
  run_load_mid (pre := [.int .i64 (x.1 : Int)]) (post := []) (mid := x.2.map B8) (by rw [List.length_map, hx]; exact wideS) (by simpa [wrCells] using h) rfl
theorem pendEl_len {D : Disk} (hok : D.Ok) (x : PendEl D) : x.1.2.1 < D.dur.length ∧ x.1.2.2.length = 64 := hok.pend _ (List.mem_of_getElem? x.2)

set_option maxRecDepth 100000 in
set_option maxHeartbeats 1000000 in
theorem diskSyncOff (w : World) (p : Nat) (D : Disk) (F : List Nat) (hD : DiskAt w p D F) (hl : D.left = 0) :
    Calls Try.prog 24 #[.pointer (some ⟨p, 0, none⟩)] w fun e w' => e = .returned (.int .i64 20) ∧ DiskTo F w w' p D := by
  have hD1 := Lib.hid (hD.ext ((Below.refl w.heap.size w).alloc (Nat.le_refl _) (.cells #[.pointer (some ⟨p, 0, none⟩)] 36)))
  have ht : Hid (D.tick = D) := by show D.tick = D; unfold Disk.tick; rw [if_neg (by omega)]
  have hb : Hid ((D.left != 0) = false) := by show (D.left != 0) = false; simp [hl]
  clear hD hl
  go_enter Try.func24, Try.ntmps24
  go_wp2_with fail
  refine (diskCall _ p D F hD1.out).mono ?_
  rintro e w1 ⟨rfl, hD2, ho1⟩
  rw [hb.out]
  rw [ht.out] at hD2
  have hD2 := Lib.hid hD2
  have ho1 := Lib.hid ho1
  go_wp2_with fail
  go_ret
  exact ⟨rfl, F, hD2.out, (Only.refl F w).alloc (.cells #[.pointer (some ⟨p, 0, none⟩)] 36) |>.trans ho1.out (fun i _ h => h), fun k hk => .inl hk⟩

set_option maxRecDepth 100000 in
set_option maxHeartbeats 1000000 in
theorem diskSyncOk (w : World) (p : Nat) (D : Disk) (F : List Nat) (hD : DiskAt w p D F) (hl : D.left ≠ 0) (hpl : D.pend.length ≤ 2000000000) :
    Calls Try.prog 24 #[.pointer (some ⟨p, 0, none⟩)] w fun e w' => e = .returned (.int .i64 0) ∧ DiskTo F w w' p D.sync := by
  refine (callsIn_wide (n := 5)).1 ?_
  refine callsIn_of_wp_marks Try.func24 rfl trivial ?_ rfl
  simp only [Try.ntmps24, List.size_toArray, List.length_cons, List.length_nil, Nat.reduceAdd, Nat.reduceSub, Array.replicate_succ, Array.replicate_zero, List.push_toArray, List.append_toArray, List.nil_append, List.cons_append]
  (repeat ((fail_if_success refine wpIn_region_lit ?_); (fail_if_success refine wpIn_cond (t := true) ?_ ?_); gi_step))
  refine wpIn_region_lit ?_
  refine wpi_ex (v := .pointer (some ⟨w.heap.size, 0, none⟩)) (w' := w.alloc (.cells #[.pointer (some ⟨p, 0, none⟩)] 36)) (fun _ => trivial) rfl rfl (ex_box (p := .pointer (some ⟨p, 0, none⟩)) rfl rfl (by kernel_rfl)) ?_
  refine wpi_ex (fun _ => trivial) rfl rfl (ex_assign (v := .int .i64 0) rfl rfl) ?_
  refine wpListIn_nil ?_
  simp only [Act.put, List.setIfInBounds_toArray, List.set_cons_succ, List.set_cons_zero]
  (repeat ((fail_if_success refine wpIn_region_lit ?_); (fail_if_success refine wpIn_cond (t := true) ?_ ?_); gi_step))
  have hbox : Blk (w.alloc (.cells #[.pointer (some ⟨p, 0, none⟩)] 36)) w.heap.size [.pointer (some ⟨p, 0, none⟩)] 36 := blk_new _ _ _
  have hD1 := hD.ext ((Below.refl w.heap.size w).alloc (Nat.le_refl _) (.cells #[.pointer (some ⟨p, 0, none⟩)] 36))
  have ho1 : Only F w (w.alloc (.cells #[.pointer (some ⟨p, 0, none⟩)] 36)) := (Only.refl F w).alloc _
  have hFl := hD.lt
  generalize w.alloc (.cells #[.pointer (some ⟨p, 0, none⟩)] 36) = w1 at *
  refine wpIn_region_lit ?_
  refine wpi_ex (v := .pointer (some ⟨p, 0, none⟩)) (fun _ => trivial) rfl rfl (ex_load rfl rfl (run_load1 naD (hbox.cell 0))) ?_
  refine wpi_call callCall (fun _ => trivial) wideC rfl rfl rfl (args := #[.pointer (some ⟨p, 0, none⟩)]) (by simp only [List.map_toArray, List.map_cons, List.map_nil]; rfl) ((diskCall w1 p D F hD1).mono ?_)
  rintro e w2 ⟨rfl, hD2, ho2⟩
  rw [show (D.left != 0) = true by simp [hl]]
  refine ⟨_, rfl, ?_⟩
  have hbox2 := hbox.only ho2 (fun hf => by have := hFl _ hf; omega)
  refine wpi_ex (fun _ => trivial) rfl rfl (ex_un (v := .bool false) rfl rfl (by simp [go_sem])) ?_
  refine wpListIn_nil ?_
  simp only [Act.put, List.setIfInBounds_toArray, List.set_cons_succ, List.set_cons_zero]
  (repeat ((fail_if_success refine wpIn_region_lit ?_); (fail_if_success refine wpIn_cond (t := true) ?_ ?_); gi_step))
  refine wpIn_cond_false rfl ?_
  (repeat ((fail_if_success refine wpIn_region_lit ?_); (fail_if_success refine wpIn_cond (t := true) ?_ ?_); gi_step))
  refine wpIn_region_lit ?_
  refine wpi_ex (v := .pointer (some ⟨p, 0, none⟩)) (fun _ => trivial) rfl rfl (ex_load rfl rfl (run_load1 naD (hbox2.cell 0))) ?_
  refine wpi_call callWrites (fun _ => trivial) wideC rfl rfl rfl (args := #[.pointer (some ⟨p, 0, none⟩)]) (by simp only [List.map_toArray, List.map_cons, List.map_nil]; rfl) ((diskWrites w2 (some ⟨p, 0, none⟩)).mono ?_)
  rintro e w3 ⟨rfl, hw3⟩
  refine ⟨_, rfl, ?_⟩
  refine wpListIn_nil ?_
  simp only [Act.put, List.setIfInBounds_toArray, List.set_cons_succ, List.set_cons_zero]
  (repeat ((fail_if_success refine wpIn_region_lit ?_); (fail_if_success refine wpIn_cond (t := true) ?_ ?_); gi_step))
  obtain ⟨gd, vp, hP2⟩ := hD2.parts
  have he3 : Ext w2 w3 := by rw [hw3]; exact (Below.refl _ _).alloc (Nat.le_refl _) _
  have hP3 : DiskParts w3 p D.tick F gd vp := hP2.same (fun k hk => he3.block k (hD2.lt k hk))
  have hbox3 := hbox2.ext he3
  have hoB : Only F w w3 := only_then (ho1.trans ho2 (fun i _ h => h)) he3
  have hcB : w3.cell? ⟨w2.heap.size, 0, none⟩ = some (.pointer (some ⟨p, 0, none⟩)) := by
    have : Blk w3 w2.heap.size [.pointer (some ⟨p, 0, none⟩)] 36 := by rw [hw3]; exact blk_new _ _ _
    rw [this.cell]; rfl
  have hlt3 : w2.heap.size < w3.heap.size := by rw [hw3]; simp
  have hF3 : ∀ k ∈ F, k < w3.heap.size := fun k hk => by have := hFl k hk; have := hoB.size; omega
  have hb3 : w.heap.size < w3.heap.size := hbox3.lt
  have hokT := hP3.ok
  clear hw3 hD1 hbox hbox2 hD2 hP2 ho1 ho2 he3
  refine wpIn_rangeFunc_ownH rfl (by omega) (gf := 57) (lb := #[.pointer (some ⟨w2.heap.size, 0, none⟩)]) rfl trivial (enters_of Try.func57 (by kernel_rfl) rfl)
    (diskIter w3 p D.tick F gd vp hP3 w2.heap.size _ hcB hlt3 hpl) (fun h k => pendKept.tr h k)
    (fun W b o o' hb _ _ _ => ⟨by simp, fun g hg => World.putObj_heap_other (by have := hF3 g (hP3.ne.2.2.2.2 g hg); omega)⟩) (Below.refl _ _) (fun _ => rfl)
    (fun pre W => DiskParts W p { D.tick with dur := (pre.map (·.1.2)).foldl Disk.put D.dur } F gd vp ∧ Blk W w.heap.size [.pointer (some ⟨p, 0, none⟩)] 36 ∧ Only F w W ∧ w3.heap.size ≤ W.heap.size)
    (fun _ _ _ => False)
    (ownFrom_stable (fun s W W' ⟨h1, h2, h3, h4⟩ _ hb => ⟨h1.same (fun k hk => hb.block k (hF3 k hk)), (hb.block _ hb3).trans h2, h3.below_then (by omega) hb, Nat.le_trans h4 hb.size⟩) (fun s W h => h.2.2.2))
    (fun _ _ _ _ _ h _ _ => h)
    ⟨hP3, hbox3, hoB, Nat.le_refl _⟩
    (fun x a' W => ∃ Bx, w3.heap.size ≤ Bx ∧ Blk W Bx (wrCells x.1.2) 92 ∧ a' = { tmps := #[.pointer (some ⟨p, 0, none⟩), .pointer (some ⟨w.heap.size, 0, none⟩), .int .i64 0, undef, .pointer (some ⟨Bx, 0, none⟩), .pointer (some ⟨p, 0, none⟩), .bool true, .bool false, .pointer (some ⟨p, 0, none⟩),
      .func (.func 57) #[] #[.pointer (some ⟨w2.heap.size, 0, none⟩)], .int .i64 (x.1.1 : Int), .agg (wrCells x.1.2).toArray, undef, undef, undef, undef, undef, undef, undef, undef, undef, undef, undef, undef], defers := [] })
    (fun x a' s W W' row ⟨Bx, h1, h2, h3⟩ hg hr => ⟨Bx, h1, ownFrom_blk () W W' row h2 hg hr, h3⟩) ?assign ?body ?done ?stop
  case assign =>
    rintro l pre x W K ⟨hI1, hI2, hI3, hI4⟩ hK
    have hx := pendEl_len hokT x
    simp only [pendEnc, List.zip_toArray, List.zip_cons_cons, List.zip_nil_left, List.zip_nil_right, List.foldl_toArray', List.foldl_cons, List.foldl_nil, List.setIfInBounds_toArray, List.set_cons_succ, List.set_cons_zero]
    refine wpIn_region_lit ?_
    refine wpi_ex (fun _ => trivial) rfl rfl (ex_alloc rfl (allocW _)) ?_
    refine wpi_exU (fun _ => trivial) rfl rfl (ex_store rfl rfl rfl (storeNewW W (wrCells x.1.2) (by simp [wrCells, hx.2]) (wrCells_one _))) ?_
    refine wpListIn_nil ?_
    simp only [Act.put, List.setIfInBounds_toArray, List.set_cons_succ, List.set_cons_zero]
    have hE : Ext W (W.alloc (.cells (wrCells x.1.2).toArray 92)) := (Below.refl _ _).alloc (Nat.le_refl _) _
    refine hK _ _ ((Only.of_ext (F := []) hE).keepsFrom (by simp)) ⟨hE.size, fun g hg => hE.block g (by have := hF3 g (hP3.ne.2.2.2.2 g hg); omega)⟩ ⟨hI1.same (fun k hk => hE.block k (by have := hF3 k hk; omega)), hI2.ext hE, only_then hI3 hE, Nat.le_trans hI4 hE.size⟩ ⟨W.heap.size, hI4, blk_new _ _ _, rfl⟩
  case body =>
    rintro l pre x a' W - - ⟨hI1, hI2, hI3, hI4⟩ ⟨Bx, hBx, hbx, rfl⟩ -
    have hx := pendEl_len hokT x
    have hxl : x.1.2.1 < ((pre.map (·.1.2)).foldl Disk.put D.dur).length := by rw [Disk.foldl_put_length]; exact hx.1
    (repeat ((fail_if_success refine wpIn_region_lit ?_); (fail_if_success refine wpIn_cond (t := true) ?_ ?_); gi_step))
    obtain ⟨d, hd⟩ : ∃ d, d = (pre.map (·.1.2)).foldl Disk.put D.dur := ⟨_, rfl⟩
    have hd2 : ((pre ++ [x]).map (·.1.2)).foldl Disk.put D.dur = Disk.put d x.1.2 := by rw [hd]; simp
    rw [← hd] at hI1 hxl
    have hc0 : ∀ w, Ext W w → w.cell? ⟨p, 0, none⟩ = some (.slice (some ⟨gd, 0, none⟩) d.length d.length) := fun w he => by rw [(hI1.blk.ext he).cell]; rfl
    obtain ⟨q, hq⟩ : ∃ q, q = x.1.2 := ⟨_, rfl⟩
    rw [← hq] at hx hxl hbx hd2
    refine wpIn_region_chain mixed (fun ⟨_, _, h⟩ => h) [SP.eq (.pointer (some ⟨p, 0, none⟩)), SP.eq (.pointer (some ⟨p, 0, none⟩)), SP.eq (.pointer (some ⟨p, 0, none⟩)), SP.eq (.slice (some ⟨gd, 0, none⟩) d.length d.length),
      SP.eq (.pointer (some ⟨Bx, 0, none⟩)), SP.eq (.int .i64 (q.1 : Int)), SP.eq (.pointer (some ⟨Bx, 0 + 1, none⟩)), SP.eq (.agg (q.2.map B8).toArray), SP.eq (.pointer (some ⟨gd, 0 + q.1 * 64, none⟩)), SP.any] [9] (PutJ W gd d q) 24 rfl (by kernel_rfl) (by kernel_rfl) (Ext.rfl' _) putJ_ext ⟨?_, ?_, ?_, ?_, ?_, ?_, ?_, ?_, ?_, ?_, trivial⟩ ?_
    · intro a w vals hJ hR
      obtain rfl : vals = [] := List.eq_nil_of_length_eq_zero (Nat.le_zero.1 (hR.hi 9 (by simp) rfl))
      exact add_step rfl (Ex.adds' (ex_load rfl (hR.keep 1 rfl) (run_load1 naD ((hI2.ext hJ).cell 0))) rfl rfl)
    · exact fun a w vals hJ hR => add_step rfl (Ex.adds' (ex_nil rfl (hR.pred 0 12 rfl rfl rfl rfl)) rfl rfl)
    · exact fun a w vals hJ hR => add_step rfl (Ex.adds' (ex_field rfl (hR.pred 1 13 rfl rfl rfl rfl) (faD0 _ _ _)) rfl rfl)
    · intro a w vals hJ hR
      obtain rfl : vals = [] := List.eq_nil_of_length_eq_zero (Nat.le_zero.1 (hR.hi 9 (by simp) rfl))
      exact add_step rfl (Ex.adds' (ex_load rfl (hR.pred 2 14 rfl rfl rfl rfl) (run_load1 naS (hc0 w hJ))) rfl rfl)
    · exact fun a w vals hJ hR => add_step rfl (Ex.adds' (ex_field rfl (hR.keep 4 rfl) (faW0 _ _ _)) rfl rfl)
    · intro a w vals hJ hR
      obtain rfl : vals = [] := List.eq_nil_of_length_eq_zero (Nat.le_zero.1 (hR.hi 9 (by simp) rfl))
      exact add_step rfl (Ex.adds' (ex_load rfl (hR.pred 4 16 rfl rfl rfl rfl) (loadW0 (hbx.ext hJ))) rfl rfl)
    · exact fun a w vals hJ hR => add_step rfl (Ex.adds' (ex_field rfl (hR.keep 4 rfl) (faW1 _ _ _)) rfl rfl)
    · intro a w vals hJ hR
      obtain rfl : vals = [] := List.eq_nil_of_length_eq_zero (Nat.le_zero.1 (hR.hi 9 (by simp) rfl))
      exact add_step rfl (Ex.adds' (ex_load rfl (hR.pred 6 18 rfl rfl rfl rfl) (loadW1 hx.2 (hbx.ext hJ))) rfl rfl)
    · exact fun a w vals hJ hR => add_step rfl (Ex.adds' (ex_index rfl (hR.pred 3 15 rfl rfl rfl rfl) (hR.pred 5 17 rfl rfl rfl rfl) (run_index (e := 90) Try.underlying84 (sizeS w) hxl)) rfl rfl)
    · refine fun a w vals hJ hR => mem_step rfl fun hvl => ?_
      obtain rfl : vals = [] := List.eq_nil_of_length_eq_zero hvl
      exact ExU.mem (ex_store rfl (hR.pred 8 20 rfl rfl rfl rfl) (hR.pred 7 19 rfl rfl rfl rfl) (storeSec (hI1.dur.ext hJ) hI1.ok.dur q.1 hxl q.2 hx.2)) rfl ⟨(Only.of_ext hJ).setBlk (.inl (by simp)) _, (hI1.dur.ext hJ).set _⟩
    · intro vs w4 vals hlen hvl hJ hF
      obtain ⟨ho4, hb4⟩ : Only [gd] W w4 ∧ Blk w4 gd (durCells (Disk.put d q)) 90 := by
        match vals, hvl with
        | [v1], _ => exact hJ
      refine ⟨ho4.keepsFrom (fun k hk => by simp at hk; subst hk; exact hF3 _ hP3.ne.2.2.2.1), ⟨ho4.size, fun g hg => ho4.block g (by have := hF3 g (hP3.ne.2.2.2.2 g hg); omega) (by simpa using (hP3.ne.2.1 g hg).2)⟩, ?_, hI2.only ho4 (by simp; intro e; have := hFl gd hP3.ne.2.2.2.1; omega), hI3.trans ho4 (fun i _ hi => by simp at hi; subst hi; exact hP3.ne.2.2.2.1), Nat.le_trans hI4 ho4.size⟩
      rw [hd2]
      exact hI1.put hx.2 ho4 hb4
  case done =>
    rintro E xs W hE hS ⟨hI1, hI2, hI3, hI4⟩ hK
    have hdur : (xs.map (·.1.2)).foldl Disk.put D.dur = D.pend.foldl Disk.put D.dur := by
      have : xs.map (·.1.2) = D.pend := by
        have h1 := congrArg (List.map (·.2)) hS
        rw [numbered_snd, List.map_map] at h1
        exact h1
      rw [this]
    rw [hdur] at hI1
    obtain ⟨hst, hPf⟩ := clearPend hI1
    (repeat ((fail_if_success refine wpIn_region_lit ?_); (fail_if_success refine wpIn_cond (t := true) ?_ ?_); gi_step))
    refine wpIn_region_lit ?_
    refine wpi_ex (v := .pointer (some ⟨p, 0, none⟩)) (fun _ => trivial) rfl rfl (ex_load rfl rfl (run_load1 naD (hI2.cell 0))) ?_
    refine wpi_ex (fun _ => trivial) rfl rfl (ex_nil rfl rfl) ?_
    refine wpi_ex (fun _ => trivial) rfl rfl (ex_field rfl rfl (faD1 _ _ _)) ?_
    refine wpi_exU (fun _ => trivial) rfl rfl (ex_store rfl rfl rfl hst) ?_
    refine wpListIn_nil ?_
    simp only [Act.put, List.setIfInBounds_toArray, List.set_cons_succ, List.set_cons_zero]
    (repeat ((fail_if_success refine wpIn_region_lit ?_); (fail_if_success refine wpIn_cond (t := true) ?_ ?_); gi_step))
    refine wpIn_region_lit ?_
    refine wpi_ex (fun _ => trivial) rfl rfl (ex_assign (v := .int .i64 0) rfl rfl) ?_
    refine wpListIn_nil ?_
    simp only [Act.put, List.setIfInBounds_toArray, List.set_cons_succ, List.set_cons_zero]
    (repeat ((fail_if_success refine wpIn_region_lit ?_); (fail_if_success refine wpIn_cond (t := true) ?_ ?_); gi_step))
    have hpF := hFl p hP3.ne.2.2.1
    have hgF := hFl gd hP3.ne.2.2.2.1
    have hK2 : (setBlk W p [.slice (some ⟨gd, 0, none⟩) (List.foldl Disk.put D.dur D.pend).length (List.foldl Disk.put D.dur D.pend).length, .slice none 0 0, .int .i64 D.tick.left]).heap[E]? = some (.deferred (some [])) := by
      unfold setBlk; rw [setRow_other _ _ _ _ (by omega)]; exact hK
    refine ⟨by simp, .inl ⟨_, _, rfl, run_takeDeferred hK2, ?_⟩⟩
    refine ⟨_, results_tmp rfl _ _ _, rfl, [p, gd], (hPf.same (fun k hk => World.putObj_heap_other (by simp at hk; omega))).at, (hI3.setBlk (.inl hP3.ne.2.2.1) _).putObj (by omega) _, fun k hk => by simp at hk; rcases hk with rfl | rfl; exact .inl hP3.ne.2.2.1; exact .inl hP3.ne.2.2.2.1⟩
  case stop =>
    rintro E c pre W _ _ h _
    exact h.elim
end Go.Proofs.Ytkannfkjnohdlaa
