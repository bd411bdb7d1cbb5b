/- disk.Write -/
import Derived.Test.YtkannfkjnohdlaaDisk
import Derived.Deep.WholeRow
import Derived.Deep.DeepCutAuto
namespace Go.Proofs.Ytkannfkjnohdlaa
open Go.RowKit Go.Pm

/-- sixty-four zero bytes -/
def z64 : List Value := List.replicate 64 (.int .u8 0)
theorem z64_len : z64.length = 64 := by unfold z64; simp
theorem z64_b8 : z64 = (List.replicate 64 (0 : UInt8)).map B8 := by unfold z64; simp [B8]
theorem z64_drop (k : Nat) : z64.drop k = List.replicate (64 - k) (.int .u8 0) := by unfold z64; rw [List.drop_replicate]
theorem buildW (x : Int) (w : World) : (Instr.build 92 #[(0, .int .i64 x)]).run Try.prog w = .ok (.agg (.int .i64 x :: z64).toArray) w := by kernel_rfl
theorem allocW (w : World) : (Instr.alloc 92 true (.tuple #[])).run Try.prog w = .ok (.pointer (some ⟨w.heap.size, 0, none⟩)) (w.alloc (.cells (.int .i64 0 :: z64).toArray 92)) := by kernel_rfl
theorem wideW : Wide Try.prog 92 65 := ⟨fun w => by kernel_rfl, by kernel_rfl⟩
theorem wideS : Wide Try.prog 90 64 := ⟨fun w => by kernel_rfl, by kernel_rfl⟩
theorem faW0 (b off : Nat) (w : World) : (Instr.fieldAt 92 (.pointer (some ⟨b, off, none⟩)) 0).run Try.prog w = .ok (.pointer (some ⟨b, off, none⟩)) w := by kernel_rfl
theorem faW1 (b off : Nat) (w : World) : (Instr.fieldAt 92 (.pointer (some ⟨b, off, none⟩)) 1).run Try.prog w = .ok (.pointer (some ⟨b, off + 1, none⟩)) w := by kernel_rfl
theorem faD0 (b off : Nat) (w : World) : (Instr.fieldAt 87 (.pointer (some ⟨b, off, none⟩)) 0).run Try.prog w = .ok (.pointer (some ⟨b, off, none⟩)) w := by kernel_rfl
theorem faD1 (b off : Nat) (w : World) : (Instr.fieldAt 87 (.pointer (some ⟨b, off, none⟩)) 1).run Try.prog w = .ok (.pointer (some ⟨b, off + 1, none⟩)) w := by kernel_rfl
theorem faD2 (b off : Nat) (w : World) : (Instr.fieldAt 87 (.pointer (some ⟨b, off, none⟩)) 2).run Try.prog w = .ok (.pointer (some ⟨b, off + 2, none⟩)) w := by kernel_rfl
theorem slS (b off : Nat) (w : World) : (Instr.sliceAt 90 (.pointer (some ⟨b, off, none⟩)) none none none).run Try.prog w = .ok (.slice (some ⟨b, off, none⟩) 64 64) w := by kernel_rfl
theorem naP (w : World) : (isAgg 85).run Try.prog w = .ok false w := by kernel_rfl
theorem naI (w : World) : (isAgg 3).run Try.prog w = .ok false w := by kernel_rfl
theorem naS (w : World) : (isAgg 84).run Try.prog w = .ok false w := by kernel_rfl
theorem elemW : Elem Try.prog 85 92 (.agg (.int .i64 0 :: z64).toArray) 65 72 := ⟨Try.underlying85, info_parts (by kernel_rfl), by unfold z64; simp [Value.cells], by decide⟩

theorem nsec_int (l : List UInt8) : ((l.length : Int) + 64 - 1) / 64 = (Disk.nsec l : Int) := by unfold Disk.nsec; omega

set_option maxRecDepth 100000 in
set_option maxHeartbeats 1000000 in
theorem diskWriteBad (w : World) (p : Nat) (D : Disk) (F : List Nat) (at_ : Int) (a : Option Addr) (n cap : Nat) (l : List UInt8) (hD : DiskAt w p D F) (ha : -9223372036854775808 ≤ at_ ∧ at_ ≤ 9223372036854775807) (hn : l.length = n) (hm : n ≤ 1000000000) (hh : D.has at_ (Disk.nsec l) = false) :
    Calls Try.prog 22 #[.pointer (some ⟨p, 0, none⟩), .int .i64 at_, .slice a n cap] w fun e w' => e = .returned (.int .i64 2) ∧ w = w' := by
  subst hn
  have hDH := Lib.hid hD
  have hns := Lib.hid (nsec_int l)
  have hhH := Lib.hid hh
  clear hD hh
  go_enter Try.func22, Try.ntmps22
  go_wp2_with fail
  rw [hns.out]
  refine (diskHas w p D F at_ _ hDH.out ha).mono ?_
  rintro e w' ⟨rfl, rfl⟩
  rw [hhH.out]
  go_wp2_with fail
  go_ret
  exact ⟨rfl, rfl⟩

set_option maxRecDepth 100000 in
set_option maxHeartbeats 1000000 in
theorem diskWriteOff (w : World) (p : Nat) (D : Disk) (F : List Nat) (at_ : Int) (a : Option Addr) (n cap : Nat) (l : List UInt8) (hD : DiskAt w p D F) (ha : -9223372036854775808 ≤ at_ ∧ at_ ≤ 9223372036854775807) (hn : l.length = n) (hm : n ≤ 1000000000) (hh : D.has at_ (Disk.nsec l) = true) (hl : D.left = 0) :
    Calls Try.prog 22 #[.pointer (some ⟨p, 0, none⟩), .int .i64 at_, .slice a n cap] w fun e w' => e = .returned (.int .i64 20) ∧ DiskAt w' p D F ∧ Only F w w' := by
  subst hn
  have hDH := Lib.hid hD
  have hns := Lib.hid (nsec_int l)
  have hhH := Lib.hid hh
  have ht : Hid (D.tick = D) := by show D.tick = D; unfold Disk.tick; rw [if_neg (by omega)]
  have hb : Hid ((D.left != 0) = false) := by show (D.left != 0) = false; simp [hl]
  clear hD hh hl
  go_enter Try.func22, Try.ntmps22
  go_wp2_with fail
  rw [hns.out]
  refine (diskHas w p D F at_ _ hDH.out ha).mono ?_
  rintro e w' ⟨rfl, rfl⟩
  rw [hhH.out]
  go_wp2_with fail
  refine (diskCall w p D F hDH.out).mono ?_
  rintro e w1 ⟨rfl, hD1, ho1⟩
  rw [hb.out]
  rw [ht.out] at hD1
  have hD1 := Lib.hid hD1
  have ho1 := Lib.hid ho1
  go_wp2_with fail
  go_ret
  exact ⟨rfl, hD1.out, ho1.out⟩

/-- what copy brings over, and what the write's cells are then -/
theorem copyCells (l : List UInt8) (i n' : Nat) (hn : (l.drop (64 * i)).length = n') : ∃ cs : List Value, cs = ((l.drop (64 * i)).map B8).take 64 ∧ cs.length = Nat.min n' 64 ∧ cs ++ z64.drop cs.length = (Disk.sector l i).map B8 ∧ cs.length ≤ n' := by
  refine ⟨_, rfl, by simp [← hn, Nat.min_comm], ?_, by simp [← hn]; omega⟩
  unfold Disk.sector Disk.pad
  rw [← List.map_take, List.map_append, List.length_map, z64_drop, List.map_replicate]
  rfl


set_option maxRecDepth 100000 in
/-- b[k:] of bytes -/
theorem run_from {w W : World} {S : Nat → Prop} {a : Option Addr} {n c : Nat} {l : List UInt8} (k : Nat) (hn : l.length = n) (hok : SliceOk a n c) (hb : Bytes w S a l) (hk : k ≤ n) :
    ∃ a', (Instr.sliceAt 24 (.slice a n c) (some (.int .i64 (k : Int))) none none).run Try.prog W = .ok (.slice a' (n - k) (c - k)) W ∧ SliceOk a' (n - k) (c - k) ∧ Bytes w S a' (l.drop k) := by
  have hs : ∀ w, (sizeOf (Try.prog.elem 24)).run Try.prog w = .ok 1 w := fun w => by kernel_rfl
  have hle := hok.le
  have hmx := hok.max
  refine ⟨if c = k then a else a.map (·.add (k * 1)), ?_, ⟨by omega, by omega, ?_⟩, ?_⟩
  · rw [run_sliceAt_slice W _ _ _ _ _ Try.underlying24, run_slice_l W _ a n c Try.underlying24 .i64 k (by omega) (by omega), hs]
    simp [sliced, Result.andThen]
  · split
    · intro h; omega
    · intro h
      have := hok.nil (by simpa using h)
      omega
  · intro i hi
    have hi' : k + i < l.length := by simp at hi; omega
    obtain ⟨b, off, h1, h2, h3⟩ := hb (k + i) hi'
    rw [if_neg (by omega)]
    subst h1
    refine ⟨b, off + k, ?_, h2, by rw [Nat.add_assoc, h3]; simp⟩
    have : (⟨b, off, none⟩ : Addr).add (k * 1) = ⟨b, off + k, none⟩ := by unfold Addr.add; split <;> simp_all
    rw [Option.map_some, this]

theorem pendCells_snoc (l : List (Nat × List UInt8)) (x : Nat × List UInt8) : pendCells (l ++ [x]) = pendCells l ++ wrCells x := by simp [pendCells]
theorem wrCells_one (x : Nat × List UInt8) : ∀ v ∈ wrCells x, v.oneCell' = true := by
  intro v hv
  simp only [wrCells, List.mem_cons] at hv
  rcases hv with rfl | hv
  · rfl
  · exact oneCell_bytes _ v hv

/-- the disk's parts, named -/
structure DiskParts (w : World) (p : Nat) (D : Disk) (F : List Nat) (gd : Nat) (vp : Value) : Prop where
  ok : D.Ok
  eqF : F = p :: gd :: (Value.ownBlock vp).toList
  nd : F.Nodup
  blk : Blk w p [.slice (some ⟨gd, 0, none⟩) D.dur.length D.dur.length, vp, .int .i64 D.left] 87
  dur : Blk w gd (durCells D.dur) 90
  pend : w.ownsRow 0 92 65 vp D.pend.length (pendCells D.pend)
theorem DiskAt.parts {w : World} {p : Nat} {D : Disk} {F : List Nat} (h : DiskAt w p D F) : ∃ gd vp, DiskParts w p D F gd vp := by
  obtain ⟨h0, gd, vp, h1, h2, h3, h4, h5⟩ := h
  exact ⟨gd, vp, h0, h1, h2, h3, h4, h5⟩
theorem DiskParts.at {w : World} {p : Nat} {D : Disk} {F : List Nat} {gd : Nat} {vp : Value} (h : DiskParts w p D F gd vp) : DiskAt w p D F := ⟨h.ok, gd, vp, h.eqF, h.nd, h.blk, h.dur, h.pend⟩

theorem add_step {b : Bool} {X Y : Prop} (hb : b = false) (h : Y) : if b = true then X else Y := by rw [hb]; exact h
theorem mem_step {b : Bool} {X Y : Prop} (hb : b = true) (h : X) : if b = true then X else Y := by rw [hb]; exact h
/-- what holds while a write is pushed on: nothing done; appended; stored -/
def PushJ (W : World) (p : Nat) (D : Disk) (F : List Nat) (vp : Value) (x : Nat × List UInt8) : List Value → World → Prop
  | [], w => Ext W w
  | [v], w => w.ownsRow 0 92 65 v (D.pend.length + 1) (pendCells D.pend ++ wrCells x) ∧ Only vp.ownBlock.toList W w ∧ (v.ownBlock = vp.ownBlock ∨ ∃ b, v.ownBlock = some b ∧ W.heap.size ≤ b)
  | _, w => ∃ F', DiskAt w p { D with pend := D.pend ++ [x] } F' ∧ Only F W w ∧ ∀ k ∈ F', k ∈ F ∨ W.heap.size ≤ k
theorem only_then {F : List Nat} {a b c : World} (h : Only F a b) (k : Ext b c) : Only F a c := h.trans (Only.of_ext (F := []) k) (fun i _ hi => by simp at hi)
theorem pushJ_ext {W : World} {p : Nat} {D : Disk} {F : List Nat} {vp : Value} {x : Nat × List UInt8} : ∀ vals w w', PushJ W p D F vp x vals w → Ext w w' → PushJ W p D F vp x vals w'
  | [], w, w', h, he => h.tr he
  | [v], w, w', ⟨h1, h2, h3⟩, he => ⟨ownsRow_ext h1 he, only_then h2 he, h3⟩
  | _ :: _ :: _, w, w', ⟨F', h1, h2, h3⟩, he => ⟨F', h1.ext he, only_then h2 he, h3⟩
/-- one element in a block of its own -/
def rowSP (L : List Value) : SP := ⟨fun w v => ∃ b, v = .slice (some ⟨b, 0, none⟩) 1 1 ∧ ∃ t, Blk w b L t, fun _ _ _ he ⟨b, h1, t, h2⟩ => ⟨b, h1, t, h2.ext he⟩⟩
theorem blk_src {w : World} {b : Nat} {L : List Value} {t : TypeId} (h : Blk w b L t) : Src w (some ⟨b, 0, none⟩) L := fun i hi => ⟨b, 0, rfl, by rw [h.cell]; simp [hi]⟩

theorem pushAppend {W w : World} {p : Nat} {D : Disk} {F : List Nat} {gd : Nat} {vp : Value} {x : Nat × List UInt8} {ty : TypeId} (hD : DiskParts W p D F gd vp) (hx : x.2.length = 64) (hl : D.pend.length ≤ 2000000000) (hJ : PushJ W p D F vp x [] w) {v : Value} (hv : (rowSP (wrCells x)).p w v) :
    ∃ v' w', (Builtin.append_ #[85, 85] ty #[vp, v]).run Try.prog w = .ok v' w' ∧ PushJ W p D F vp x ([] ++ [v']) w' := by
  obtain ⟨b, rfl, t, hb⟩ := hv
  obtain ⟨v', w', hr, h1, h2, h3⟩ := run_append_src2 (ty := ty) elemW (ownsRow_ext hD.pend hJ) (ad := some ⟨b, 0, none⟩) (m := 1) (c := 1) (news := wrCells x) ⟨by omega, by unfold maxLen; omega, by simp⟩ (by simp [wrCells, hx]) (blk_src hb) (wrCells_one x) (by simp only [maxLen]; omega) (by omega)
  refine ⟨v', w', hr, h1, ?_, ?_⟩
  · exact (Only.of_ext (F := vp.ownBlock.toList) hJ).grown h2 (fun k hk => .inl (by simp [hk]))
  · rcases h3 with h3 | ⟨b', h3, h4⟩
    · exact .inl h3
    · exact .inr ⟨b', h3, Nat.le_trans hJ.size h4⟩

theorem pushStore {W w : World} {p : Nat} {D : Disk} {F : List Nat} {gd : Nat} {vp : Value} {x : Nat × List UInt8} (hD : DiskParts W p D F gd vp) (hx : x.1 < D.dur.length ∧ x.2.length = 64) {v : Value} (hJ : PushJ W p D F vp x [v] w) :
    ∃ w', (Instr.storeAt 85 (.pointer (some ⟨p, 0 + 1, none⟩)) v).run Try.prog w = .ok () w' ∧ PushJ W p D F vp x ([v] ++ [undef]) w' := by
  obtain ⟨h1, h2, h3⟩ := hJ
  have hF := hD.eqF
  have hnd := hD.nd
  subst hF
  have hnd' := hnd
  simp only [List.nodup_cons, List.mem_cons, Option.mem_toList, not_or] at hnd'
  have hp : Blk w p [.slice (some ⟨gd, 0, none⟩) D.dur.length D.dur.length, vp, .int .i64 D.left] 87 := hD.blk.only h2 (by simpa using hnd'.1.2)
  have hg : Blk w gd (durCells D.dur) 90 := hD.dur.only h2 (by simpa using hnd'.2.1)
  have hpl := hD.blk.lt
  have hgl := hD.dur.lt
  have hne : ∀ b, v.ownBlock = some b → b ≠ p ∧ b ≠ gd := by
    intro b hb
    rcases h3 with h3 | ⟨b', h3, h4⟩
    · rw [h3] at hb
      exact ⟨fun e => hnd'.1.2 (e ▸ hb), fun e => hnd'.2.1 (e ▸ hb)⟩
    · rw [h3] at hb
      simp only [Option.some.injEq] at hb
      omega
  refine ⟨setBlk w p [.slice (some ⟨gd, 0, none⟩) D.dur.length D.dur.length, v, .int .i64 D.left], ?_, p :: gd :: v.ownBlock.toList, ⟨?_, gd, v, rfl, ?_, hp.set _, hg.setOther (fun e => hnd'.1.1 e.symm) _, ?_⟩, ?_, ?_⟩
  · have hsz : v.cells = #[v] := by
      rcases h1.2 with ⟨rfl, _⟩ | ⟨g, cap, cur, rfl, _⟩ <;> rfl
    have h1c : v.oneCell' = true := by
      rcases h1.2 with ⟨rfl, _⟩ | ⟨g, cap, cur, rfl, _⟩ <;> rfl
    have hst := run_storeCells_at Try.prog p 1 87 [v] 0 _ w hp (by simp) (by simpa using h1c)
    have hz : (sizeOf 85).run Try.prog w = .ok 1 w := by kernel_rfl
    simp only [Instr.storeAt, Instr.sureAddr, storeVar]
    simp [hsz, hz]
    simpa using hst
  · have := hD.ok
    refine ⟨this.dur, this.pos, this.max, fun q hq => ?_, this.left1, this.left2⟩
    simp only [List.mem_append, List.mem_singleton] at hq
    rcases hq with hq | rfl
    · exact this.pend q hq
    · exact hx
  · simp only [List.nodup_cons, List.mem_cons, Option.mem_toList, not_or]
    refine ⟨⟨hnd'.1.1, fun e => (hne p e).1 rfl⟩, fun e => (hne gd e).2 rfl, ?_⟩
    cases v.ownBlock <;> simp
  · simp only [List.length_append, List.length_singleton, pendCells_snoc]
    exact ownsRow_only h1 ((Only.refl [p] w).setBlk (.inl (by simp)) _) (fun b hb => by simpa using (hne b hb).1)
  · exact (h2.mono (fun k _ hk => by simp at hk ⊢; exact .inr (.inr hk))).setBlk (.inl (by simp)) _
  · intro k hk
    simp only [List.mem_cons, Option.mem_toList] at hk ⊢
    rcases hk with rfl | rfl | hk
    · simp
    · simp
    · rcases h3 with h3 | ⟨b', h3, h4⟩
      · rw [h3] at hk; exact .inl (.inr (.inr hk))
      · rw [h3] at hk
        simp only [Option.some.injEq] at hk
        exact .inr (by omega)

set_option maxRecDepth 100000 in
set_option maxHeartbeats 400000 in
theorem diskWriteOk (w : World) (p : Nat) (D : Disk) (F : List Nat) (at_ : Nat) (a : Option Addr) (n cap : Nat) (l : List UInt8) (S : Nat → Prop) (hD : DiskAt w p D F) (hn : l.length = n) (hok : SliceOk a n cap) (hb : Bytes w S a l) (hS : ∀ k, S k → k < w.heap.size ∧ k ∉ F)
    (hh : D.has at_ (Disk.nsec l) = true) (hl : D.left ≠ 0) (hpl : D.pend.length ≤ 1000000000) :
    Calls Try.prog 22 #[.pointer (some ⟨p, 0, none⟩), .int .i64 (at_ : Int), .slice a n cap] w fun e w' => e = .returned (.int .i64 0) ∧ ∃ F', DiskAt w' p (D.write at_ l) F' ∧ Only F w w' ∧ ∀ k ∈ F', k ∈ F ∨ w.heap.size ≤ k := by
  subst hn
  have hfit : 1 ≤ Disk.nsec l ∧ at_ + Disk.nsec l ≤ D.dur.length := by
    simp only [Disk.has, Bool.and_eq_true, decide_eq_true_eq] at hh
    omega
  have hmx := hD.1.max
  have hm : l.length ≤ 10000000 := by unfold Disk.nsec at hfit; omega
  have hDH := Lib.hid hD
  have hns := Lib.hid (nsec_int l)
  have hhH := Lib.hid hh
  have hbH : Hid ((D.left != 0) = true) := by show (D.left != 0) = true; simp [hl]
  have hokH := Lib.hid hok
  have hbyH := Lib.hid hb
  have hSH := Lib.hid hS
  clear hD hh hl hb hok hS
  go_enter Try.func22, Try.ntmps22
  go_wp2_with fail
  rw [hns.out]
  refine (diskHas w p D F at_ _ hDH.out (by omega)).mono ?_
  rintro e w' ⟨rfl, rfl⟩
  rw [hhH.out]
  go_wp2_with fail
  refine (diskCall w p D F hDH.out).mono ?_
  rintro e w1 ⟨rfl, hD1, ho1⟩
  rw [hbH.out]
  have hD1 := Lib.hid hD1
  have ho1 := Lib.hid ho1
  go_wp2_with fail
  go_loopw [1, 2] (fun x b wr => ∃ (i : Nat) (a' : Option Addr) (n' c' : Nat) (Fi : List Nat), i ≤ Disk.nsec l ∧ x = .int .i64 ((at_ + i : Nat) : Int) ∧ b = .slice a' n' c' ∧ (l.drop (64 * i)).length = n' ∧ SliceOk a' n' c' ∧ Bytes w S a' (l.drop (64 * i)) ∧
      DiskAt wr p { D.tick with pend := D.pend ++ Disk.writesOf at_ l i } Fi ∧ Only F w wr ∧ ∀ k ∈ Fi, k ∈ F ∨ w.heap.size ≤ k) (fun x _ _ => at_ + Disk.nsec l - (intOf x).toNat)
  case atStart => exact ⟨0, a, l.length, cap, F, by omega, rfl, rfl, by simp, hokH.out, by simpa using hbyH.out, by simp only [Disk.writesOf, List.range_zero, List.map_nil, List.append_nil]; exact hD1.out, ho1.out, fun k hk => .inl hk⟩
  case round =>
    obtain ⟨i, a', n', c', Fi, hi, rfl, rfl, hn', hok', hby', hDi, hoi, hFi⟩ := hrel
    by_cases hlt : i < Disk.nsec l
    · have hnpos : 0 < n' := by rw [← hn']; simp [Disk.nsec] at hlt ⊢; omega
      have hnle : n' ≤ 10000000 := by rw [← hn']; simp; omega
      have hby2 := hby'.only hoi hSH.out
      -- the new write, in a block of its own
      obtain ⟨sec, hsec⟩ : ∃ sec, sec = Disk.sector l i := ⟨_, rfl⟩
      have hcells := copyCells l i n' hn'
      rw [← hsec] at hcells
      obtain ⟨cs, hcs1, hcs2, hcs3, hcs4⟩ := hcells
      have hsecl : sec.length = 64 := by rw [hsec]; exact Disk.sector_length l i
      have hW1 : Blk (wr.alloc (.cells (.int .i64 ((at_ + i : Nat) : Int) :: z64).toArray 92)) wr.heap.size ([.int .i64 ((at_ + i : Nat) : Int)] ++ z64.take cs.length ++ z64.drop cs.length) 92 := by
        rw [List.append_assoc, List.take_append_drop]; exact blk_new _ _ _
      have hsrc1 : Src (wr.alloc (.cells (.int .i64 ((at_ + i : Nat) : Int) :: z64).toArray 92)) a' cs := by
        rw [hcs1]
        exact fun j hj => (hby2.frame (w' := wr.alloc (.cells (.int .i64 ((at_ + i : Nat) : Int) :: z64).toArray 92)) (fun b hb => heap_old _ _ b (Nat.lt_of_lt_of_le (hSH.out b hb).1 hoi.size))).src.take _ j hj
      have hcopy := run_copy_mid (P := Try.prog) (dT := 24) (ty := 3) (dLen := 64) (dCap := 64) (sCap := c') Try.underlying24 (by kernel_rfl) hW1 1 rfl (by rw [List.length_take, z64_len, hcs2]; exact Nat.min_eq_left (Nat.min_le_right _ _)) hcs2 hok' hsrc1 (by rw [hcs1]; exact fun u hu => oneCell_bytes _ u (List.mem_of_mem_take hu))
      have hW2 : setBlk (wr.alloc (.cells (.int .i64 ((at_ + i : Nat) : Int) :: z64).toArray 92)) wr.heap.size ([.int .i64 ((at_ + i : Nat) : Int)] ++ cs ++ z64.drop cs.length) = wr.alloc (.cells (wrCells (at_ + i, sec)).toArray 92) := by
        unfold setBlk wrCells
        rw [World.setRow_alloc_new, List.append_assoc, hcs3]
        rfl
      rw [hW2] at hcopy
      have hst := run_store_mid (P := Try.prog) (t := 92) (b := wr.heap.size) (off := 0) (pre := []) (mid := .int .i64 0 :: z64) (post := []) (new := .int .i64 ((at_ + i : Nat) : Int) :: z64) (w := wr.alloc (.cells (.int .i64 0 :: z64).toArray 92)) (e := 92)
        (by rw [List.length_cons, z64_len]; exact wideW.size) (by simpa using blk_new wr (.int .i64 0 :: z64) 92) rfl rfl (by unfold z64; simp [Value.oneCell'])
      have hW1' : setBlk (wr.alloc (.cells (.int .i64 0 :: z64).toArray 92)) wr.heap.size ([] ++ (.int .i64 ((at_ + i : Nat) : Int) :: z64) ++ []) = wr.alloc (.cells (.int .i64 ((at_ + i : Nat) : Int) :: z64).toArray 92) := by
        unfold setBlk
        rw [World.setRow_alloc_new]
        simp
      rw [hW1'] at hst
      have hcl := hcs2
      have hstH := Lib.hid hst
      have hcopyH := Lib.hid hcopy
      have hDiH := Lib.hid hDi
      have hoiH := Lib.hid hoi
      have hFiH := Lib.hid hFi
      have hbyiH := Lib.hid hby'
      have hokiH := Lib.hid hok'
      have hn'H := Lib.hid hn'
      have hcs2H := Lib.hid hcs2
      have hsecH := Lib.hid hsec
      have hle64 : cs.length ≤ 64 := by rw [hcs2]; exact Nat.min_le_right _ _
      clear hst hcopy hDi hoi hFi hby' hok' hn' hcs1 hcs2 hcs3 hW1 hW2 hW1' hsrc1 hby2 hsec hcl
      go_upto_region 6 with (fail)
      refine wp_region_lit ?_
      refine wpl_ex rfl (ex_move (v := .int .i64 ((at_ + i : Nat) : Int)) rfl rfl) ?_
      refine wpl_ex rfl (ex_build1 rfl rfl (buildW _ _)) ?_
      refine wpl_ex rfl (ex_alloc rfl (allocW _)) ?_
      refine wpl_exU rfl (ex_store rfl rfl rfl hstH.out) ?_
      refine wpList_nil ?_
      simp only [Act.put, List.setIfInBounds_toArray, List.set_cons_succ, List.set_cons_zero]
      go_upto_region 7 with (fail)
      refine wp_region_lit ?_
      refine wpl_ex rfl (ex_field rfl rfl (faW1 _ _ _)) ?_
      refine wpl_ex rfl (ex_slice rfl rfl rfl rfl rfl (slS _ _ _)) ?_
      refine wpl_ex rfl (ex_move (v := .slice a' n' c') rfl rfl) ?_
      refine wpl_ex rfl (ex_copy rfl rfl rfl hcopyH.out) ?_
      refine wpl_ex rfl (ex_assign (v := .int .i64 (cs.length : Int)) rfl rfl) ?_
      refine wpList_nil ?_
      simp only [Act.put, List.setIfInBounds_toArray, List.set_cons_succ, List.set_cons_zero]
      go_upto_region 8 with (fail)
      obtain ⟨gd, vp, hDp⟩ := (hDiH.out.ext ((Below.refl wr.heap.size wr).alloc (Nat.le_refl _) (.cells (wrCells (at_ + i, sec)).toArray 92))).parts
      have hnb : Blk (wr.alloc (.cells (wrCells (at_ + i, sec)).toArray 92)) wr.heap.size (wrCells (at_ + i, sec)) 92 := blk_new _ _ _
      have hW2size : wr.heap.size ≤ (wr.alloc (.cells (wrCells (at_ + i, sec)).toArray 92)).heap.size := by simp
      have hoW2 := hoiH.out.alloc (.cells (wrCells (at_ + i, sec)).toArray 92)
      have hpl2 : (D.pend ++ Disk.writesOf at_ l i).length ≤ 1000000000 + 65536 := by simp [Disk.writesOf]; omega
      obtain ⟨Di, hDie⟩ : ∃ Di : Disk, Di = { D.tick with pend := D.pend ++ Disk.writesOf at_ l i } := ⟨_, rfl⟩
      rw [← hDie] at hDp
      have hDil : Di.pend.length ≤ 1000000000 + 65536 := by rw [hDie]; exact hpl2
      have hDid : at_ + i < Di.dur.length := by rw [hDie]; show at_ + i < D.dur.length; omega
      have hwl : (wrCells (at_ + i, sec)).length = 65 := by simp [wrCells, hsecl]
      obtain ⟨x, hx⟩ : ∃ x, x = (at_ + i, sec) := ⟨_, rfl⟩
      rw [← hx] at hDp hnb hW2size hoW2 hwl ⊢
      generalize wr.alloc (.cells (wrCells x).toArray 92) = W2 at *
      have hc1 : ∀ w, Ext W2 w → w.cell? ⟨p, 0 + 1, none⟩ = some vp := fun w he => by rw [(hDp.blk.ext he).cell]; rfl
      refine wp_region_chain mixed [SP.eq (.pointer (some ⟨p, 0, none⟩)), SP.eq (.pointer (some ⟨p, 0, none⟩)), SP.eq (.pointer (some ⟨p, 0, none⟩)), SP.eq (.pointer (some ⟨p, 0 + 1, none⟩)), SP.eq vp, SP.eq (.agg (wrCells x).toArray), rowSP (wrCells x),
        SP.any, SP.eq (.pointer (some ⟨p, 0, none⟩)), SP.eq (.pointer (some ⟨p, 0 + 1, none⟩)), SP.any] [7, 10] (PushJ W2 p Di Fi vp x) 45 rfl (by kernel_rfl) (Ext.rfl' _) pushJ_ext ⟨?_, ?_, ?_, ?_, ?_, ?_, ?_, ?_, ?_, ?_, ?_, trivial⟩ ?_
      · exact fun a w vals hJ hR => add_step rfl (Ex.adds' (ex_move rfl (hR.keep 0 rfl)) rfl rfl)
      · exact fun a w vals hJ hR => add_step rfl (Ex.adds' (ex_move rfl (hR.keep 0 rfl)) rfl rfl)
      · exact fun a w vals hJ hR => add_step rfl (Ex.adds' (ex_nil rfl (hR.pred 1 31 rfl rfl rfl rfl)) rfl rfl)
      · exact fun a w vals hJ hR => add_step rfl (Ex.adds' (ex_field rfl (hR.pred 2 32 rfl rfl rfl rfl) (faD1 _ _ _)) rfl rfl)
      · intro a w vals hJ hR
        obtain rfl : vals = [] := List.eq_nil_of_length_eq_zero (Nat.le_zero.1 (hR.hi 7 (by simp) rfl))
        exact add_step rfl (Ex.adds' (ex_load rfl (hR.pred 3 33 rfl rfl rfl rfl) (run_load1 naP (hc1 w hJ))) rfl rfl)
      · intro a w vals hJ hR
        obtain rfl : vals = [] := List.eq_nil_of_length_eq_zero (Nat.le_zero.1 (hR.hi 7 (by simp) rfl))
        refine add_step rfl (Ex.adds' (ex_load rfl (hR.keep 7 rfl) (run_load_mid (pre := []) (post := []) (mid := wrCells x) (by rw [hwl]; exact wideW) (by simpa using hnb.ext hJ) rfl)) rfl rfl)
      · intro a w vals hJ hR
        exact add_step rfl (Ex.adds (ex_row1 rfl (hR.pred 5 35 rfl rfl rfl rfl) (run_row1 elemW (wrCells x) hwl (by omega))) rfl ((Below.refl _ _).alloc (Nat.le_refl _) _) ⟨w.heap.size, rfl, _, blk_new _ _ _⟩)
      · refine fun a w vals hJ hR => mem_step rfl fun hvl => ?_
        obtain rfl : vals = [] := List.eq_nil_of_length_eq_zero hvl
        obtain ⟨v', w', hr, hJ'⟩ := pushAppend (ty := 85) hDp (by rw [hx]; exact hsecl) (by omega) hJ (hR.pred 6 36 rfl rfl rfl rfl)
        exact Ex.mem (ex_append rfl (hR.pred 4 34 rfl rfl rfl rfl) rfl hr) rfl hJ'
      · exact fun a w vals hJ hR => add_step rfl (Ex.adds' (ex_nil rfl (hR.old 0 30 rfl rfl rfl).choose_spec) rfl rfl)
      · exact fun a w vals hJ hR => add_step rfl (Ex.adds' (ex_field rfl (hR.pred 8 38 rfl rfl rfl rfl) (faD1 _ _ _)) rfl rfl)
      · refine fun a w vals hJ hR => mem_step rfl fun hvl => ?_
        obtain ⟨v', rfl⟩ : ∃ v', vals = [v'] := by
          match vals, hvl with
          | [v], _ => exact ⟨v, rfl⟩
        obtain ⟨w', hr, hJ'⟩ := pushStore hDp (by rw [hx]; exact ⟨hDid, hsecl⟩) hJ
        exact ExU.mem (ex_store rfl (hR.pred 9 39 rfl rfl rfl rfl) (hR.val 7 37 rfl rfl rfl) hr) rfl hJ'
      · intro vs w3 vals hlen hvl hJ hF
        obtain ⟨F3, hD3, ho3, hF3⟩ : ∃ F', DiskAt w3 p { Di with pend := Di.pend ++ [x] } F' ∧ Only Fi W2 w3 ∧ ∀ k ∈ F', k ∈ Fi ∨ W2.heap.size ≤ k := by
          match vals, hvl with
          | [v1, v2], _ => exact hJ
        clear hF hJ hc1
        obtain ⟨v0, vs0, rfl, hl0⟩ := len_succ (n := 10) hlen
        obtain ⟨v1, vs1, rfl, hl1⟩ := len_succ (n := 9) hl0
        obtain ⟨v2, vs2, rfl, hl2⟩ := len_succ (n := 8) hl1
        obtain ⟨v3, vs3, rfl, hl3⟩ := len_succ (n := 7) hl2
        obtain ⟨v4, vs4, rfl, hl4⟩ := len_succ (n := 6) hl3
        obtain ⟨v5, vs5, rfl, hl5⟩ := len_succ (n := 5) hl4
        obtain ⟨v6, vs6, rfl, hl6⟩ := len_succ (n := 4) hl5
        obtain ⟨v7, vs7, rfl, hl7⟩ := len_succ (n := 3) hl6
        obtain ⟨v8, vs8, rfl, hl8⟩ := len_succ (n := 2) hl7
        obtain ⟨v9, vs9, rfl, hl9⟩ := len_succ (n := 1) hl8
        obtain ⟨v10, vs10, rfl, hl10⟩ := len_succ (n := 0) hl9
        obtain rfl := List.eq_nil_of_length_eq_zero hl10
        clear hlen hl0 hl1 hl2 hl3 hl4 hl5 hl6 hl7 hl8 hl9 hl10
        simp only [putAll, Act.put, List.setIfInBounds_toArray, List.set_cons_succ, List.set_cons_zero]
        obtain ⟨a2, hcut, hok2, hby2⟩ := run_from (W := w3) cs.length hn'H.out hokiH.out hbyiH.out hcs4
        go_upto_region 9 with (fail)
        refine wp_region_lit ?_
        refine wpl_ex rfl (ex_move (v := .slice a' n' c') rfl rfl) ?_
        refine wpl_ex rfl (ex_move (v := .int .i64 (cs.length : Int)) rfl rfl) ?_
        refine wpl_ex rfl (ex_slice rfl rfl rfl rfl rfl hcut) ?_
        refine wpl_ex rfl (ex_assign (v := .slice a2 (n' - cs.length) (c' - cs.length)) rfl rfl) ?_
        refine wpList_nil ?_
        simp only [Act.put, List.setIfInBounds_toArray, List.set_cons_succ, List.set_cons_zero]
        go_wp2_with fail
        have hcs2 := hcs2H.out
        have hn' := hn'H.out
        have hmn : cs.length = min n' 64 := hcs2
        have hlen : (l.drop (64 * (i + 1))).length = n' - cs.length := by rw [List.length_drop] at hn' ⊢; omega
        have hdrop : (l.drop (64 * i)).drop cs.length = l.drop (64 * (i + 1)) := by
          rw [List.drop_drop]
          by_cases h64 : 64 ≤ n'
          · rw [show cs.length = 64 by omega, Nat.mul_succ]
          · rw [List.drop_eq_nil_of_le (by rw [List.length_drop] at hn'; omega), List.drop_eq_nil_of_le (by rw [List.length_drop] at hn'; omega)]
        have hFi := hFiH.out
        have hsec := hsecH.out
        refine ⟨⟨i + 1, a2, n' - cs.length, c' - cs.length, F3, by omega, by simp; omega, rfl, hlen, hok2, by rw [← hdrop]; exact hby2, ?_, ?_, ?_⟩, ?_⟩
        · have e : ({ Di with pend := Di.pend ++ [x] } : Disk) = { D.tick with pend := D.pend ++ Disk.writesOf at_ l (i + 1) } := by
            rw [hDie, hx, hsec]
            simp [Disk.writesOf, List.range_succ]
          rw [← e]; exact hD3
        · exact hoW2.trans ho3 (fun j hj hjf => by rcases hFi j hjf with h | h; exact h; omega)
        · intro k hk
          have := hoiH.out.size
          rcases hF3 k hk with h | h
          · exact hFi k h
          · exact .inr (by omega)
        · simp only [intOf]
          omega
    · obtain rfl : i = Disk.nsec l := by omega
      have hn0 : n' = 0 := by rw [← hn']; simp [Disk.nsec]; omega
      subst hn0
      have hDi := Lib.hid hDi
      have hoi := Lib.hid hoi
      have hFi := Lib.hid hFi
      clear hn' hok' hby'
      go_wp2_with fail
      go_ret
      exact ⟨rfl, Fi, hDi.out, hoi.out, hFi.out⟩
end Go.Proofs.Ytkannfkjnohdlaa
