/- The disk as a resource. -/
import Derived.Test.YtkannfkjnohdlaaStageSl
import Derived.Test.YtkannfkjnohdlaaDiskS
namespace Go.Proofs.Ytkannfkjnohdlaa
open Go.RowKit Go.Pm

@[reducible] def diskR (p : Nat) (D : Disk) (F : List Nat) : Res := ⟨F, fun w => DiskAt w p D F, fun _ _ h hd => hd.same h⟩
theorem Inv.diskTo {B : Base} {p : Nat} {D D' : Disk} {F : List Nat} {H : List Res} {w w' : World} (hv : Inv B (diskR p D F :: H) w) (h : DiskTo F w w' p D') : ∃ F', Inv B (diskR p D' F' :: H) w' := by
  obtain ⟨F', h1, h2, h3⟩ := h
  refine ⟨F', Pm.Inv.upd hv (diskR p D' F') h2 h1 h3 h1.lt ?_⟩
  obtain ⟨_, gd, vp, rfl, hn, _⟩ := h1
  exact hn
theorem Inv.diskTo' {B : Base} {p : Nat} {D D' : Disk} {F : List Nat} {H : List Res} {w w' : World} (hv : Inv B (diskR p D F :: H) w) (h : ∃ F', DiskAt w' p D' F' ∧ Only F w w' ∧ ∀ k ∈ F', k ∈ F ∨ w.heap.size ≤ k) : ∃ F', Inv B (diskR p D' F' :: H) w' := Inv.diskTo hv h
/-- its three parts -/
theorem Inv.diskOpen {B : Base} {p : Nat} {D : Disk} {F : List Nat} {H : List Res} {w : World} (hv : Inv B (diskR p D F :: H) w) :
    ∃ gd vad vc, D.Ok ∧ Inv B (Res.cell p [.slice (some ⟨gd, 0, none⟩) D.dur.length D.dur.length, .slice vad D.pend.length vc, .int .i64 D.left] 87 :: Res.cell gd (durCells D.dur) 90 :: Res.row 92 65 (.slice vad D.pend.length vc) D.pend.length (pendCells D.pend) :: H) w := by
  obtain ⟨hok, gd, vp, rfl, hn, h1, h2, h3⟩ := (show DiskAt w p D F from hv.head)
  obtain ⟨vad, vc, rfl⟩ := pendSlice h3
  have a1 := hv.split (Res.cell p [.slice (some ⟨gd, 0, none⟩) D.dur.length D.dur.length, .slice vad D.pend.length vc, .int .i64 D.left] 87) ⟨gd :: (Value.ownBlock (.slice vad D.pend.length vc)).toList, fun w => Blk w gd (durCells D.dur) 90 ∧ w.ownsRow 0 92 65 (.slice vad D.pend.length vc) D.pend.length (pendCells D.pend), fun w w' h hh => ⟨(h gd (by simp)).trans hh.1, (Res.row 92 65 (.slice vad D.pend.length vc) D.pend.length (pendCells D.pend)).stab w w' (fun b hb => h b (by simp [hb])) hh.2⟩⟩ h1 ⟨h2, h3⟩ rfl
  have a2 := a1.front 1 rfl
  have a3 := Pm.Inv.split a2 (Res.cell gd (durCells D.dur) 90) (Res.row 92 65 (.slice vad D.pend.length vc) D.pend.length (pendCells D.pend)) h2 h3 rfl
  exact ⟨gd, vad, vc, hok, a3.front 2 rfl⟩
theorem Inv.diskClose {B : Base} {p gd : Nat} {D : Disk} {v : Value} {H : List Res} {w : World} (hok : D.Ok) (hv : Inv B (Res.cell p [.slice (some ⟨gd, 0, none⟩) D.dur.length D.dur.length, v, .int .i64 D.left] 87 :: Res.cell gd (durCells D.dur) 90 :: Res.row 92 65 v D.pend.length (pendCells D.pend) :: H) w) :
    ∃ F, Inv B (diskR p D F :: H) w := by
  have h1 : Blk w p [.slice (some ⟨gd, 0, none⟩) D.dur.length D.dur.length, v, .int .i64 D.left] 87 := hv.head
  have h2 : Blk w gd (durCells D.dur) 90 := hv.get 1 rfl
  have h3 : w.ownsRow 0 92 65 v D.pend.length (pendCells D.pend) := hv.get 2 rfl
  have hn : (p :: gd :: v.ownBlock.toList).Nodup := (hv.dis.sublist (by simp [List.flatMap_cons]))
  have a1 := hv.join ⟨[p, gd], fun w => Blk w p [.slice (some ⟨gd, 0, none⟩) D.dur.length D.dur.length, v, .int .i64 D.left] 87 ∧ Blk w gd (durCells D.dur) 90, fun w w' h hh => ⟨(h p (by simp)).trans hh.1, (h gd (by simp)).trans hh.2⟩⟩ ⟨h1, h2⟩ (List.Sublist.refl _)
  exact ⟨p :: gd :: v.ownBlock.toList, Pm.Inv.join a1 (diskR p D (p :: gd :: v.ownBlock.toList)) ⟨hok, gd, v, rfl, hn, h1, h2, h3⟩ (List.Sublist.refl _)⟩
theorem Inv.diskParts {B : Base} {p gd : Nat} {D : Disk} {v : Value} {H : List Res} {w : World} (hok : D.Ok) (hv : Inv B (Res.cell p [.slice (some ⟨gd, 0, none⟩) D.dur.length D.dur.length, v, .int .i64 D.left] 87 :: Res.cell gd (durCells D.dur) 90 :: Res.row 92 65 v D.pend.length (pendCells D.pend) :: H) w) :
    DiskParts w p D (p :: gd :: v.ownBlock.toList) gd v :=
  ⟨hok, rfl, hv.dis.sublist (by simp [List.flatMap_cons]), hv.head, hv.get 1 rfl, hv.get 2 rfl⟩
theorem _root_.Go.Pm.Inv.tail {B : Base} {H : List Res} {w : World} (hv : Inv B H w) (k : Nat) : Inv B (H.drop k) w := hv.sub (List.drop_sublist _ _)
/-- a row laid by for a while -/
theorem _root_.Go.Pm.Inv.layBy {B : Base} {e : TypeId} {size n : Nat} {v : Value} {xs : List Value} {H : List Res} {w : World} (hv : Inv B (Res.row e size v n xs :: H) w) :
    ∃ C : Base, B.Le C ∧ Inv C H w ∧ (∀ g, v.ownBlock = some g → ∃ o, C.I g = some o) ∧ ∀ K w', Inv C K w' → Inv B (Res.row e size v n xs :: K) w' := by
  have hr : w.ownsRow 0 e size v n xs := hv.head
  have hr' := hr
  rcases hr.2 with ⟨rfl, rfl⟩ | ⟨g, cap, cur, rfl, hb, hg, h5⟩
  · refine ⟨B, Base.Le.refl B, hv.drop, fun g hg => by simp [Value.ownBlock] at hg, fun K w' hK => ?_⟩
    exact hK.new (Ext.rfl' _) (Res.row e size (.slice none 0 0) 0 xs) ⟨hr'.1, .inl ⟨rfl, rfl⟩⟩ (fun b hb => by simp [Value.ownBlock] at hb) (by simp [Value.ownBlock])
  · have hout : B.I g = none := hv.out _ (List.mem_cons_self) g (by simp [Value.ownBlock])
    have hc : Inv B (Res.cell g cur.toList e :: H) w := hv.as (Res.cell g cur.toList e) (by simpa using hg) (by simp [Value.ownBlock])
    have hf := hc.freeze
    simp only [Array.toArray_toList] at hf
    refine ⟨_, Base.add_le hout, hf, fun g' hg' => ⟨_, by simp [Value.ownBlock] at hg'; subst hg'; exact Base.add_self⟩, fun K w' hK => ?_⟩
    have hblk := hK.base.blk g _ Base.add_self
    have hw := hK.weak (Base.add_le hout)
    refine Inv.join2 hw (K := [Res.row e size (.slice (some ⟨g, 0, none⟩) n cap) n xs]) (fun r hr => ?_) (fun r hr b hb => ?_) ?_ (fun r hr b hb => ?_) (fun b hb hm => ?_)
    · simp at hr; subst hr; exact ⟨hr'.1, .inr ⟨g, cap, cur, rfl, by omega, hblk, h5⟩⟩
    · simp at hr; subst hr; simp [Value.ownBlock] at hb; subst hb; exact (Array.getElem?_eq_some_iff.1 hblk).1
    · simp [Value.ownBlock]
    · simp at hr; subst hr; simp [Value.ownBlock] at hb; subst hb; exact hout
    · simp [Value.ownBlock] at hb
      subst hb
      obtain ⟨r, hr, hb⟩ := List.mem_flatMap.1 hm
      have := hK.out r hr b hb
      rw [Base.add_self] at this
      cases this
/-- all but the first ones laid by for a while -/
theorem _root_.Go.Pm.Inv.layRest {B : Base} {K H : List Res} {w : World} (hv : Inv B (K ++ H) w) :
    ∃ C : Base, B.Le C ∧ Inv C K w ∧ (∀ b, b ∈ H.flatMap (·.fp) → ∃ o, C.I b = some o) ∧ ∀ K' w', Inv C K' w' → Inv B (K' ++ H) w' := by
  have hK : Inv B K w := hv.sub (List.sublist_append_left _ _)
  have hd := hv.dis
  rw [List.flatMap_append, List.nodup_append] at hd
  have hin : ∀ b, b ∈ H.flatMap (·.fp) → (B.snap K w).I b = w.heap[b]? := fun b hb => by
    show (if b ∈ K.flatMap (·.fp) then none else w.heap[b]?) = _
    rw [if_neg (fun hm => hd.2.2 b hm b hb rfl)]
  have hsome : ∀ b, b ∈ H.flatMap (·.fp) → ∃ o, w.heap[b]? = some o := fun b hb => by
    obtain ⟨r, hr, hb⟩ := List.mem_flatMap.1 hb
    exact ⟨_, Array.getElem?_eq_getElem (hv.right.lt r hr b hb)⟩
  refine ⟨B.snap K w, hK.snapLe, hK.snap, fun b hb => ?_, fun K' w' hi => ?_⟩
  · obtain ⟨o, ho⟩ := hsome b hb
    exact ⟨o, (hin b hb).trans ho⟩
  · have hi' := hi.weak hK.snapLe
    have hsame : ∀ b, b ∈ H.flatMap (·.fp) → w'.heap[b]? = w.heap[b]? := fun b hb => by
      obtain ⟨o, ho⟩ := hsome b hb
      rw [ho]
      exact hi.base.blk b o ((hin b hb).trans ho)
    refine Pm.Inv.perm (Pm.Inv.join2 hi' (K := H) (fun r hr => r.stab w w' (fun b hb => hsame b (List.mem_flatMap.2 ⟨r, hr, hb⟩)) (hv.right.own r hr)) (fun r hr b hb => ?_) hv.right.dis hv.right.out (fun b hb hm => ?_)) List.perm_append_comm
    · have := hsame b (List.mem_flatMap.2 ⟨r, hr, hb⟩)
      obtain ⟨o, ho⟩ := hsome b (List.mem_flatMap.2 ⟨r, hr, hb⟩)
      rw [ho] at this
      exact (Array.getElem?_eq_some_iff.1 this).1
    · obtain ⟨r, hr, hb'⟩ := List.mem_flatMap.1 hm
      have := hi.out r hr b hb'
      rw [hin b hb] at this
      obtain ⟨o, ho⟩ := hsome b hb
      rw [ho] at this
      cases this
/-- a range over a disk's pending writes -/
theorem sl_writes {n : Nat} {g : Operand} {ps : Array Tmp} {assign body : Code} {Q : Exit → Act → World → Prop} {a : Act} {w : World} (h1 : 1 ≤ n) {bw p gd : Nat} {D : Disk} {vp : Value} {F : List Nat} (hg : a.eval g = .func (.func 57) #[] #[.pointer (some ⟨bw, 0, none⟩)])
    (hP : DiskParts w p D F gd vp) (hcB : w.cell? ⟨bw, 0, none⟩ = some (.pointer (some ⟨p, 0, none⟩))) (hpl : D.pend.length ≤ 2000000000) (hps : 2 = ps.size)
    {B : Base} {K H : List Res} (hv : Inv B (K ++ H) w) (hrow : ∀ g, vp.ownBlock = some g → g ∈ H.flatMap (·.fp)) (Hs : List (PendEl D) → List Res) (hs0 : Hs [] = K) (fr : PendEl D → Nat → Act)
    (hcel : ∀ pre r, r ∈ Hs pre → r.Celled) (hfp : ∀ pre r, r ∈ Hs pre → ∀ b ∈ r.fp, b < w.heap.size)
    (hassign : ∀ (l : Nat) (pre : List (PendEl D)) (x : PendEl D) (w : World) (B' : Base), B.Le B' → Inv B' (Hs pre) w → assign.wpIn (Fence.wide.inRound l) (n - 1 - 1) Try.prog (fun e a' W' => e = .normal ∧ ∃ b, a' = fr x b ∧ Inv B' (Res.cell b (wrCells x.1.2) 92 :: Hs pre) W') { tmps := (ps.zip (pendEnc x)).foldl (fun t (p, v) => t.setIfInBounds p v) a.tmps, defers := [] } w)
    (hbody : ∀ (l : Nat) (pre : List (PendEl D)) (x : PendEl D) (b : Nat) (w : World) (B' : Base), B.Le B' → Inv B' (Res.cell b (wrCells x.1.2) 92 :: Hs pre) w → pre.length < D.pend.length → body.wpIn (Fence.wide.inRound l) (n - 1 - 1) Try.prog (fun e _ W' => e = .normal ∧ Inv B' (Hs (pre ++ [x])) W') (fr x b) w)
    (hdone : ∀ (d : Nat) (xs : List (PendEl D)) (w : World), xs.map (·.1) = numbered D → Inv B (Res.defd d :: (Hs xs ++ H)) w → Q .normal { a with defers := { target := .collected d, args := #[] } :: a.defers } w) :
    (Code.rangeFunc g ps assign body).wpIn Fence.wide n Try.prog Q a w := by
  subst hs0
  obtain ⟨C, hBC, hvC, hin, hback⟩ := hv.layRest
  have hlt : bw < w.heap.size := World.block_lt_of_cell? w _ hcB
  have hpin : ∀ g, vp.ownBlock = some g → ∃ o, C.I g = some o := fun g hg => hin g (hrow g hg)
  refine sl_range h1 hg (enters_of Try.func57 (by kernel_rfl) rfl) (diskIter w p D F gd vp hP bw _ hcB hlt hpl) (fun h k => pendKept.tr h k) (fun _ => hps)
    (B := C) Hs (fun x b => [Res.cell b (wrCells x.1.2) 92]) fr hcel (fun x b r hr => by simp at hr; subst hr; exact celled_cell _ _ _) (.inr hfp) (fun K' W W' hi hle hs => ⟨hle, fun g hg => ?_⟩) (fun W l o' hl => ⟨by simp, fun g hg => World.putObj_heap_other (fun e => ?_)⟩) hvC
    (fun l pre x W B' hB hi => hassign l pre x W B' (hBC.trans hB) hi) (fun l pre x b W B' hB hi hN => hbody l pre x b W B' (hBC.trans hB) hi hN) (fun d xs W hS hi => hdone d xs W hS (hback _ _ hi))
  · obtain ⟨o, ho⟩ := hpin g hg
    refine hs g (hi.base.lt ho) (fun hm => ?_)
    obtain ⟨r, hr, hb⟩ := List.mem_flatMap.1 hm
    rw [hi.out r hr g hb] at ho
    cases ho
  · obtain ⟨o, ho⟩ := hpin g hg
    have := hvC.base.lt ho
    omega
theorem diskWritesSl (B : Base) (H : List Res) (w : World) (ad : Option Addr) (hv : Inv B H w) :
    Calls Try.prog 46 #[.pointer ad] w fun e w' => ∃ b, e = .returned (.func (.func 57) #[] #[.pointer (some ⟨b, 0, none⟩)]) ∧ Inv B (Res.cell b [.pointer ad] 36 :: H) w' :=
  (diskWrites w ad).mono fun e w' ⟨h1, h2⟩ => ⟨_, h1, by rw [h2]; exact hv.alloc [.pointer ad] _⟩
theorem diskHasSl (w : World) (p : Nat) (D : Disk) (F : List Nat) (at_ n : Int) {b : Bool} (hb : D.has at_ n = b) (hD : DiskAt w p D F) (ha : -9223372036854775808 ≤ at_ ∧ at_ ≤ 9223372036854775807) :
    Calls Try.prog 44 #[.pointer (some ⟨p, 0, none⟩), .int .i64 at_, .int .i64 n] w fun e w' => e = .returned (.bool b) ∧ w = w' := by subst hb; exact diskHas w p D F at_ n hD ha
theorem diskCallSl (B : Base) (H : List Res) (w : World) (p : Nat) (D : Disk) (F : List Nat) (k : Nat) (hv : Inv B H w) (hk : H[k]? = some (diskR p D F)) {b : Bool} (hb : (D.left != 0) = b) :
    Calls Try.prog 45 #[.pointer (some ⟨p, 0, none⟩)] w fun e w' => e = .returned (.bool b) ∧ Inv B (H.set k (diskR p D.tick F)) w' := by
  subst hb
  have hD : DiskAt w p D F := hv.get k hk
  refine (diskCall w p D F hD).mono fun e w' ⟨h1, h2, h3⟩ => ⟨h1, hv.updAt k hk (diskR p D.tick F) h3 h2 (fun b hb => .inl hb) h2.lt ?_⟩
  obtain ⟨_, gd, vp, rfl, hn, _⟩ := hD
  exact hn
end Go.Proofs.Ytkannfkjnohdlaa
