/- The disk's methods, over resources. -/
import Derived.Test.YtkannfkjnohdlaaDiskRead
namespace Go.Proofs.Ytkannfkjnohdlaa
open Go.RowKit Go.Pm

theorem diskNewSl (B : Base) (H : List Res) (w : World) (n : Nat) (h1 : 1 ≤ n) (h2 : n ≤ 65536) (hv : Inv B H w) :
    Calls Try.prog 21 #[.int .i64 (n : Int)] w fun e w' => ∃ p F, e = .returned (.tuple #[.pointer (some ⟨p, 0, none⟩), .int .i64 0]) ∧ Inv B (diskR p (Disk.zero n) F :: H) w' := by
  refine (diskNew w n h1 h2).mono ?_
  rintro e w' ⟨p, F, h1, h2, h3, h4⟩
  refine ⟨p, F, h1, hv.new h3 (diskR p (Disk.zero n) F) h2 (fun b hb => ⟨h4 b hb, h2.lt b hb⟩) ?_⟩
  obtain ⟨_, gd, vp, rfl, hn, _⟩ := h2
  exact hn
theorem diskWriteSl (B : Base) (H : List Res) (w : World) (p : Nat) (D : Disk) (F : List Nat) (at_ : Nat) (a : Option Addr) (n cap : Nat) (l : List UInt8) (hv : Inv B (diskR p D F :: H) w) (hn : l.length = n) (hok : SliceOk a n cap) (hr : RdV B H a (l.map B8))
    (hh : D.has at_ (Disk.nsec l) = true) (hl : D.left ≠ 0) (hpl : D.pend.length ≤ 1000000000) :
    Calls Try.prog 22 #[.pointer (some ⟨p, 0, none⟩), .int .i64 (at_ : Int), .slice a n cap] w fun e w' => ∃ F', e = .returned (.int .i64 0) ∧ Inv B (diskR p (D.write at_ l) F' :: H) w' := by
  refine (diskWriteOk w p D F at_ a n cap l _ hv.head hn hok (hr.bytes hv) (fun k hk => hk) hh hl hpl).mono ?_
  rintro e w' ⟨h1, h2⟩
  obtain ⟨F', h3⟩ := Inv.diskTo hv h2
  exact ⟨F', h1, h3⟩
theorem diskWriteBadSl (B : Base) (H : List Res) (w : World) (p : Nat) (D : Disk) (F : List Nat) (at_ : Int) (a : Option Addr) (n cap : Nat) (l : List UInt8) (hv : Inv B (diskR p D F :: H) w) (ha : -9223372036854775808 ≤ at_ ∧ at_ ≤ 9223372036854775807) (hn : l.length = n) (hm : n ≤ 1000000000) (hh : D.has at_ (Disk.nsec l) = false) :
    Calls Try.prog 22 #[.pointer (some ⟨p, 0, none⟩), .int .i64 at_, .slice a n cap] w fun e w' => e = .returned (.int .i64 2) ∧ Inv B (diskR p D F :: H) w' :=
  (diskWriteBad w p D F at_ a n cap l hv.head ha hn hm hh).mono fun e w' ⟨h1, h2⟩ => ⟨h1, h2 ▸ hv⟩
theorem diskWriteOffSl (B : Base) (H : List Res) (w : World) (p : Nat) (D : Disk) (F : List Nat) (at_ : Int) (a : Option Addr) (n cap : Nat) (l : List UInt8) (hv : Inv B (diskR p D F :: H) w) (ha : -9223372036854775808 ≤ at_ ∧ at_ ≤ 9223372036854775807) (hn : l.length = n) (hm : n ≤ 1000000000) (hh : D.has at_ (Disk.nsec l) = true) (hl : D.left = 0) :
    Calls Try.prog 22 #[.pointer (some ⟨p, 0, none⟩), .int .i64 at_, .slice a n cap] w fun e w' => ∃ F', e = .returned (.int .i64 20) ∧ Inv B (diskR p D F' :: H) w' := by
  refine (diskWriteOff w p D F at_ a n cap l hv.head ha hn hm hh hl).mono ?_
  rintro e w' ⟨h1, h2, h3⟩
  obtain ⟨F', h4⟩ := Inv.diskTo hv ⟨F, h2, h3, fun k hk => .inl hk⟩
  exact ⟨F', h1, h4⟩
theorem diskSyncSl (B : Base) (H : List Res) (w : World) (p : Nat) (D : Disk) (F : List Nat) (hv : Inv B (diskR p D F :: H) w) (hl : D.left ≠ 0) (hpl : D.pend.length ≤ 2000000000) :
    Calls Try.prog 24 #[.pointer (some ⟨p, 0, none⟩)] w fun e w' => ∃ F', e = .returned (.int .i64 0) ∧ Inv B (diskR p D.sync F' :: H) w' := by
  refine (diskSyncOk w p D F hv.head hl hpl).mono ?_
  rintro e w' ⟨h1, h2⟩
  obtain ⟨F', h3⟩ := Inv.diskTo hv h2
  exact ⟨F', h1, h3⟩
theorem diskSyncOffSl (B : Base) (H : List Res) (w : World) (p : Nat) (D : Disk) (F : List Nat) (hv : Inv B (diskR p D F :: H) w) (hl : D.left = 0) :
    Calls Try.prog 24 #[.pointer (some ⟨p, 0, none⟩)] w fun e w' => ∃ F', e = .returned (.int .i64 20) ∧ Inv B (diskR p D F' :: H) w' := by
  refine (diskSyncOff w p D F hv.head hl).mono ?_
  rintro e w' ⟨h1, h2⟩
  obtain ⟨F', h3⟩ := Inv.diskTo hv h2
  exact ⟨F', h1, h3⟩
def intV (n : Int) : Value := .int .i64 n
theorem diskCrashSl (B : Base) (H : List Res) (w : World) (p : Nat) (D : Disk) (F : List Nat) (ka : Option Addr) (n kc : Nat) (ks : List Int) (hv : Inv B (diskR p D F :: H) w) (hpl : D.pend.length ≤ 1000000000) (hn : ks.length = n) (hm : n ≤ 1000000000) (hr : RdV B H ka (ks.map intV)) (hw : ∀ k ∈ ks, -9223372036854775808 ≤ k ∧ k ≤ 9223372036854775807) :
    Calls Try.prog 25 #[.pointer (some ⟨p, 0, none⟩), .slice ka n kc] w fun e w' => ∃ F', e = .returned (.int .i64 ((D.kept ks).length : Int)) ∧ Inv B (diskR p (D.crash ks) F' :: H) w' := by
  refine (diskCrash B H w p D F ka n kc ks hv hpl hn hm (fun w hv i hi => ?_) hw).mono ?_
  · obtain ⟨b, off, h1, h2⟩ := hr.cellAt hv i (by simpa using hi)
    exact ⟨b, off, h1, by simpa [intV] using h2⟩
  · rintro e w' ⟨h1, F', h2⟩
    exact ⟨F', h1, h2⟩
theorem rd_rep {B : Base} {H : List Res} {b m : Nat} {c : UInt8} {t : TypeId} (h : Res.cell b (List.replicate m (B8 c)) t ∈ H) : RdV B H (some ⟨b, 0, none⟩) ((List.replicate m c).map B8) :=
  rdV_cell 0 h (fun i hi => by simp at hi; simp [hi])
theorem rd_repAt {B : Base} {H : List Res} {b m : Nat} {c : UInt8} {t : TypeId} (k : Nat) (h : H[k]? = some (Res.cell b (List.replicate m (B8 c)) t)) : RdV B H (some ⟨b, 0, none⟩) ((List.replicate m c).map B8) := rd_rep (List.mem_of_getElem? h)
theorem ok_full {b n : Nat} (h : n ≤ 1000000000000) : SliceOk (some ⟨b, 0, none⟩) n n := ⟨Nat.le_refl _, by unfold maxLen; omega, fun h => by cases h⟩
end Go.Proofs.Ytkannfkjnohdlaa
