import Derived.Test.YtkannfkjnohdlaaCrc
namespace Go.Proofs.Ytkannfkjnohdlaa
open Go.RowKit Go.Pm

theorem elemU8 : Elem Try.prog 24 5 (.int .u8 0) 1 1 := ⟨Try.underlying24, info_parts (by kernel_rfl), rfl, by decide⟩

set_option maxHeartbeats 2000000 in
theorem crcSumsMain (w : World) (a : Option Addr) (cap : Nat) (ls : List (List UInt8)) (hok : SliceOk a ls.length cap) (hb : Rows8 w (· < w.heap.size) a ls) :
    Calls Try.prog 3 #[.slice a ls.length cap] w fun e w' => e = .returned (.bool true) ∧ Below w.heap.size w w' := by
  have hok' := hok
  obtain ⟨h1, h2, _⟩ := hok'
  have hokH := Lib.hid hok
  have hbH := Lib.hid hb
  clear hok hb
  unfold maxLen at h2
  by_cases hbig : 20 < ls.length
  · go_enter Try.func3, Try.ntmps3
    go_wp2_with fail
    refine (crcAwake _).mono ?_
    rintro e w1 ⟨rfl, hb1⟩
    go_wp2_with fail
    refine (crcAwake _).mono ?_
    rintro e w2 ⟨rfl, hb2⟩
    go_wp2_with fail
    go_ret
    exact ⟨rfl, hb1.trans (hb2.mono hb1.size)⟩
  · go_enter Try.func3, Try.ntmps3
    go_wp2_with fail
    refine (crcAwake _).mono ?_
    rintro e w1 ⟨rfl, hb1⟩
    go_wp2_with fail
    go_loopw [3, 4] (fun v i wr => ∃ (k : Nat), k ≤ ls.length ∧ i = .int .i64 k ∧ (ls.take k).flatten.length ≤ 300 * k ∧ wr.ownsRow w1.heap.size 5 1 v (ls.take k).flatten.length ((ls.take k).flatten.map B8) ∧ Below w1.heap.size w1 wr) (fun _ i _ => ls.length - (intOf i).toNat)
    case atStart => exact ⟨0, by omega, rfl, by simp, World.ownsRow_nil _ _ _ _, Below.refl _ _⟩
    case round =>
      obtain ⟨k, hk, rfl, h300, hown, hbr⟩ := hrel
      have hbw : Below w.heap.size w wr := hb1.trans (hbr.mono hb1.size)
      have hrows : Rows8 wr (· < w.heap.size) a ls := hbH.out.frame (fun b hb => hbw.block b hb)
      by_cases hlt : k < ls.length
      · obtain ⟨b, off, a', c', ha, _, hcell, hokk, hbk⟩ := hrows k hlt
        subst ha
        have hc1 := hokk.1
        have hc2 := hokk.2
        unfold maxLen at hc2
        have hflat := Lib.hid (flat_succ ls k hlt)
        clear hrows
        have hokk := Lib.hid hokk
        have hbk := Lib.hid hbk
        have hown := Lib.hid hown
        generalize ls[k] = l at *
        generalize (ls.take k).flatten = L at *
        by_cases hl : 300 < l.length
        · go_wp2_with fail
          go_ret
          exact ⟨rfl, hbw⟩
        · go_wp2_with (at_builtin; refine wpList_append_src _ rfl _ _ 24 rfl elemU8 w1.heap.size rfl hown.out rfl hokk.out (news := l.map B8) (by simp) hbk.out.src (oneCell_bytes _) (by unfold maxLen; omega) (by omega) hbr.size ?_)
          intro v' w' hown' hgrow
          have hbr' : Below w1.heap.size w1 w' := hbr.grown hgrow hbr.size (fun g hg => (hown.out.lt g hg).1)
          rw [← List.map_append, ← List.length_append, ← hflat.out] at hown'
          have h300' : (ls.take (k + 1)).flatten.length ≤ 300 * (k + 1) := by rw [hflat.out, List.length_append]; omega
          have hown' := Lib.hid hown'
          clear hgrow h300
          go_wp2_with fail
          go_roundw
          case rel => exact ⟨k + 1, by omega, by go_num, h300', hown'.out, hbr'⟩
          case measure => simp [intOf]; omega
      · rw [List.take_of_length_le (by omega)] at hown h300
        obtain ⟨a', c', rfl, hok2, hby⟩ := owns_bytes hown
        have hrows := Lib.hid hrows
        have hok2 := Lib.hid hok2
        have hby := Lib.hid hby
        generalize hL : ls.flatten = l at *
        have HL := Lib.hid hL
        clear hL
        go_wp2_with fail
        refine (crcSum _ _ _ _ _ ls rfl (Nat.le_trans hokH.out.le hokH.out.max) hrows.out).mono ?_
        rintro e w' ⟨rfl, rfl⟩
        rw [HL.out]
        go_wp2_with fail
        refine (refSum _ _ _ _ _ l rfl (Nat.le_trans hok2.out.le hok2.out.max) hby.out).mono ?_
        rintro e w' ⟨rfl, rfl⟩
        go_wp2_with fail
        refine (crcSum1 _ _ _ _ _ l (by simp [go_sem]) _ (hby.out.frame (w' := _) (fun b hb => heap_old _ _ b hb.2.1)) rfl hok2.out).mono ?_
        rintro e w' ⟨rfl, rfl⟩
        go_wp2_with fail
        refine (refSum _ _ _ _ _ l rfl (Nat.le_trans hok2.out.le hok2.out.max) (hby.out.frame (w' := _) (fun b hb => heap_old _ _ b hb.2.1))).mono ?_
        rintro e w' ⟨rfl, rfl⟩
        go_wp2_with fail
        go_ret
        exact ⟨rfl, hbw.alloc (Nat.le_trans hb1.size hbr.size) _⟩
end Go.Proofs.Ytkannfkjnohdlaa
