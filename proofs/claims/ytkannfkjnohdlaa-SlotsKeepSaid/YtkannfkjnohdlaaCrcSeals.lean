/- CrcSeals' walk. -/
import Derived.Test.YtkannfkjnohdlaaCrcTurns
namespace Go.Proofs.Ytkannfkjnohdlaa
open Go.RowKit Go.Pm

theorem callSeal : Callable Try.prog 17 := ⟨_, Try.func17, by kernel_rfl, by kernel_rfl⟩
theorem mixed : Try.prog.follows .mixedOrders = true := by kernel_rfl
theorem strOf {w : World} {S : Nat → Prop} {a : Option Addr} {n c : Nat} {l : List UInt8} (hb : Bytes w S a l) (hn : l.length = n) : (convert 24 9 (.slice a n c)).run Try.prog w = .ok (.string ⟨l.toArray⟩) w :=
  run_str_of_bytes Try.underlying24 Try.underlying5 Try.underlying9 hb hn
theorem sizeU8 (w : World) : (sizeOf (Try.prog.elem 24)).run Try.prog w = .ok 1 w := by kernel_rfl
theorem elemIsU8 : Try.prog.underlying 24 = some (.slice (Try.prog.elem 24)) := by kernel_rfl

set_option maxHeartbeats 2000000 in
theorem crcSealsBig (w : World) (a b : Option Addr) (ca cb : Nat) (l m : List UInt8) (hok : SliceOk a l.length ca) (hok2 : SliceOk b m.length cb) (hbig : 2000 < l.length ∨ 2000 < m.length) :
    Calls Try.prog 6 #[.slice a l.length ca, .slice b m.length cb] w fun e w' => e = .returned (.bool true) ∧ Below w.heap.size w w' := by
  obtain ⟨h1, h2, _⟩ := hok
  obtain ⟨h3, h4, _⟩ := hok2
  unfold maxLen at h2 h4
  by_cases hl : 2000 < l.length
  all_goals
    have hx : 2000 < l.length ∨ (l.length ≤ 2000 ∧ 2000 < m.length) := by omega
    clear hbig
    go_enter Try.func6, Try.ntmps6
    go_wp2_with fail
    refine (crcAwake _).mono ?_
    rintro e w1 ⟨rfl, hb1⟩
    go_wp2_with fail
    try omega
    refine (crcAwake _).mono ?_
    rintro e w2 ⟨rfl, hb2⟩
    go_wp2_with fail
    go_ret
    exact ⟨rfl, hb1.trans (hb2.mono hb1.size)⟩

theorem run_sub64 (t : TypeId) (x y : Int) (w : World) (h : -9223372036854775808 ≤ x - y ∧ x - y ≤ 9223372036854775807) : (binOp .sub t (.int .i64 x) (.int .i64 y)).run Try.prog w = .ok (.int .i64 (x - y)) w := by
  have := IntWalk.i64_in (x - y) h
  simp [go_sem, this]
/-- a slice of the call's own, as what Region's facts ask -/
theorem owns_sp {w : World} {base : Nat} {e : TypeId} {v : Value} {l : List UInt8} (h : w.ownsRow base e 1 v l.length (l.map B8)) : (SP.bytes l).p w v := by
  obtain ⟨a, c, h1, h2, h3⟩ := owns_bytes h
  exact ⟨a, c, h1, h2, h3.mono (fun b hb => hb.2.1)⟩

/-- what Open answers, for every text -/
def OpenAny (w : World) (m : List UInt8) (e : Ending) (w' : World) : Prop := Ext w w' ∧ ∃ (y : List UInt8) (vy : Value) (ok : Bool), e = .returned (.tuple #[vy, .bool ok]) ∧ (SP.bytes y).p w' vy ∧
  ((ok = true ∧ 4 ≤ m.length ∧ y = m.take (m.length - 4) ∧ sealed y = m) ∨ (ok = false ∧ y = [] ∧ (m.length < 4 ∨ (4 ≤ m.length ∧ sealed (m.take (m.length - 4)) ≠ m))))
theorem crcOpenAny (w : World) (a : Option Addr) (n cap : Nat) (m : List UInt8) (hn : m.length = n) (hok : SliceOk a n cap) (hm : n ≤ 1000000000) (hb : Bytes w (· < w.heap.size) a m) :
    Calls Try.prog 18 #[.slice a n cap] w (OpenAny w m) := by
  by_cases h4 : n < 4
  · refine (crcOpenShort w a n cap h4).mono ?_
    rintro e w' ⟨rfl, rfl⟩
    exact ⟨Ext.rfl' _, [], _, false, rfl, ⟨none, 0, rfl, ⟨by simp, by simp, fun _ => rfl⟩, fun i hi => by simp at hi⟩, .inr ⟨rfl, rfl, .inl (by omega)⟩⟩
  · obtain ⟨p, q, b0, b1, b2, b3, h1, h2⟩ := cut4 m (m.length - 4) (by omega)
    have hq : q = [] := by
      have := congrArg List.length h1
      simp [h2] at this
      exact List.eq_nil_of_length_eq_zero (by omega)
    subst hq
    have hp : m.take (m.length - 4) = p := by rw [h1]; simp
    refine (crcOpen w a n cap m p b0 b1 b2 b3 (by simpa using h1) hn hok hm hb).mono ?_
    rintro e w' ⟨hE, hpost⟩
    refine ⟨hE, ?_⟩
    have hiff : Crc.sum p = Crc.word b0 b1 b2 b3 ↔ sealed p = m := by
      constructor
      · intro h
        rw [h1]
        unfold sealed le4
        rw [h]
        have hw := le4_word (Crc.word b0 b1 b2 b3) (Crc.word_lt b0 b1 b2 b3)
        obtain ⟨e0, e1, e2, e3⟩ := Crc.word_inj hw
        rw [e0, e1, e2, e3]
      · intro h
        rw [h1] at h
        unfold sealed le4 at h
        have h := List.append_cancel_left h
        simp only [List.cons.injEq, and_true] at h
        obtain ⟨e0, e1, e2, e3⟩ := h
        rw [← e0, ← e1, ← e2, ← e3]
        exact (le4_word _ (Crc.sum_lt p)).symm
    by_cases hs : Crc.sum p = Crc.word b0 b1 b2 b3
    · rw [if_pos hs] at hpost
      obtain ⟨v, rfl, hown⟩ := hpost
      exact ⟨p, v, true, rfl, owns_sp hown, .inl ⟨rfl, by omega, hp.symm, hiff.1 hs⟩⟩
    · rw [if_neg hs] at hpost
      exact ⟨[], _, false, hpost, ⟨none, 0, rfl, ⟨by simp, by simp, fun _ => rfl⟩, fun i hi => by simp at hi⟩, .inr ⟨rfl, rfl, .inr ⟨by omega, by rw [hp]; exact fun h => hs (hiff.2 h)⟩⟩⟩

set_option maxRecDepth 100000 in
set_option maxHeartbeats 1000000 in
theorem crcSealsMain (w : World) (a b : Option Addr) (ca cb : Nat) (l m : List UInt8) (hok : SliceOk a l.length ca) (hok2 : SliceOk b m.length cb) (hl : l.length ≤ 2000) (hm : m.length ≤ 2000)
    (hba : Bytes w (· < w.heap.size) a l) (hbb : Bytes w (· < w.heap.size) b m) :
    Calls Try.prog 6 #[.slice a l.length ca, .slice b m.length cb] w fun e w' => e = .returned (.bool true) ∧ Below w.heap.size w w' := by
  have hokH := Lib.hid hok
  have hokH2 := Lib.hid hok2
  have hbaH := Lib.hid hba
  have hbbH := Lib.hid hbb
  clear hok hok2 hba hbb
  go_enter Try.func6, Try.ntmps6
  go_wp2_with fail
  refine (crcAwake _).mono ?_
  rintro e w1 ⟨rfl, hb1⟩
  have hown0 := Lib.hid (World.ownsRow_lit (base := w1.heap.size) (e := 5) (size := 1) w1 #[] 0 (Nat.le_refl _) (by decide) (by decide))
  have hbA := Lib.hid ((hbaH.out.ext hb1).alloc (.cells #[] 5))
  go_wp2_with (at_builtin; refine wpList_append_src _ rfl _ _ 24 rfl elemU8 w1.heap.size rfl hown0.out rfl hokH.out (news := l.map B8) (by simp) hbA.out.src (oneCell_bytes _) (by unfold maxLen; omega) (by omega) (by simp) ?_)
  intro v w2 hown2 hgrow
  have hext2 : Ext w w2 := hb1.trans ((((Below.refl w1.heap.size _).alloc (Nat.le_refl _) _).grown hgrow (by simp) (fun k hk => by simp [Value.ownBlock] at hk; omega)).mono hb1.size)
  obtain ⟨a2, c2, rfl, hok3, hby2⟩ := owns_sp hown2
  have hok3 := Lib.hid hok3
  have hby2 := Lib.hid hby2
  clear hgrow hown2 hown0 hbA
  go_wp2_with fail
  refine (crcSeal _ _ _ _ l rfl hok3.out (by omega) hby2.out).mono ?_
  rintro e w3 ⟨v3, rfl, hown3, hext3⟩
  obtain ⟨a3, c3, rfl, hok4, hby3⟩ := owns_sp hown3
  have hsl := sealed_length l
  have hok4 := Lib.hid hok4
  have hby3 := Lib.hid hby3
  have hslH := Lib.hid hsl
  clear hown3 hsl
  go_wp2_with fail
  obtain ⟨s0, s1, s2, s3, hs4, hsw⟩ : ∃ s0 s1 s2 s3, sealed l = l ++ [s0, s1, s2, s3] ∧ Crc.sum l = Crc.word s0 s1 s2 s3 := ⟨_, _, _, _, rfl, (le4_word _ (Crc.sum_lt l)).symm⟩
  refine (crcOpen _ _ _ _ (sealed l) l s0 s1 s2 s3 hs4 rfl hok4.out (by rw [hslH.out]; omega) hby3.out).mono ?_
  rintro e w4 ⟨hext4, hpost⟩
  rw [if_pos hsw] at hpost
  obtain ⟨v4, rfl, hown4⟩ := hpost
  obtain ⟨a4, c4, rfl, hok5, hby4⟩ := owns_sp hown4
  have hok5 := Lib.hid hok5
  have hby4 := Lib.hid hby4
  have hE4 : Ext w w4 := (hext2.tr hext3).tr hext4
  clear hown4 hs4 hsw
  have hown0 := Lib.hid (World.ownsRow_lit (base := w4.heap.size) (e := 5) (size := 1) w4 #[] 0 (Nat.le_refl _) (by decide) (by decide))
  have hbA := Lib.hid ((hbbH.out.ext hE4).alloc (.cells #[] 5))
  go_wp2_with (at_builtin; refine wpList_append_src _ rfl _ _ 24 rfl elemU8 w4.heap.size rfl hown0.out rfl hokH2.out (news := m.map B8) (by simp) hbA.out.src (oneCell_bytes _) (by unfold maxLen; omega) (by omega) (by simp) ?_)
  intro v w5 hown5 hgrow
  have hext5 : Ext w4 w5 := (((Below.refl w4.heap.size _).alloc (Nat.le_refl _) _).grown hgrow (by simp) (fun k hk => by simp [Value.ownBlock] at hk; omega))
  obtain ⟨a5, c5, rfl, hok6, hby5⟩ := owns_sp hown5
  have hok6 := Lib.hid hok6
  have hby5 := Lib.hid hby5
  clear hgrow hown5 hown0 hbA
  go_wp2_with fail
  refine (crcOpenAny _ _ _ _ m rfl hok6.out (by omega) hby5.out).mono ?_
  rintro e w6 ⟨hext6, y, vy, ok, rfl, hspy, hcase⟩
  obtain ⟨ay, cy, rfl, hoky, hbyy⟩ := hspy
  have hE46 : Ext w4 w6 := hext5.tr hext6
  have hE6 : Ext w w6 := hE4.tr hE46
  have HS := Lib.hid (fun (W : World) (hW : Ext w6 W) => (hby3.out.ext ((hext4.tr hE46).tr hW)))
  have HX := Lib.hid (fun (W : World) (hW : Ext w6 W) => (hby4.out.ext (hE46.tr hW)))
  have HA := Lib.hid (fun (W : World) (hW : Ext w6 W) => (hbaH.out.ext (hE6.tr hW)))
  have HM := Lib.hid (fun (W : World) (hW : Ext w6 W) => (hbbH.out.ext (hE6.tr hW)))
  have HY := Lib.hid (fun (W : World) (hW : Ext w6 W) => (hbyy.ext hW))
  have hoky := Lib.hid hoky
  have hcase := Lib.hid hcase
  have hE6 := Lib.hid hE6
  clear hbyy hext6 hext5 hE46 hE4 hext4 hext3 hext2 hb1 hby2 hby3 hby4 hby5
  go_wp2_with fail
  refine wp_region_mono mixed [SP.eq (.slice a3 (sealed l).length c3), SP.eq (.string ⟨(sealed l).toArray⟩), SP.eq (.slice a l.length ca), SP.bytes (sealed l), SP.eq (.string ⟨(sealed l).toArray⟩), SP.eq (.bool false), SP.eq (.bool false),
      SP.eq (.bool true), SP.eq (.bool false), SP.eq (.bool false), SP.eq (.bool false), SP.eq (.slice a4 l.length c4), SP.eq (.string ⟨l.toArray⟩), SP.eq (.slice a l.length ca), SP.eq (.string ⟨l.toArray⟩), SP.eq (.bool false), SP.eq (.bool false)]
      90 rfl (by kernel_rfl) ⟨?_, ?_, ?_, ?_, ?_, ?_, ?_, ?_, ?_, ?_, ?_, ?_, ?_, ?_, ?_, ?_, ?_, trivial⟩ ?_
  · exact fun a w hE hR => stepOk_move rfl rfl (hR.keep 5 rfl) rfl
  · exact fun a w hE hR => stepOk_conv rfl rfl (hR.pred 0 39 rfl rfl) (strOf (HS.out _ hE) rfl) rfl
  · exact fun a w hE hR => stepOk_move rfl rfl (hR.keep 0 rfl) rfl
  · intro a w hE hR
    refine stepOk_call1 callSeal rfl rfl (hR.pred 2 41 rfl rfl) ((refSeal _ _ _ _ l rfl hokH.out (by omega) (HA.out _ hE)).mono ?_)
    rintro e w' ⟨v, rfl, hown, hE'⟩
    exact ⟨_, rfl, hE', owns_sp hown⟩
  · intro a w hE hR
    obtain ⟨p, c, h1, _, h3⟩ := hR.pred 3 42 rfl rfl
    exact stepOk_conv rfl rfl h1 (strOf h3 rfl) rfl
  · exact fun a w hE hR => stepOk_bin rfl rfl (hR.pred 1 40 rfl rfl) (hR.pred 4 43 rfl rfl) (by simp [go_sem]) (by simp [go_sem]) rfl
  · exact fun a w hE hR => stepOk_move rfl rfl (hR.pred 5 44 rfl rfl) rfl
  · exact fun a w hE hR => stepOk_move (wanted_of rfl rfl (hR.pred 6 45 rfl rfl)) rfl (hR.keep 7 rfl) rfl
  · exact fun a w hE hR => stepOk_un (wanted_of rfl rfl (hR.pred 6 45 rfl rfl)) rfl (hR.pred 7 46 rfl rfl) (by simp [go_sem]) rfl
  · exact fun a w hE hR => stepOk_pick rfl rfl (hR.pred 6 45 rfl rfl) (hR.pred 8 47 rfl rfl) rfl
  · exact fun a w hE hR => stepOk_move rfl rfl (hR.pred 9 48 rfl rfl) rfl
  · exact fun a w hE hR => stepOk_move (wanted_of rfl rfl (hR.pred 10 49 rfl rfl)) rfl (hR.keep 6 rfl) rfl
  · exact fun a w hE hR => stepOk_conv (wanted_of rfl rfl (hR.pred 10 49 rfl rfl)) rfl (hR.pred 11 50 rfl rfl) (strOf (HX.out _ hE) rfl) rfl
  · exact fun a w hE hR => stepOk_move (wanted_of rfl rfl (hR.pred 10 49 rfl rfl)) rfl (hR.keep 0 rfl) rfl
  · exact fun a w hE hR => stepOk_conv (wanted_of rfl rfl (hR.pred 10 49 rfl rfl)) rfl (hR.pred 13 52 rfl rfl) (strOf (HA.out _ hE) rfl) rfl
  · exact fun a w hE hR => stepOk_bin (wanted_of rfl rfl (hR.pred 10 49 rfl rfl)) rfl (hR.pred 12 51 rfl rfl) (hR.pred 14 53 rfl rfl) (by simp [go_sem]) (by simp [go_sem]) rfl
  · exact fun a w hE hR => stepOk_pick rfl rfl (hR.pred 10 49 rfl rfl) (hR.pred 15 54 rfl rfl) rfl
  · intro vs w7 hlen hE hF
    obtain ⟨v0, vs0, rfl, hl0⟩ := len_succ (n := 16) hlen
    obtain ⟨v1, vs1, rfl, hl1⟩ := len_succ (n := 15) hl0
    obtain ⟨v2, vs2, rfl, hl2⟩ := len_succ (n := 14) hl1
    obtain ⟨v3, vs3, rfl, hl3⟩ := len_succ (n := 13) hl2
    obtain ⟨v4, vs4, rfl, hl4⟩ := len_succ (n := 12) hl3
    obtain ⟨v5, vs5, rfl, hl5⟩ := len_succ (n := 11) hl4
    obtain ⟨v6, vs6, rfl, hl6⟩ := len_succ (n := 10) hl5
    obtain ⟨v7, vs7, rfl, hl7⟩ := len_succ (n := 9) hl6
    obtain ⟨v8, vs8, rfl, hl8⟩ := len_succ (n := 8) hl7
    obtain ⟨v9, vs9, rfl, hl9⟩ := len_succ (n := 7) hl8
    obtain ⟨v10, vs10, rfl, hl10⟩ := len_succ (n := 6) hl9
    obtain ⟨v11, vs11, rfl, hl11⟩ := len_succ (n := 5) hl10
    obtain ⟨v12, vs12, rfl, hl12⟩ := len_succ (n := 4) hl11
    obtain ⟨v13, vs13, rfl, hl13⟩ := len_succ (n := 3) hl12
    obtain ⟨v14, vs14, rfl, hl14⟩ := len_succ (n := 2) hl13
    obtain ⟨v15, vs15, rfl, hl15⟩ := len_succ (n := 1) hl14
    obtain ⟨v16, vs16, rfl, hl16⟩ := len_succ (n := 0) hl15
    obtain rfl := List.eq_nil_of_length_eq_zero hl16
    clear hlen hl0 hl1 hl2 hl3 hl4 hl5 hl6 hl7 hl8 hl9 hl10 hl11 hl12 hl13 hl14 hl15 hl16
    obtain ⟨-, -, -, -, -, -, -, -, -, -, -, -, -, -, -, -, f16, -⟩ := hF
    obtain rfl := f16 rfl
    have hE7 := hE
    have hE7H := Lib.hid hE7
    clear hE f16
    simp only [putAll, Act.put, List.setIfInBounds_toArray, List.set_cons_succ, List.set_cons_zero]
    by_cases hm4 : m.length < 4
    · go_wp2_with fail
      refine wp_region_mono mixed [SP.eq (.slice b m.length cb), SP.eq (.int .i64 m.length), SP.eq (.bool true), SP.eq (.bool true), SP.eq undef, SP.eq undef, SP.eq undef, SP.eq undef, SP.eq undef, SP.eq undef, SP.eq undef, SP.eq undef, SP.eq undef, SP.eq undef, SP.eq (.bool true)]
        90 rfl (by kernel_rfl) ⟨?_, ?_, ?_, ?_, ?_, ?_, ?_, ?_, ?_, ?_, ?_, ?_, ?_, ?_, ?_, trivial⟩ ?_
      · exact fun a w hE hR => stepOk_move rfl rfl (hR.keep 1 rfl) rfl
      · exact fun a w hE hR => stepOk_len elemIsU8 rfl rfl (hR.pred 0 56 rfl rfl) rfl
      · exact fun a w hE hR => stepOk_bin rfl rfl (hR.pred 1 57 rfl rfl) rfl (by simp [go_sem]) (by simp [go_sem]; omega) rfl
      · exact fun a w hE hR => stepOk_move rfl rfl (hR.pred 2 58 rfl rfl) rfl
      · exact fun a w hE hR => stepOk_skip (wanted_not rfl rfl (hR.pred 3 59 rfl rfl) (by decide)) rfl
      · exact fun a w hE hR => stepOk_skip (wanted_not rfl rfl (hR.pred 3 59 rfl rfl) (by decide)) rfl
      · exact fun a w hE hR => stepOk_skip (wanted_not rfl rfl (hR.pred 3 59 rfl rfl) (by decide)) rfl
      · exact fun a w hE hR => stepOk_skip (wanted_not rfl rfl (hR.pred 3 59 rfl rfl) (by decide)) rfl
      · exact fun a w hE hR => stepOk_skip (wanted_not rfl rfl (hR.pred 3 59 rfl rfl) (by decide)) rfl
      · exact fun a w hE hR => stepOk_skip (wanted_not rfl rfl (hR.pred 3 59 rfl rfl) (by decide)) rfl
      · exact fun a w hE hR => stepOk_skip (wanted_not rfl rfl (hR.pred 3 59 rfl rfl) (by decide)) rfl
      · exact fun a w hE hR => stepOk_skip (wanted_not rfl rfl (hR.pred 3 59 rfl rfl) (by decide)) rfl
      · exact fun a w hE hR => stepOk_skip (wanted_not rfl rfl (hR.pred 3 59 rfl rfl) (by decide)) rfl
      · exact fun a w hE hR => stepOk_skip (wanted_not rfl rfl (hR.pred 3 59 rfl rfl) (by decide)) rfl
      · exact fun a w hE hR => stepOk_pick rfl rfl (hR.pred 3 59 rfl rfl) rfl rfl
      · intro vs w8 hlen hE hF
        obtain ⟨xv0, xvs0, rfl, xhl0⟩ := len_succ (n := 14) hlen
        obtain ⟨xv1, xvs1, rfl, xhl1⟩ := len_succ (n := 13) xhl0
        obtain ⟨xv2, xvs2, rfl, xhl2⟩ := len_succ (n := 12) xhl1
        obtain ⟨xv3, xvs3, rfl, xhl3⟩ := len_succ (n := 11) xhl2
        obtain ⟨xv4, xvs4, rfl, xhl4⟩ := len_succ (n := 10) xhl3
        obtain ⟨xv5, xvs5, rfl, xhl5⟩ := len_succ (n := 9) xhl4
        obtain ⟨xv6, xvs6, rfl, xhl6⟩ := len_succ (n := 8) xhl5
        obtain ⟨xv7, xvs7, rfl, xhl7⟩ := len_succ (n := 7) xhl6
        obtain ⟨xv8, xvs8, rfl, xhl8⟩ := len_succ (n := 6) xhl7
        obtain ⟨xv9, xvs9, rfl, xhl9⟩ := len_succ (n := 5) xhl8
        obtain ⟨xv10, xvs10, rfl, xhl10⟩ := len_succ (n := 4) xhl9
        obtain ⟨xv11, xvs11, rfl, xhl11⟩ := len_succ (n := 3) xhl10
        obtain ⟨xv12, xvs12, rfl, xhl12⟩ := len_succ (n := 2) xhl11
        obtain ⟨xv13, xvs13, rfl, xhl13⟩ := len_succ (n := 1) xhl12
        obtain ⟨xv14, xvs14, rfl, xhl14⟩ := len_succ (n := 0) xhl13
        obtain rfl := List.eq_nil_of_length_eq_zero xhl14
        clear hlen xhl0 xhl1 xhl2 xhl3 xhl4 xhl5 xhl6 xhl7 xhl8 xhl9 xhl10 xhl11 xhl12 xhl13 xhl14
        obtain ⟨-, -, -, -, -, -, -, -, -, -, -, -, -, -, f14, -⟩ := hF
        obtain rfl := f14 rfl
        have hE8 := Lib.hid hE
        clear hE f14
        have hno : ok = false ∧ y = [] := by
          rcases hcase.out with ⟨_, h, _⟩ | ⟨h1, h2, _⟩
          · omega
          · exact ⟨h1, h2⟩
        obtain ⟨rfl, rfl⟩ := hno
        simp only [putAll, Act.put, List.setIfInBounds_toArray, List.set_cons_succ, List.set_cons_zero]
        go_wp2_with fail
        go_ret
        exact ⟨rfl, (hE6.out.tr hE7H.out).tr hE8.out⟩
    · have hm4' : 4 ≤ m.length := by omega
      have hcut : Hid (∀ W : World, Ext w6 W → Bytes W (· < W.heap.size) b (m.take (m.length - 4))) := fun W hW => (HM.out W hW).take _
      have hlt : (m.take (m.length - 4)).length = m.length - 4 := by simp
      have hltH := Lib.hid hlt
      clear hlt
      obtain ⟨p, hp⟩ : ∃ p, p = m.take (m.length - 4) := ⟨_, rfl⟩
      have hpH := Lib.hid hp
      rw [← hp] at hcut hltH
      clear hp
      go_wp2_with fail
      refine wp_region_mono mixed [SP.eq (.slice b m.length cb), SP.eq (.int .i64 m.length), SP.eq (.bool false), SP.eq (.bool false), SP.eq (.slice b m.length cb), SP.eq (.slice b m.length cb), SP.eq (.int .i64 m.length), SP.eq (.int .i64 ((m.length : Int) - 4)), SP.eq (.slice b (m.length - 4) cb),
        SP.bytes (sealed p), SP.eq (.string ⟨(sealed p).toArray⟩), SP.eq (.slice b m.length cb), SP.eq (.string ⟨m.toArray⟩), SP.eq (.bool (!(sealed p == m))), SP.eq (.bool (!(sealed p == m)))]
        90 rfl (by kernel_rfl) ⟨?_, ?_, ?_, ?_, ?_, ?_, ?_, ?_, ?_, ?_, ?_, ?_, ?_, ?_, ?_, trivial⟩ ?_
      · exact fun a w hE hR => stepOk_move rfl rfl (hR.keep 1 rfl) rfl
      · exact fun a w hE hR => stepOk_len elemIsU8 rfl rfl (hR.pred 0 56 rfl rfl) rfl
      · exact fun a w hE hR => stepOk_bin rfl rfl (hR.pred 1 57 rfl rfl) rfl (by simp [go_sem]) (by simp [go_sem]; omega) rfl
      · exact fun a w hE hR => stepOk_move rfl rfl (hR.pred 2 58 rfl rfl) rfl
      · exact fun a w hE hR => stepOk_move (wanted_of rfl rfl (hR.pred 3 59 rfl rfl)) rfl (hR.keep 1 rfl) rfl
      · exact fun a w hE hR => stepOk_move (wanted_of rfl rfl (hR.pred 3 59 rfl rfl)) rfl (hR.keep 1 rfl) rfl
      · exact fun a w hE hR => stepOk_len elemIsU8 (wanted_of rfl rfl (hR.pred 3 59 rfl rfl)) rfl (hR.pred 5 61 rfl rfl) rfl
      · exact fun a w hE hR => stepOk_bin (wanted_of rfl rfl (hR.pred 3 59 rfl rfl)) rfl (hR.pred 6 62 rfl rfl) rfl (by simp [go_sem]) (run_sub64 _ _ _ _ (by omega)) rfl
      · exact fun a w hE hR => stepOk_cut elemIsU8 sizeU8 (wanted_of rfl rfl (hR.pred 3 59 rfl rfl)) rfl (hR.pred 4 60 rfl rfl) (hR.pred 7 63 rfl rfl) (by omega) (by have := hokH2.out.le; omega) (by rw [show ((m.length : Int) - 4).toNat = m.length - 4 by omega]; rfl)
      · intro a w hE hR
        refine stepOk_call1 callSeal (wanted_of rfl rfl (hR.pred 3 59 rfl rfl)) rfl (hR.pred 8 64 rfl rfl) ((refSeal _ _ _ _ p hltH.out ⟨by have := hokH2.out.le; omega, hokH2.out.max, hokH2.out.nil⟩ (by omega) (hcut.out _ (hE7.tr hE))).mono ?_)
        rintro e w' ⟨v, rfl, hown, hE'⟩
        exact ⟨_, rfl, hE', owns_sp hown⟩
      · intro a w hE hR
        obtain ⟨q, c, h1, _, h3⟩ := hR.pred 9 65 rfl rfl
        exact stepOk_conv (wanted_of rfl rfl (hR.pred 3 59 rfl rfl)) rfl h1 (strOf h3 rfl) rfl
      · exact fun a w hE hR => stepOk_move (wanted_of rfl rfl (hR.pred 3 59 rfl rfl)) rfl (hR.keep 1 rfl) rfl
      · exact fun a w hE hR => stepOk_conv (wanted_of rfl rfl (hR.pred 3 59 rfl rfl)) rfl (hR.pred 11 67 rfl rfl) (strOf (HM.out _ (hE7.tr hE)) rfl) rfl
      · exact fun a w hE hR => stepOk_bin (wanted_of rfl rfl (hR.pred 3 59 rfl rfl)) rfl (hR.pred 10 66 rfl rfl) (hR.pred 12 68 rfl rfl) (by simp [go_sem]) (by simp [go_sem]) rfl
      · exact fun a w hE hR => stepOk_pick rfl rfl (hR.pred 3 59 rfl rfl) (hR.pred 13 69 rfl rfl) rfl
      · intro vs w8 hlen hE hF
        obtain ⟨xv0, xvs0, rfl, xhl0⟩ := len_succ (n := 14) hlen
        obtain ⟨xv1, xvs1, rfl, xhl1⟩ := len_succ (n := 13) xhl0
        obtain ⟨xv2, xvs2, rfl, xhl2⟩ := len_succ (n := 12) xhl1
        obtain ⟨xv3, xvs3, rfl, xhl3⟩ := len_succ (n := 11) xhl2
        obtain ⟨xv4, xvs4, rfl, xhl4⟩ := len_succ (n := 10) xhl3
        obtain ⟨xv5, xvs5, rfl, xhl5⟩ := len_succ (n := 9) xhl4
        obtain ⟨xv6, xvs6, rfl, xhl6⟩ := len_succ (n := 8) xhl5
        obtain ⟨xv7, xvs7, rfl, xhl7⟩ := len_succ (n := 7) xhl6
        obtain ⟨xv8, xvs8, rfl, xhl8⟩ := len_succ (n := 6) xhl7
        obtain ⟨xv9, xvs9, rfl, xhl9⟩ := len_succ (n := 5) xhl8
        obtain ⟨xv10, xvs10, rfl, xhl10⟩ := len_succ (n := 4) xhl9
        obtain ⟨xv11, xvs11, rfl, xhl11⟩ := len_succ (n := 3) xhl10
        obtain ⟨xv12, xvs12, rfl, xhl12⟩ := len_succ (n := 2) xhl11
        obtain ⟨xv13, xvs13, rfl, xhl13⟩ := len_succ (n := 1) xhl12
        obtain ⟨xv14, xvs14, rfl, xhl14⟩ := len_succ (n := 0) xhl13
        obtain rfl := List.eq_nil_of_length_eq_zero xhl14
        clear hlen xhl0 xhl1 xhl2 xhl3 xhl4 xhl5 xhl6 xhl7 xhl8 xhl9 xhl10 xhl11 xhl12 xhl13 xhl14
        obtain ⟨-, -, -, -, -, -, -, -, -, -, -, -, -, -, f14, -⟩ := hF
        obtain rfl := f14 rfl
        have hE8 := hE
        clear hE f14
        simp only [putAll, Act.put, List.setIfInBounds_toArray, List.set_cons_succ, List.set_cons_zero]
        by_cases hsp : sealed p = m
        · have hyes : ok = true ∧ y = p := by
            rcases hcase.out with ⟨h1, _, h2, _⟩ | ⟨_, _, h | ⟨_, h⟩⟩
            · exact ⟨h1, by rw [h2, hpH.out]⟩
            · omega
            · exact (h (by rw [← hpH.out]; exact hsp)).elim
          obtain ⟨rfl, rfl⟩ := hyes
          have hb : (!(sealed y == m)) = false := by simp [hsp]
          rw [hb]
          have hspH := Lib.hid hsp
          clear hsp hb
          go_wp2_with fail
          refine wp_region_mono mixed [SP.eq (.bool true), SP.eq (.bool true), SP.eq (.slice ay y.length cy), SP.eq (.string ⟨y.toArray⟩), SP.eq (.slice b m.length cb), SP.eq (.slice b m.length cb), SP.eq (.int .i64 m.length), SP.eq (.int .i64 ((m.length : Int) - 4)), SP.eq (.slice b (m.length - 4) cb),
            SP.eq (.string ⟨y.toArray⟩), SP.eq (.bool true), SP.eq (.bool true), SP.eq (.bool true)]
            90 rfl (by kernel_rfl) ⟨?_, ?_, ?_, ?_, ?_, ?_, ?_, ?_, ?_, ?_, ?_, ?_, ?_, trivial⟩ ?_
          · exact fun a w hE hR => stepOk_move rfl rfl (hR.keep 9 rfl) rfl
          · exact fun a w hE hR => stepOk_move rfl rfl (hR.pred 0 78 rfl rfl) rfl
          · exact fun a w hE hR => stepOk_move (wanted_of rfl rfl (hR.pred 1 79 rfl rfl)) rfl (hR.keep 8 rfl) rfl
          · exact fun a w hE hR => stepOk_conv (wanted_of rfl rfl (hR.pred 1 79 rfl rfl)) rfl (hR.pred 2 80 rfl rfl) (strOf (HY.out _ ((hE7.tr hE8).tr hE)) rfl) rfl
          · exact fun a w hE hR => stepOk_move (wanted_of rfl rfl (hR.pred 1 79 rfl rfl)) rfl (hR.keep 1 rfl) rfl
          · exact fun a w hE hR => stepOk_move (wanted_of rfl rfl (hR.pred 1 79 rfl rfl)) rfl (hR.keep 1 rfl) rfl
          · exact fun a w hE hR => stepOk_len elemIsU8 (wanted_of rfl rfl (hR.pred 1 79 rfl rfl)) rfl (hR.pred 5 83 rfl rfl) rfl
          · exact fun a w hE hR => stepOk_bin (wanted_of rfl rfl (hR.pred 1 79 rfl rfl)) rfl (hR.pred 6 84 rfl rfl) rfl (by simp [go_sem]) (run_sub64 _ _ _ _ (by omega)) rfl
          · exact fun a w hE hR => stepOk_cut elemIsU8 sizeU8 (wanted_of rfl rfl (hR.pred 1 79 rfl rfl)) rfl (hR.pred 4 82 rfl rfl) (hR.pred 7 85 rfl rfl) (by omega) (by have := hokH2.out.le; omega) (by rw [show ((m.length : Int) - 4).toNat = m.length - 4 by omega]; rfl)
          · exact fun a w hE hR => stepOk_conv (wanted_of rfl rfl (hR.pred 1 79 rfl rfl)) rfl (hR.pred 8 86 rfl rfl) (strOf (hcut.out _ ((hE7.tr hE8).tr hE)) hltH.out) rfl
          · exact fun a w hE hR => stepOk_bin (wanted_of rfl rfl (hR.pred 1 79 rfl rfl)) rfl (hR.pred 3 81 rfl rfl) (hR.pred 9 87 rfl rfl) (by simp [go_sem]) (by simp [go_sem]) rfl
          · exact fun a w hE hR => stepOk_pick rfl rfl (hR.pred 1 79 rfl rfl) (hR.pred 10 88 rfl rfl) rfl
          · exact fun a w hE hR => stepOk_assign rfl rfl (hR.pred 11 89 rfl rfl) rfl
          · intro vs w9 hlen hE hF
            obtain ⟨yv0, yvs0, rfl, yhl0⟩ := len_succ (n := 12) hlen
            obtain ⟨yv1, yvs1, rfl, yhl1⟩ := len_succ (n := 11) yhl0
            obtain ⟨yv2, yvs2, rfl, yhl2⟩ := len_succ (n := 10) yhl1
            obtain ⟨yv3, yvs3, rfl, yhl3⟩ := len_succ (n := 9) yhl2
            obtain ⟨yv4, yvs4, rfl, yhl4⟩ := len_succ (n := 8) yhl3
            obtain ⟨yv5, yvs5, rfl, yhl5⟩ := len_succ (n := 7) yhl4
            obtain ⟨yv6, yvs6, rfl, yhl6⟩ := len_succ (n := 6) yhl5
            obtain ⟨yv7, yvs7, rfl, yhl7⟩ := len_succ (n := 5) yhl6
            obtain ⟨yv8, yvs8, rfl, yhl8⟩ := len_succ (n := 4) yhl7
            obtain ⟨yv9, yvs9, rfl, yhl9⟩ := len_succ (n := 3) yhl8
            obtain ⟨yv10, yvs10, rfl, yhl10⟩ := len_succ (n := 2) yhl9
            obtain ⟨yv11, yvs11, rfl, yhl11⟩ := len_succ (n := 1) yhl10
            obtain ⟨yv12, yvs12, rfl, yhl12⟩ := len_succ (n := 0) yhl11
            obtain rfl := List.eq_nil_of_length_eq_zero yhl12
            clear hlen yhl0 yhl1 yhl2 yhl3 yhl4 yhl5 yhl6 yhl7 yhl8 yhl9 yhl10 yhl11 yhl12
            obtain ⟨-, -, -, -, -, -, -, -, -, -, -, -, f12, -⟩ := hF
            obtain rfl := f12 rfl
            have hE9 := Lib.hid hE
            clear hE f12
            simp only [putAll, Act.put, List.setIfInBounds_toArray, List.set_cons_succ, List.set_cons_zero]
            go_wp2_with fail
            go_ret
            exact ⟨rfl, ((hE6.out.tr hE7H.out).tr hE8).tr hE9.out⟩
        · have hno : ok = false ∧ y = [] := by
            rcases hcase.out with ⟨_, _, h2, h3⟩ | ⟨h1, h2, _⟩
            · exact (hsp (by rw [hpH.out, ← h2]; exact h3)).elim
            · exact ⟨h1, h2⟩
          obtain ⟨rfl, rfl⟩ := hno
          have hb : (!(sealed p == m)) = true := by simp [hsp]
          rw [hb]
          have hspH := Lib.hid hsp
          clear hsp hb
          go_wp2_with fail
          go_ret
          exact ⟨rfl, (hE6.out.tr hE7H.out).tr hE8⟩
end Go.Proofs.Ytkannfkjnohdlaa
