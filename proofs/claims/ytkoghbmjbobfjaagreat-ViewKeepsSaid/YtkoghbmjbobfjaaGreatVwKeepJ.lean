/- ViewKeeps: the law's walk. -/
import Derived.Test.YtkoghbmjbobfjaaGreatVwKeepB
import Derived.Test.YtkoghbmjbobfjaaGreatVwKeepI
import Derived.Test.YtkoghbmjbobfjaaGreatRows
set_option maxRecDepth 100000
namespace Go.Proofs.YtkoghbmjbobfjaaGreat
open Go.RowKit Go.Pm
def kver (k : KeyR) : Ver := ⟨0, false, k.exp, k.val⟩
section
variable {M : List (List UInt8 × Ver)} {clk kd : Int} {key : List UInt8} {y : Ver} {ec : Int} {k : KeyR}
theorem of_dead (h : OfI M clk key kd y ec) (hd : DeadM M clk key) : ec = 0 ∧ y = zver0 := by
 rcases h with ⟨h1, h2, -⟩ | ⟨-, -, x, h1, h2, -⟩ | ⟨-, h1, h2, -⟩
 ·exact ⟨h1, h2⟩
 ·rw [hd x h1] at h2; cases h2
 rw [hd y h1] at h2; cases h2
theorem of_kind (h : OfI M clk key kd y ec) (hl : lookA M key = some ⟨0, false, k.exp, k.val⟩) (ha : aliveB ⟨0, false, k.exp, k.val⟩ clk = true) (hk : k.val.kind ≠ kd) : ec = 40 := by
 rcases h with ⟨-, -, hd⟩ | ⟨h1, -⟩ | ⟨-, h1, -, h3⟩
 ·rw [hd _ hl] at ha; cases ha
 ·exact h1
 rw [hl] at h1; cases h1; exact absurd h3 hk
theorem of_same (h : OfI M clk key kd y ec) (hl : lookA M key = some ⟨0, false, k.exp, k.val⟩) (ha : aliveB ⟨0, false, k.exp, k.val⟩ clk = true) (hk : ¬ k.val.kind ≠ kd) : ec = 0 ∧ y = kver k := by
 rcases h with ⟨-, -, hd⟩ | ⟨-, -, x, h1, -, h3⟩ | ⟨h0, h1, -, -⟩
 ·rw [hd _ hl] at ha; cases ha
 ·rw [hl] at h1; cases h1; exact absurd h3 hk
 rw [hl] at h1; cases h1; exact ⟨h0, rfl⟩
end
theorem wordsEq (B : Base) (H : List Res) (w : World) (ad ad' : Option Addr) (c c' : Nat) {l l' : List (List UInt8)} (h : l = l') (hr : RdV B [] ad (textCells l)) (hr' : RdV B [] ad' (textCells l')) (hm : l'.length ≤ 1000000) (hv : Inv B H w) :
  Calls Tryz.prog 18 #[.slice ad l.length c, .slice ad' l'.length c'] w fun e w' => e = .returned (.bool true) ∧ Inv B H w' := by
 subst h
 exact refWords B H w ad ad' c c' l hr hr' hm hv
theorem l20ccallable5 : Callable Tryz.prog 5 := ⟨_, Tryz.func5, by kernel_rfl, by kernel_rfl⟩
theorem l20cal31 (w : World) : (Instr.alloc 31 true (.tuple #[])).run Tryz.prog w = .ok (.pointer (some ⟨w.heap.size, 0, none⟩)) (w.alloc (.cells ([.slice none 0 0, .int .i64 0, .slice none 0 0] : List Value).toArray 31)) := by kernel_rfl
theorem l20ces22 (w : World) : (sizeOf (Tryz.prog.elem 22)).run Tryz.prog w = .ok 8 w := by kernel_rfl
theorem l20cwd37 : Wide Tryz.prog 37 8 := wide_of (fun w => by kernel_rfl) (by kernel_rfl)
theorem l20cal37 (w : World) : (Instr.alloc 37 true (.tuple #[])).run Tryz.prog w = .ok (.pointer (some ⟨w.heap.size, 0, none⟩)) (w.alloc (.cells ([.string ⟨([] : List UInt8).toArray⟩, .int .i64 0, .string ⟨([] : List UInt8).toArray⟩, .slice none 0 0, .slice none 0 0, .slice none 0 0, .int .i64 0, .int .i64 0] : List Value).toArray 37)) := by kernel_rfl
theorem l20csz37 : (Tryz.prog.info? 37).map (·.size) = some 8 := by kernel_rfl
theorem l20cfa37_0 (w : World) (b o : Nat) : (Instr.fieldAt 37 (.pointer (some ⟨b, o, none⟩)) 0).run Tryz.prog w = .ok (.pointer (some ⟨b, o + 0, none⟩)) w := by kernel_rfl
theorem l20ccallable7 : Callable Tryz.prog 7 := ⟨_, Tryz.func7, by kernel_rfl, by kernel_rfl⟩
theorem l20cfa37_1 (w : World) (b o : Nat) : (Instr.fieldAt 37 (.pointer (some ⟨b, o, none⟩)) 1).run Tryz.prog w = .ok (.pointer (some ⟨b, o + 1, none⟩)) w := by kernel_rfl
theorem l20ccallable8 : Callable Tryz.prog 8 := ⟨_, Tryz.func8, by kernel_rfl, by kernel_rfl⟩
theorem l20cfa37_2 (w : World) (b o : Nat) : (Instr.fieldAt 37 (.pointer (some ⟨b, o, none⟩)) 2).run Tryz.prog w = .ok (.pointer (some ⟨b, o + 6, none⟩)) w := by kernel_rfl
theorem l20ccallable11 : Callable Tryz.prog 11 := ⟨_, Tryz.func11, by kernel_rfl, by kernel_rfl⟩
theorem l20ccallable12 : Callable Tryz.prog 12 := ⟨_, Tryz.func12, by kernel_rfl, by kernel_rfl⟩
theorem l20cfa37_3 (w : World) (b o : Nat) : (Instr.fieldAt 37 (.pointer (some ⟨b, o, none⟩)) 3).run Tryz.prog w = .ok (.pointer (some ⟨b, o + 7, none⟩)) w := by kernel_rfl
theorem l20cal45 (w : World) : (Instr.alloc 45 true (.tuple #[])).run Tryz.prog w = .ok (.pointer (some ⟨w.heap.size, 0, none⟩)) (w.alloc (.cells ([.int .i64 0, .bool false, .int .i64 0, .int .i64 0, .string ⟨([] : List UInt8).toArray⟩, .slice none 0 0, .slice none 0 0, .slice none 0 0] : List Value).toArray 45)) := by kernel_rfl
theorem l20cal49 (w : World) : (Instr.alloc 49 true (.tuple #[])).run Tryz.prog w = .ok (.pointer (some ⟨w.heap.size, 0, none⟩)) (w.alloc (.cells ([.string ⟨([] : List UInt8).toArray⟩, .int .i64 0, .string ⟨([] : List UInt8).toArray⟩, .slice none 0 0, .slice none 0 0, .slice none 0 0, .int .i64 0] : List Value).toArray 49)) := by kernel_rfl
theorem l20cfa49_1 (w : World) (b o : Nat) : (Instr.fieldAt 49 (.pointer (some ⟨b, o, none⟩)) 1).run Tryz.prog w = .ok (.pointer (some ⟨b, o + 1, none⟩)) w := by kernel_rfl
theorem l20ccallable15 : Callable Tryz.prog 15 := ⟨_, Tryz.func15, by kernel_rfl, by kernel_rfl⟩
theorem l20ccallable10 : Callable Tryz.prog 10 := ⟨_, Tryz.func10, by kernel_rfl, by kernel_rfl⟩
theorem l20ccallable178 : Callable Tryz.prog 178 := ⟨_, Tryz.func178, by kernel_rfl, by kernel_rfl⟩
theorem l20ccallable19 : Callable Tryz.prog 19 := ⟨_, Tryz.func19, by kernel_rfl, by kernel_rfl⟩
theorem l20ccallable177 : Callable Tryz.prog 177 := ⟨_, Tryz.func177, by kernel_rfl, by kernel_rfl⟩
set_option maxHeartbeats 8000000 in
theorem viewKeepsMain (B : Base) (H : List Res) (w : World) (ad : Option Addr) (n c : Nat) (clock : Int) (hr : ActsRd20 B ad n) (hv : Inv B H w) :
  Calls Tryz.prog 3 #[.slice ad n c, .int .i64 clock] w fun e w' => e = .returned (.bool true) ∧ Inv B H w' := by
 refine cW Tryz.func3 rfl Tryz.ntmps3 ?_
 simp only [al]
 refine sK fun _ k1 => rL (xA (.bool false) rfl ?_)
 simp only [zP, po]
 refine wK k1 (sK fun _ k2 => ?_)
 refine sK fun _ k3 => rL (xC l20ccallable5 rfl ((lawAwake20 B _ _ hv).mono ?_) rfl)
 rintro e w4 ⟨rfl, hv⟩
 refine ⟨_, rfl, ?_⟩
 refine xG (.bool false) rfl (ex_not rfl rfl rfl) (xM (.bool false) rfl ?_)
 simp only [zP, po]
 refine xM (.slice ad n c) rfl (xG (.int .i64 (n : Int)) rfl (ex_len0 Tryz.underlying22 rfl rfl) ?_)
 by_cases hb5 : (n : Int) > 30
 ·refine xG (.bool true) rfl (ex_gtr rfl rfl rfl (decide_eq_true hb5)) ?_
  simp only [zP, po]
  refine xK false (.bool true) rfl ?_
  simp only [zP, po]
  refine wK k3 (cT rfl ?_)
  refine sK fun _ k6 => rL (xC l20ccallable5 rfl ((lawAwake20 B _ _ hv).mono ?_) rfl)
  rintro e w7 ⟨rfl, hv⟩
  refine ⟨_, rfl, ?_⟩
  refine xA (.bool true) rfl ?_
  simp only [zP, po]
  refine wK k6 (rR ?_)
  refine tR (bR rfl rfl ?_)
  exact ⟨rfl, hv⟩
 refine xG (.bool false) rfl (ex_gtr rfl rfl rfl (decide_eq_false hb5)) ?_
 simp only [zP, po]
 refine xK false (.bool false) rfl ?_
 simp only [zP, po]
 refine wK k3 (cF rfl ?_)
 refine kS (tK k2 ?_)
 refine sK fun _ k8 => rL (xM (.int .i64 clock) rfl ?_)
 refine xG (.int .i64 (if 0 > clock then 0 else clock)) rfl (ex_max2 (m := clock) (n := 0) rfl rfl rfl rfl) (xG (.int .i64 (if 1099511627776 < (if 0 > clock then 0 else clock) then 1099511627776 else (if 0 > clock then 0 else clock))) rfl (ex_min2 (m := (if 0 > clock then 0 else clock)) (n := 1099511627776) rfl rfl rfl rfl) ?_)
 simp only [zP, po]
 refine xA (.int .i64 (if 1099511627776 < (if 0 > clock then 0 else clock) then 1099511627776 else (if 0 > clock then 0 else clock))) rfl ?_
 simp only [zP, po]
 refine wK k8 (sK fun _ k9 => ?_)
 obtain ⟨now, hnow⟩ : ∃ n : Int, n = (if 1099511627776 < (if 0 > clock then 0 else clock) then 1099511627776 else (if 0 > clock then 0 else clock)) := ⟨_, rfl⟩
 rw [← hnow]
 have h0 : 0 ≤ now := by rw [hnow]; split <;> (try split) <;> omega
 have h1 : now ≤ 1099511627776 := by rw [hnow]; split <;> (try split) <;> omega
 clear hnow
 refine rL (xM (.int .i64 now) rfl ?_)
 refine xC v7callable6 rfl ((lawOpened20 B _ _ now h0 h1 hv).mono ?_) rfl
 rintro e w10 ⟨v, t, m, s, p, wb, va, vc, sv, rfl, hv⟩
 refine ⟨_, rfl, ?_⟩
 refine xM (.tuple #[.pointer (some ⟨v, 0, none⟩), .pointer (some ⟨t, 0, none⟩)]) rfl ?_
 simp only [zP, po]
 refine xG (.pointer (some ⟨v, 0, none⟩)) rfl (ex_extract rfl rfl rfl) (xG (.pointer (some ⟨t, 0, none⟩)) rfl (ex_extract rfl rfl rfl) ?_)
 refine xA (.pointer (some ⟨v, 0, none⟩)) rfl ?_
 simp only [zP, po]
 refine xA (.pointer (some ⟨t, 0, none⟩)) rfl ?_
 simp only [zP, po]
 refine wK k9 (sK fun _ k11 => ?_)
 refine rL (xM (.int .i64 now) rfl ?_)
 refine xG (.agg #[.slice none 0 0, .int .i64 now, .slice none 0 0]) rfl (ex_buildN (vs := #[(1, .int .i64 now)]) rfl (by simp only [List.map_toArray, List.map_cons, List.map_nil]; rfl) (by kernel_rfl)) (sl_alloc tV (wn rfl) rfl hv l20cal31 (fun b12 w13 hv => ?_))
 simp only [zP, po]
 refine xS 0 rfl hv v2sz31 rfl (by exact ⟨rfl, rfl, rfl, trivial⟩) (fun w14 hv => ?_)
 simp only [zO, sp] at hv
 simp only [zP, po]
 refine wK k11 (sK fun _ k15 => ?_)
 refine sK fun _ k16 => rL (xA (.int .i64 0) rfl ?_)
 simp only [zP, po]
 refine wK k16 (bB ?_)
 gi_loopw [9] (fun x9 wr => ∃ (i : Nat) (C : Base) (es : List (List UInt8 × Value)) (M : List (List UInt8 × Ver)) (K : List KeyR) (wl : List (List UInt8)) (ka wa : Option Addr) (kc wc : Nat) (xs : List Value), x9 = .int .i64 (i : Int) ∧ B.Le C ∧ i ≤ n ∧ (K.length ≤ i ∧ wl.length ≤ i ∧ VM C es M ∧ RelVK M K ∧ KeysOk M i ∧ RefV C K wl ka wa kc wc xs) ∧ Inv C (Res.cell v [.iface 25 (.pointer (some ⟨t, 0, none⟩))] 61 :: txR t m s p wb va vc sv now es :: Res.cell b12 [.slice ka K.length kc, .int .i64 now, .slice wa wl.length wc] 31 :: H) wr) (fun x9 _ => n - (intOf x9).toNat)
 case atStart => exact ⟨0, B, [], [], [], [], none, none, 0, 0, [], rfl, Base.Le.refl _, Nat.zero_le _, ⟨Nat.le_refl _, Nat.le_refl _, trivial, RelVK.nil, ⟨List.Pairwise.nil, Nat.le_refl _, fun k h => (by cases h)⟩, ⟨⟨Nat.le_refl _, Nat.zero_le _, fun _ => rfl⟩, rdV_nil, rfl, ⟨Nat.le_refl _, Nat.zero_le _, fun _ => rfl⟩, rdV_nil⟩⟩, ((hv.front 2 rfl).front 2 rfl)⟩
 case round =>
  obtain ⟨i, C, es, M, K, wl, ka, wa, kc, wc, xs, rfl, hBC, hi, ⟨hKl, hwl, hM, hRK, hKO, hRV⟩, hv⟩ := hrel
  refine sK fun _ k18 => sK fun _ k19 => rL (xM (.int .i64 (i : Int)) rfl ?_)
  refine xM (.slice ad n c) rfl (xG (.int .i64 (n : Int)) rfl (ex_len0 Tryz.underlying22 rfl rfl) ?_)
  simp only [zP, po]
  by_cases hb20 : (i : Int) < (n : Int)
  ·refine xG (.bool true) rfl (ex_lss rfl rfl rfl (decide_eq_true hb20)) ?_
   simp only [zP, po]
   refine wK k19 (cT rfl ?_)
   refine kS (tK k18 ?_)
   refine sK fun _ k21 => bB (sK fun _ k22 => ?_)
   obtain ⟨bb, bo, key, x, xp, xt, xz, ex, kd, had, hrd, hrdv, hex0, hex1⟩ := hr i (by omega)
   subst had
   refine rL (xM (.slice (some ⟨bb, bo, none⟩) n c) rfl ?_)
   refine xM (.int .i64 (i : Int)) rfl (xG (.pointer (some ⟨bb, bo + i * 8, none⟩)) rfl (ex_index rfl rfl rfl (run_idx (k := i) Tryz.underlying22 l20ces22 (by omega))) ?_)
   simp only [zP, po]
   refine xL (.agg #[.string ⟨key.toArray⟩, .int .i64 x.kind, .string ⟨x.text.toArray⟩, xp, xt, xz, .int .i64 ex, .int .i64 kd]) rfl (run_loadR (cs := [.string ⟨key.toArray⟩, .int .i64 x.kind, .string ⟨x.text.toArray⟩, xp, xt, xz, .int .i64 ex, .int .i64 kd]) l20cwd37 (Reads.mid (pre := []) (mid := [.string ⟨key.toArray⟩, .int .i64 x.kind, .string ⟨x.text.toArray⟩, xp, xt, xz, .int .i64 ex, .int .i64 kd]) (post := []) hrd _ _ _ hBC no_res hv)) (sl_alloc tV (wn rfl) rfl hv l20cal37 (fun b23 w24 hv => ?_))
   refine xS 0 rfl hv l20csz37 rfl (by exact ⟨rfl, rfl, rfl, hrdv.p.one, hrdv.t.one, hrdv.z.one, rfl, rfl, trivial⟩) (fun w25 hv => ?_)
   simp only [zO, sp] at hv
   simp only [zP, po]
   refine wK k22 (sK fun _ k26 => ?_)
   refine sK fun _ k27 => ?_
   by_cases hk28 : (key.length : Int) > 256
   ·refine rW mixed [2, 3] [0,1,5,6,7,8,2,3,4,9] 200 rfl (by kernel_rfl) hv ?_
    simp only [qm, opAt]
    refine dG (.pointer (some ⟨b23, 0, none⟩)) rfl (ex_field rfl rfl (l20cfa37_0 _ _ _)) (dL _ rfl (fun hv => ex_load rfl rfl (run_load1 s9na9 (hv.load 0 0 rfl rfl))) ?_)
    refine dG (.pointer (some ⟨b23, 0, none⟩)) rfl (ex_field rfl rfl (l20cfa37_0 _ _ _)) ?_
    simp only [zP, po]
    refine dF _ rfl (fun hv => ex_load rfl rfl (run_load1 s9na9 (hv.load 0 0 rfl rfl))) fun f29 hf29 => dG (.int .i64 (key.length : Int)) rfl (ex_lenStr Tryz.underlying9 rfl rfl) (dG (.bool true) rfl (ex_gtr rfl rfl rfl (decide_eq_true hk28)) ?_)
    simp only [zP, po]
    refine dS rfl fun w30 hv => mem_row2 (v1 := .string ⟨([] : List UInt8).toArray⟩) (v2 := .string ⟨key.toArray⟩) (e := 9) rfl rfl rfl rfl hv (fun w => by kernel_rfl) (fun b31 w32 hv => ?_)
    refine dV hv (fC (fun ww hv => hf29 ww (ex_load rfl rfl (run_load1 s9na9 (hv.load 1 0 rfl rfl)))) fN) (dS rfl fun w33 hv => ?_)
    obtain ⟨C34, hC34, hv, hrkC34, -, -⟩ := (hv.cellRow (n := 2) (c := 2) (size := 1) rfl (by decide) (by decide)).rowBy
    refine mC l20ccallable7 rfl ((mayLongC C34 _ _ _ 2 key hrkC34 hk28 hv).mono ?_) rfl
    rintro e w35 ⟨rfl, hv⟩
    refine ⟨_, rfl, dV hv (fC (fun ww hv => hf29 ww (ex_load rfl rfl (run_load1 s9na9 (hv.load 0 0 rfl rfl)))) fN) ?_⟩
    refine dG (.bool true) rfl (ex_eql rfl rfl rfl (by decide)) ?_
    simp only [zP, po]
    refine dG (.bool false) rfl (ex_bneq Tryz.underlying4 rfl rfl rfl rfl) (dE fun w36 hv => ?_)
    simp only [zP, po]
    refine tK k27 (cF rfl ?_)
    refine kS (tK k26 ?_)
    refine sK fun _ k37 => sK fun _ k38 => rL (xF (.pointer (some ⟨b23, 0, none⟩)) rfl (l20cfa37_0 _ _ _) ?_)
    refine xL _ rfl (run_load1 s9na9 (hv.load 0 0 rfl rfl)) (xG (.int .i64 (key.length : Int)) rfl (ex_lenStr Tryz.underlying9 rfl rfl) ?_)
    simp only [zP, po]
    refine xG (.bool true) rfl (ex_gtr rfl rfl rfl (decide_eq_true hk28)) (xM (.bool true) rfl ?_)
    refine yP rfl ?_
    simp only [zP, po]
    refine yP rfl (yP rfl ?_)
    refine yP rfl ?_
    simp only [zP, po]
    refine xK true (.bool true) rfl ?_
    simp only [zP, po]
    refine wK k38 (cT rfl ?_)
    refine sK fun _ k39 => rL (xA (.bool true) rfl ?_)
    simp only [zP, po]
    refine wK k39 (rR ?_)
    refine tR (bE ?_)
    refine tR (tR ?_)
    refine bE (tR ?_)
    refine bR rfl rfl (⟨rfl, ((hv.sub (List.Sublist.cons _ (List.Sublist.cons _ (List.Sublist.cons _ (List.Sublist.cons _ (List.Sublist.refl _))))))).weak (hBC.trans hC34)⟩)
   refine rW mixed [2, 3] [0,1,5,6,7,8,2,3,4,9] 200 rfl (by kernel_rfl) hv ?_
   simp only [qm, opAt]
   refine dG (.pointer (some ⟨b23, 0, none⟩)) rfl (ex_field rfl rfl (l20cfa37_0 _ _ _)) (dL _ rfl (fun hv => ex_load rfl rfl (run_load1 s9na9 (hv.load 0 0 rfl rfl))) ?_)
   refine dG (.pointer (some ⟨b23, 0, none⟩)) rfl (ex_field rfl rfl (l20cfa37_0 _ _ _)) ?_
   simp only [zP, po]
   refine dF _ rfl (fun hv => ex_load rfl rfl (run_load1 s9na9 (hv.load 0 0 rfl rfl))) fun f40 hf40 => dG (.int .i64 (key.length : Int)) rfl (ex_lenStr Tryz.underlying9 rfl rfl) (dG (.bool false) rfl (ex_gtr rfl rfl rfl (decide_eq_false hk28)) ?_)
   simp only [zP, po]
   refine dS rfl fun w41 hv => mem_row2 (v1 := .string ⟨([] : List UInt8).toArray⟩) (v2 := .string ⟨key.toArray⟩) (e := 9) rfl rfl rfl rfl hv (fun w => by kernel_rfl) (fun b42 w43 hv => ?_)
   refine dV hv (fC (fun ww hv => hf40 ww (ex_load rfl rfl (run_load1 s9na9 (hv.load 1 0 rfl rfl)))) fN) (dS rfl fun w44 hv => ?_)
   obtain ⟨C45, hC45, hv, hrkC45, -, -⟩ := (hv.cellRow (n := 2) (c := 2) (size := 1) rfl (by decide) (by decide)).rowBy
   refine mC l20ccallable7 rfl ((mayShort C45 _ _ _ 2 key hrkC45 hk28 hv).mono ?_) rfl
   rintro e w46 ⟨rfl, hv⟩
   refine ⟨_, rfl, dV hv (fC (fun ww hv => hf40 ww (ex_load rfl rfl (run_load1 s9na9 (hv.load 0 0 rfl rfl)))) fN) ?_⟩
   refine dG (.bool false) rfl (ex_eql rfl rfl rfl (by decide)) ?_
   simp only [zP, po]
   refine dG (.bool false) rfl (ex_bneq Tryz.underlying4 rfl rfl rfl rfl) (dE fun w47 hv => ?_)
   simp only [zP, po]
   refine tK k27 (cF rfl ?_)
   refine kS (tK k26 ?_)
   refine sK fun _ k48 => sK fun _ k49 => rL (xF (.pointer (some ⟨b23, 0, none⟩)) rfl (l20cfa37_0 _ _ _) ?_)
   refine xL _ rfl (run_load1 s9na9 (hv.load 0 0 rfl rfl)) (xG (.int .i64 (key.length : Int)) rfl (ex_lenStr Tryz.underlying9 rfl rfl) ?_)
   simp only [zP, po]
   refine xG (.bool false) rfl (ex_gtr rfl rfl rfl (decide_eq_false hk28)) (xM (.bool false) rfl ?_)
   refine xF (.pointer (some ⟨b23, 1, none⟩)) rfl (l20cfa37_1 _ _ _) ?_
   simp only [zP, po]
   refine xL (.agg #[.int .i64 x.kind, .string ⟨x.text.toArray⟩, xp, xt, xz]) rfl (run_load_mid (pre := [.string ⟨key.toArray⟩]) (mid := [.int .i64 x.kind, .string ⟨x.text.toArray⟩, xp, xt, xz]) (post := [.int .i64 ex, .int .i64 kd]) s1wd35 (show Blk _ b23 ([.string ⟨key.toArray⟩] ++ [.int .i64 x.kind, .string ⟨x.text.toArray⟩, xp, xt, xz] ++ [.int .i64 ex, .int .i64 kd]) _ from hv.get 0 rfl) rfl) (xC l20ccallable8 rfl ((refSmall C45 _ _ x xp xt xz (hrdv.more (hBC.trans hC45)) hv).mono ?_) rfl)
   rintro e w51 ⟨bl50, rfl, hbl50, hv⟩
   refine ⟨_, rfl, ?_⟩
   cases bl50
   ·refine xG (.bool true) rfl (ex_not rfl rfl rfl) ?_
    simp only [zP, po]
    refine xK false (.bool true) rfl ?_
    simp only [zP, po]
    refine wK k49 (cT rfl ?_)
    refine sK fun _ k52 => rL (xA (.bool true) rfl ?_)
    simp only [zP, po]
    refine wK k52 (rR ?_)
    refine tR (bE ?_)
    refine tR (tR ?_)
    refine bE (tR ?_)
    refine bR rfl rfl (⟨rfl, ((hv.sub (List.Sublist.cons _ (List.Sublist.cons _ (List.Sublist.cons _ (List.Sublist.cons _ (List.Sublist.refl _))))))).weak (hBC.trans hC45)⟩)
   refine xG (.bool false) rfl (ex_not rfl rfl rfl) ?_
   simp only [zP, po]
   refine xK false (.bool false) rfl ?_
   simp only [zP, po]
   refine wK k49 (cF rfl ?_)
   refine kS (tK k48 ?_)
   refine sK fun _ k53 => ?_
   have hva := valRd_at2 hrdv (hbl50 rfl)
   refine rL (xF (.pointer (some ⟨b23, 1, none⟩)) rfl (l20cfa37_1 _ _ _) ?_)
   refine xF (.pointer (some ⟨b23, 1, none⟩)) rfl (s12fa35_0 _ _ _) (xL _ rfl (run_load1 s2na3 (hv.load 0 1 rfl rfl)) ?_)
   simp only [zP, po]
   by_cases hb54 : x.kind ≠ 1
   ·refine xG (.bool true) rfl (ex_neq rfl rfl rfl (decide_eq_true hb54)) (xM (.bool true) rfl ?_)
    refine xF (.pointer (some ⟨b23, 1, none⟩)) rfl (l20cfa37_1 _ _ _) ?_
    simp only [zP, po]
    refine xL (.agg #[.int .i64 x.kind, .string ⟨x.text.toArray⟩, xp, xt, xz]) rfl (run_load_mid (pre := [.string ⟨key.toArray⟩]) (mid := [.int .i64 x.kind, .string ⟨x.text.toArray⟩, xp, xt, xz]) (post := [.int .i64 ex, .int .i64 kd]) s1wd35 (show Blk _ b23 ([.string ⟨key.toArray⟩] ++ [.int .i64 x.kind, .string ⟨x.text.toArray⟩, xp, xt, xz] ++ [.int .i64 ex, .int .i64 kd]) _ from hv.get 0 rfl) rfl) (xC v3callable9 rfl ((refSize C45 _ _ x xp xt xz (hva.more (hBC.trans hC45)) hv).mono ?_) rfl)
    rintro e w55 ⟨rfl, hv⟩
    refine ⟨_, rfl, ?_⟩
    by_cases hb56 : (sizeV x : Int) = 0
    ·refine xG (.bool true) rfl (ex_eql rfl rfl rfl (decide_eq_true hb56)) ?_
     simp only [zP, po]
     refine xK true (.bool true) rfl (xA (.bool true) rfl ?_)
     simp only [zP, po]
     refine wK k53 (sK fun _ k57 => ?_)
     refine sK fun _ k58 => rL (xM (.bool true) rfl ?_)
     refine xG (.bool false) rfl (ex_not rfl rfl rfl) (xM (.bool false) rfl ?_)
     simp only [zP, po]
     refine yP rfl (yP rfl ?_)
     refine yP rfl ?_
     simp only [zP, po]
     refine yP rfl (yP rfl ?_)
     refine yP rfl ?_
     simp only [zP, po]
     refine yP rfl (yP rfl ?_)
     refine yP rfl ?_
     simp only [zP, po]
     refine yP rfl (yP rfl ?_)
     refine yP rfl ?_
     simp only [zP, po]
     refine yP rfl (yP rfl ?_)
     refine xK false (.bool false) rfl ?_
     simp only [zP, po]
     refine wK k58 (cF rfl ?_)
     refine kS (tK k57 ?_)
     refine sK fun _ k59 => sK fun _ k60 => rL (xM (.pointer (some ⟨v, 0, none⟩)) rfl ?_)
     refine xF (.pointer (some ⟨b23, 0, none⟩)) rfl (l20cfa37_0 _ _ _) (xL _ rfl (run_load1 s9na9 (hv.load 0 0 rfl rfl)) ?_)
     simp only [zP, po]
     refine xF (.pointer (some ⟨b23, 1, none⟩)) rfl (l20cfa37_1 _ _ _) (xL (.agg #[.int .i64 x.kind, .string ⟨x.text.toArray⟩, xp, xt, xz]) rfl (run_load_mid (pre := [.string ⟨key.toArray⟩]) (mid := [.int .i64 x.kind, .string ⟨x.text.toArray⟩, xp, xt, xz]) (post := [.int .i64 ex, .int .i64 kd]) s1wd35 (show Blk _ b23 ([.string ⟨key.toArray⟩] ++ [.int .i64 x.kind, .string ⟨x.text.toArray⟩, xp, xt, xz] ++ [.int .i64 ex, .int .i64 kd]) _ from hv.get 0 rfl) rfl) ?_)
     refine xF (.pointer (some ⟨b23, 6, none⟩)) rfl (l20cfa37_2 _ _ _) ?_
     simp only [zP, po]
     refine xL _ rfl (run_load1 s2na3 (hv.load 0 6 rfl rfl)) ?_
     replace hv := hv.front 2 rfl
     simp only [List.eraseIdx_cons_succ, List.eraseIdx_cons_zero] at hv
     replace hv := hv.front 2 rfl
     simp only [List.eraseIdx_cons_succ, List.eraseIdx_cons_zero] at hv
     refine xC l20ccallable11 rfl ((viewKeep C45 _ _ v t m s p wb va vc sv now es M key x xp xt xz ex (hM.more hC45) (hva.more (hBC.trans hC45)) hv).mono ?_) rfl
     rintro e w61 ⟨D, es2, M2, ec, hD, rfl, hM2, hkp, hv⟩
     refine ⟨_, rfl, ?_⟩
     obtain ⟨hec, hmm⟩ := keep_ok (by omega) (fun h9 => absurd h9 (not_full hb54 hb56)) hkp
     subst hec
     refine xG (.bool false) rfl (ex_neq rfl rfl rfl (by decide)) ?_
     simp only [zP, po]
     refine wK k60 (cF rfl ?_)
     refine kS (tK k59 ?_)
     refine sK fun _ k62 => rL (xL (.agg #[.slice ka K.length kc, .int .i64 now, .slice wa wl.length wc]) rfl (run_load_mid (pre := []) (mid := [.slice ka K.length kc, .int .i64 now, .slice wa wl.length wc]) (post := []) v2wd31 (show Blk _ b12 ([] ++ [.slice ka K.length kc, .int .i64 now, .slice wa wl.length wc] ++ []) _ from hv.get 3 rfl) rfl) ?_)
     refine xF (.pointer (some ⟨b23, 0, none⟩)) rfl (l20cfa37_0 _ _ _) (xL _ rfl (run_load1 s9na9 (hv.load 2 0 rfl rfl)) ?_)
     simp only [zP, po]
     refine xF (.pointer (some ⟨b23, 1, none⟩)) rfl (l20cfa37_1 _ _ _) (xL (.agg #[.int .i64 x.kind, .string ⟨x.text.toArray⟩, xp, xt, xz]) rfl (run_load_mid (pre := [.string ⟨key.toArray⟩]) (mid := [.int .i64 x.kind, .string ⟨x.text.toArray⟩, xp, xt, xz]) (post := [.int .i64 ex, .int .i64 kd]) s1wd35 (show Blk _ b23 ([.string ⟨key.toArray⟩] ++ [.int .i64 x.kind, .string ⟨x.text.toArray⟩, xp, xt, xz] ++ [.int .i64 ex, .int .i64 kd]) _ from hv.get 2 rfl) rfl) ?_)
     refine xF (.pointer (some ⟨b23, 6, none⟩)) rfl (l20cfa37_2 _ _ _) ?_
     simp only [zP, po]
     refine xL _ rfl (run_load1 s2na3 (hv.load 2 6 rfl rfl)) (xC l20ccallable12 rfl ((refPut20 D _ _ K wl ka wa kc wc xs now (hRV.more (hC45.trans hD)) (by omega) (by omega) (hRK.short hKO) key x xp xt xz ex (hva.more ((hBC.trans hC45).trans hD)) hv).mono ?_) rfl)
     rintro e w63 ⟨E, K2, wl2, ka2, kc2, wa2, wc2, xs2, hE, rfl, hRV2, hK2, hwl2, hv⟩
     refine ⟨_, rfl, ?_⟩
     have hRK2 := rel_step hRK hmm hK2
     have hKO2 := hKO.step (by omega) hmm
     have hKl2 := putK_len hK2
     refine xS 3 rfl hv v2sz31 rfl (by exact ⟨rfl, rfl, rfl, trivial⟩) (fun w64 hv => ?_)
     simp only [zS, zO, sp] at hv
     simp only [zP, po]
     refine wK k62 (sK fun _ k65 => ?_)
     refine rL (xM (.pointer (some ⟨v, 0, none⟩)) rfl ?_)
     refine xF (.pointer (some ⟨b23, 0, none⟩)) rfl (l20cfa37_0 _ _ _) (xL _ rfl (run_load1 s9na9 (hv.load 2 0 rfl rfl)) ?_)
     simp only [zP, po]
     refine xF (.pointer (some ⟨b23, 7, none⟩)) rfl (l20cfa37_3 _ _ _) (xL _ rfl (run_load1 s2na3 (hv.load 2 7 rfl rfl)) ?_)
     replace hv := hv.front 1 rfl
     simp only [List.eraseIdx_cons_succ, List.eraseIdx_cons_zero] at hv
     replace hv := hv.front 1 rfl
     simp only [List.eraseIdx_cons_succ, List.eraseIdx_cons_zero] at hv
     refine xC v6callable13 rfl ((viewOf E _ _ v t m s p wb va vc sv now es2 M2 key kd (hM2.more hE) hv).mono ?_) rfl
     rintro e w66 ⟨G, y, yp, yt, yz, ec2, hG, rfl, hyv, hof, hv⟩
     refine ⟨_, rfl, ?_⟩
     simp only [zP, po]
     refine xM (.tuple #[.agg #[.int .i64 y.stamp, .bool y.gone, .int .i64 y.expire, .int .i64 y.val.kind, .string ⟨y.val.text.toArray⟩, yp, yt, yz], .int .i64 ec2]) rfl (xG (.agg #[.int .i64 y.stamp, .bool y.gone, .int .i64 y.expire, .int .i64 y.val.kind, .string ⟨y.val.text.toArray⟩, yp, yt, yz]) rfl (ex_extract rfl rfl rfl) ?_)
     refine xG (.int .i64 ec2) rfl (ex_extract rfl rfl rfl) ?_
     simp only [zP, po]
     refine sl_alloc tV (wn rfl) rfl hv l20cal45 (fun b67 w68 hv => ?_)
     refine xS 0 rfl hv x0sz45 rfl (by exact ⟨rfl, rfl, rfl, rfl, rfl, hyv.p.one, hyv.t.one, hyv.z.one, trivial⟩) (fun w69 hv => ?_)
     simp only [zO, sp] at hv
     refine xA (.int .i64 ec2) rfl ?_
     simp only [zP, po]
     refine wK k65 (sK fun _ k70 => ?_)
     refine rL (xL (.agg #[.slice ka2 K2.length kc2, .int .i64 now, .slice wa2 wl2.length wc2]) rfl (run_load_mid (pre := []) (mid := [.slice ka2 K2.length kc2, .int .i64 now, .slice wa2 wl2.length wc2]) (post := []) v2wd31 (show Blk _ b12 ([] ++ [.slice ka2 K2.length kc2, .int .i64 now, .slice wa2 wl2.length wc2] ++ []) _ from hv.get 4 rfl) rfl) ?_)
     refine xF (.pointer (some ⟨b23, 0, none⟩)) rfl (l20cfa37_0 _ _ _) (xL _ rfl (run_load1 s9na9 (hv.load 3 0 rfl rfl)) ?_)
     simp only [zP, po]
     refine xC v2callable14 rfl ((refGet20 G _ _ K2 wl2 ka2 wa2 kc2 wc2 xs2 now (hRV2.more hG) (by omega) (by omega) key hv).mono ?_) rfl
     rintro e w71 ⟨k, kp, kt, kz, ok, rfl, hget, hkv, hv⟩
     refine ⟨_, rfl, ?_⟩
     rcases hget with ⟨rfl, hgk, -⟩ | ⟨rfl, -, hgk, -⟩
     ·obtain ⟨hl9, ha9⟩ := hRK2.got hgk
      by_cases hkd : k.val.kind ≠ kd
      ·obtain rfl := of_kind hof hl9 ha9 hkd
       refine xM (.tuple #[.agg #[.string ⟨k.name.toArray⟩, .int .i64 k.val.kind, .string ⟨k.val.text.toArray⟩, kp, kt, kz, .int .i64 k.exp], .bool true]) rfl (xG (.agg #[.string ⟨k.name.toArray⟩, .int .i64 k.val.kind, .string ⟨k.val.text.toArray⟩, kp, kt, kz, .int .i64 k.exp]) rfl (ex_extract rfl rfl rfl) ?_)
       simp only [zP, po]
       refine xG (.bool true) rfl (ex_extract rfl rfl rfl) (sl_alloc tV (wn rfl) rfl hv l20cal49 (fun b72 w73 hv => ?_))
       refine xS 0 rfl hv v2sz49 rfl (by exact ⟨rfl, rfl, rfl, hkv.p.one, hkv.t.one, hkv.z.one, rfl, trivial⟩) (fun w74 hv => ?_)
       simp only [zO, sp] at hv
       simp only [zP, po]
       refine xA (.bool true) rfl ?_
       simp only [zP, po]
       refine wK k70 (sK fun _ k75 => ?_)
       refine sK fun _ k76 => rL (xM (.bool true) rfl ?_)
       refine xG (.bool false) rfl (ex_not rfl rfl rfl) ?_
       simp only [zP, po]
       refine wK k76 (cF rfl ?_)
       refine kS (tK k75 ?_)
       refine sK fun _ k77 => sK fun _ k78 => rL (xF (.pointer (some ⟨b72, 1, none⟩)) rfl (l20cfa49_1 _ _ _) ?_)
       refine xF (.pointer (some ⟨b72, 1, none⟩)) rfl (s12fa35_0 _ _ _) (xL _ rfl (run_load1 s2na3 (hv.load 0 1 rfl rfl)) ?_)
       simp only [zP, po]
       refine xF (.pointer (some ⟨b23, 7, none⟩)) rfl (l20cfa37_3 _ _ _) (xL _ rfl (run_load1 s2na3 (hv.load 4 7 rfl rfl)) ?_)
       refine xG (.bool true) rfl (ex_neq rfl rfl rfl (decide_eq_true hkd)) ?_
       simp only [zP, po]
       refine wK k78 (cT rfl ?_)
       refine sK fun _ k79 => sK fun _ k80 => rL (xM (.int .i64 40) rfl ?_)
       refine xG (.bool false) rfl (ex_neq rfl rfl rfl (by decide)) ?_
       simp only [zP, po]
       refine wK k80 (cF rfl ?_)
       refine kS (tK k79 ?_)
       refine xE (tX ?_)
       refine bH (tK k21 ?_)
       refine rL (xM (.int .i64 (i : Int)) rfl ?_)
       refine xG (.int .i64 ((i + 1 : Nat) : Int)) rfl (ex_add rfl rfl rfl (by rw [i64_in (by omega)]; omega)) (xA (.int .i64 ((i + 1 : Nat) : Int)) rfl ?_)
       refine wL ?_
       simp only [zP, po]
       refine then_normal ?_
       go_roundw
       case rel => exact ⟨i + 1, _, _, _, _, _, _, _, _, _, _, rfl, ((((hBC.trans hC45).trans hD).trans hE).trans hG), by omega, ⟨by omega, by omega, hM2.more (hE.trans hG), hRK2, hKO2, hRV2.more hG⟩, ((((hv.front 5 rfl).front 4 rfl).front 4 rfl).sub (List.Sublist.cons_cons _ (List.Sublist.cons_cons _ (List.Sublist.cons_cons _ (List.Sublist.cons _ (List.Sublist.cons _ (List.Sublist.cons _ (List.Sublist.refl _))))))))⟩
       case measure => show n - (((i + 1 : Nat) : Int)).toNat < n - ((i : Int)).toNat; omega
      obtain ⟨rfl, rfl⟩ := of_same (k := k) hof hl9 ha9 hkd
      refine xM (.tuple #[.agg #[.string ⟨k.name.toArray⟩, .int .i64 k.val.kind, .string ⟨k.val.text.toArray⟩, kp, kt, kz, .int .i64 k.exp], .bool true]) rfl (xG (.agg #[.string ⟨k.name.toArray⟩, .int .i64 k.val.kind, .string ⟨k.val.text.toArray⟩, kp, kt, kz, .int .i64 k.exp]) rfl (ex_extract rfl rfl rfl) ?_)
      simp only [zP, po]
      refine xG (.bool true) rfl (ex_extract rfl rfl rfl) (sl_alloc tV (wn rfl) rfl hv l20cal49 (fun b81 w82 hv => ?_))
      refine xS 0 rfl hv v2sz49 rfl (by exact ⟨rfl, rfl, rfl, hkv.p.one, hkv.t.one, hkv.z.one, rfl, trivial⟩) (fun w83 hv => ?_)
      simp only [zO, sp] at hv
      simp only [zP, po]
      refine xA (.bool true) rfl ?_
      simp only [zP, po]
      refine wK k70 (sK fun _ k84 => ?_)
      refine sK fun _ k85 => rL (xM (.bool true) rfl ?_)
      refine xG (.bool false) rfl (ex_not rfl rfl rfl) ?_
      simp only [zP, po]
      refine wK k85 (cF rfl ?_)
      refine kS (tK k84 ?_)
      refine sK fun _ k86 => sK fun _ k87 => rL (xF (.pointer (some ⟨b81, 1, none⟩)) rfl (l20cfa49_1 _ _ _) ?_)
      refine xF (.pointer (some ⟨b81, 1, none⟩)) rfl (s12fa35_0 _ _ _) (xL _ rfl (run_load1 s2na3 (hv.load 0 1 rfl rfl)) ?_)
      simp only [zP, po]
      refine xF (.pointer (some ⟨b23, 7, none⟩)) rfl (l20cfa37_3 _ _ _) (xL _ rfl (run_load1 s2na3 (hv.load 4 7 rfl rfl)) ?_)
      refine xG (.bool false) rfl (ex_neq rfl rfl rfl (decide_eq_false hkd)) ?_
      simp only [zP, po]
      refine wK k87 (cF rfl ?_)
      refine kS (tK k86 ?_)
      refine sK fun _ k88 => rL (xM (.int .i64 0) rfl ?_)
      refine xG (.bool false) rfl (ex_neq rfl rfl rfl (by decide)) (xM (.bool false) rfl ?_)
      simp only [zP, po]
      refine xF (.pointer (some ⟨b67, 3, none⟩)) rfl (x2fa45_3 _ _ _) (xL (.agg #[.int .i64 ((kver k).val.kind), .string ⟨((kver k).val.text).toArray⟩, yp, yt, yz]) rfl (run_load_mid (pre := [.int .i64 ((kver k).stamp), .bool ((kver k).gone), .int .i64 ((kver k).expire)]) (mid := [.int .i64 ((kver k).val.kind), .string ⟨((kver k).val.text).toArray⟩, yp, yt, yz]) (post := []) s1wd35 (show Blk _ b67 ([.int .i64 ((kver k).stamp), .bool ((kver k).gone), .int .i64 ((kver k).expire)] ++ [.int .i64 ((kver k).val.kind), .string ⟨((kver k).val.text).toArray⟩, yp, yt, yz] ++ []) _ from hv.get 1 rfl) rfl) ?_)
      refine xF (.pointer (some ⟨b81, 1, none⟩)) rfl (l20cfa49_1 _ _ _) ?_
      simp only [zP, po]
      refine xL (.agg #[.int .i64 k.val.kind, .string ⟨k.val.text.toArray⟩, kp, kt, kz]) rfl (run_load_mid (pre := [.string ⟨k.name.toArray⟩]) (mid := [.int .i64 k.val.kind, .string ⟨k.val.text.toArray⟩, kp, kt, kz]) (post := [.int .i64 k.exp]) s1wd35 (show Blk _ b81 ([.string ⟨k.name.toArray⟩] ++ [.int .i64 k.val.kind, .string ⟨k.val.text.toArray⟩, kp, kt, kz] ++ [.int .i64 k.exp]) _ from hv.get 0 rfl) rfl) (xC l20bcallable16 rfl ((refSameV G _ _ k.val yp yt yz kp kt kz (hyv.more (Base.Le.refl _)).rd (hkv.more (Base.Le.refl _)).rd hkv.pm hkv.tm hkv.zm hv).mono ?_) rfl)
      rintro e w89 ⟨rfl, hv⟩
      refine ⟨_, rfl, ?_⟩
      refine xG (.bool false) rfl (ex_not rfl rfl rfl) ?_
      simp only [zP, po]
      refine xK false (.bool false) rfl (xM (.bool false) rfl ?_)
      refine xF (.pointer (some ⟨b67, 2, none⟩)) rfl (s2fa45_2 _ _ _) ?_
      simp only [zP, po]
      refine xL _ rfl (run_load1 s2na3 (hv.load 1 2 rfl rfl)) (xF (.pointer (some ⟨b81, 6, none⟩)) rfl (v2fa49_2 _ _ _) ?_)
      refine xL _ rfl (run_load1 s2na3 (hv.load 0 6 rfl rfl)) ?_
      simp only [zP, po]
      refine xG (.bool false) rfl (ex_neq rfl rfl rfl (decide_eq_false (fun h => h rfl))) (xK false (.bool false) rfl ?_)
      simp only [zP, po]
      refine wK k88 (cF rfl ?_)
      refine kS (bN ?_)
      refine tK k21 (rL ?_)
      refine xM (.int .i64 (i : Int)) rfl (xG (.int .i64 ((i + 1 : Nat) : Int)) rfl (ex_add rfl rfl rfl (by rw [i64_in (by omega)]; omega)) ?_)
      refine xA (.int .i64 ((i + 1 : Nat) : Int)) rfl (wL ?_)
      simp only [zP, po]
      refine then_normal ?_
      go_roundw
      case rel => exact ⟨i + 1, _, _, _, _, _, _, _, _, _, _, rfl, ((((hBC.trans hC45).trans hD).trans hE).trans hG), by omega, ⟨by omega, by omega, hM2.more (hE.trans hG), hRK2, hKO2, hRV2.more hG⟩, ((((hv.front 5 rfl).front 4 rfl).front 4 rfl).sub (List.Sublist.cons_cons _ (List.Sublist.cons_cons _ (List.Sublist.cons_cons _ (List.Sublist.cons _ (List.Sublist.cons _ (List.Sublist.cons _ (List.Sublist.refl _))))))))⟩
      case measure => show n - (((i + 1 : Nat) : Int)).toNat < n - ((i : Int)).toNat; omega
     obtain ⟨rfl, rfl⟩ := of_dead hof (hRK2.dead hgk)
     refine xM (.tuple #[.agg #[.string ⟨k.name.toArray⟩, .int .i64 k.val.kind, .string ⟨k.val.text.toArray⟩, kp, kt, kz, .int .i64 k.exp], .bool false]) rfl (xG (.agg #[.string ⟨k.name.toArray⟩, .int .i64 k.val.kind, .string ⟨k.val.text.toArray⟩, kp, kt, kz, .int .i64 k.exp]) rfl (ex_extract rfl rfl rfl) ?_)
     simp only [zP, po]
     refine xG (.bool false) rfl (ex_extract rfl rfl rfl) (sl_alloc tV (wn rfl) rfl hv l20cal49 (fun b90 w91 hv => ?_))
     refine xS 0 rfl hv v2sz49 rfl (by exact ⟨rfl, rfl, rfl, hkv.p.one, hkv.t.one, hkv.z.one, rfl, trivial⟩) (fun w92 hv => ?_)
     simp only [zO, sp] at hv
     simp only [zP, po]
     refine xA (.bool false) rfl ?_
     simp only [zP, po]
     refine wK k70 (sK fun _ k93 => ?_)
     refine sK fun _ k94 => rL (xM (.bool false) rfl ?_)
     refine xG (.bool true) rfl (ex_not rfl rfl rfl) ?_
     simp only [zP, po]
     refine wK k94 (cT rfl ?_)
     refine sK fun _ k95 => sK fun _ k96 => rL (xM (.int .i64 0) rfl ?_)
     refine xG (.bool false) rfl (ex_neq rfl rfl rfl (by decide)) (xM (.bool false) rfl ?_)
     simp only [zP, po]
     refine xL (.agg #[.int .i64 zver0.stamp, .bool zver0.gone, .int .i64 zver0.expire, .int .i64 zver0.val.kind, .string ⟨zver0.val.text.toArray⟩, yp, yt, yz]) rfl (run_load_mid (pre := []) (mid := [.int .i64 zver0.stamp, .bool zver0.gone, .int .i64 zver0.expire, .int .i64 zver0.val.kind, .string ⟨zver0.val.text.toArray⟩, yp, yt, yz]) (post := []) x0wd45 (show Blk _ b67 ([] ++ [.int .i64 zver0.stamp, .bool zver0.gone, .int .i64 zver0.expire, .int .i64 zver0.val.kind, .string ⟨zver0.val.text.toArray⟩, yp, yt, yz] ++ []) _ from hv.get 1 rfl) rfl) (xG (.agg #[.int .i64 0, .bool false, .int .i64 0, .int .i64 0, .string ⟨([] : List UInt8).toArray⟩, .slice none 0 0, .slice none 0 0, .slice none 0 0]) rfl (ex_buildN (vs := #[]) rfl (by simp only [List.map_toArray, List.map_nil]) (by kernel_rfl)) ?_)
     refine xC l20ccallable15 rfl ((refSame1 G _ _ zver0 yp yt yz _ _ _ (hyv.more (Base.Le.refl _)) (zver0_at _) hv).mono ?_) rfl
     rintro e w97 ⟨rfl, hv⟩
     refine ⟨_, rfl, ?_⟩
     simp only [zP, po]
     refine xG (.bool false) rfl (ex_not rfl rfl rfl) (xK false (.bool false) rfl ?_)
     simp only [zP, po]
     refine wK k96 (cF rfl ?_)
     refine kS (tK k95 ?_)
     refine xE (tX ?_)
     refine bH (tK k21 ?_)
     refine rL (xM (.int .i64 (i : Int)) rfl ?_)
     refine xG (.int .i64 ((i + 1 : Nat) : Int)) rfl (ex_add rfl rfl rfl (by rw [i64_in (by omega)]; omega)) (xA (.int .i64 ((i + 1 : Nat) : Int)) rfl ?_)
     refine wL ?_
     simp only [zP, po]
     refine then_normal ?_
     go_roundw
     case rel => exact ⟨i + 1, _, _, _, _, _, _, _, _, _, _, rfl, ((((hBC.trans hC45).trans hD).trans hE).trans hG), by omega, ⟨by omega, by omega, hM2.more (hE.trans hG), hRK2, hKO2, hRV2.more hG⟩, ((((hv.front 5 rfl).front 4 rfl).front 4 rfl).sub (List.Sublist.cons_cons _ (List.Sublist.cons_cons _ (List.Sublist.cons_cons _ (List.Sublist.cons _ (List.Sublist.cons _ (List.Sublist.cons _ (List.Sublist.refl _))))))))⟩
     case measure => show n - (((i + 1 : Nat) : Int)).toNat < n - ((i : Int)).toNat; omega
    refine xG (.bool false) rfl (ex_eql rfl rfl rfl (decide_eq_false hb56)) ?_
    simp only [zP, po]
    refine xK true (.bool false) rfl (xA (.bool false) rfl ?_)
    simp only [zP, po]
    refine wK k53 (sK fun _ k98 => ?_)
    refine sK fun _ k99 => rL (xM (.bool false) rfl ?_)
    refine xG (.bool true) rfl (ex_not rfl rfl rfl) (xM (.bool true) rfl ?_)
    simp only [zP, po]
    refine xF (.pointer (some ⟨b23, 1, none⟩)) rfl (l20cfa37_1 _ _ _) (xL (.agg #[.int .i64 x.kind, .string ⟨x.text.toArray⟩, xp, xt, xz]) rfl (run_load_mid (pre := [.string ⟨key.toArray⟩]) (mid := [.int .i64 x.kind, .string ⟨x.text.toArray⟩, xp, xt, xz]) (post := [.int .i64 ex, .int .i64 kd]) s1wd35 (show Blk _ b23 ([.string ⟨key.toArray⟩] ++ [.int .i64 x.kind, .string ⟨x.text.toArray⟩, xp, xt, xz] ++ [.int .i64 ex, .int .i64 kd]) _ from hv.get 0 rfl) rfl) ?_)
    refine xC l20ccallable10 rfl ((refRightV C45 _ _ x xp xt xz (hva.more (hBC.trans hC45)) hv).mono ?_) rfl
    rintro e w101 ⟨bl100, rfl, hbl100, hv⟩
    refine ⟨_, rfl, ?_⟩
    cases bl100
    ·simp only [zP, po]
     refine xG (.bool true) rfl (ex_not rfl rfl rfl) (xM (.bool true) rfl ?_)
     refine yP rfl ?_
     simp only [zP, po]
     refine yP rfl (yP rfl ?_)
     refine xK true (.bool true) rfl ?_
     simp only [zP, po]
     refine xM (.bool true) rfl (yP rfl ?_)
     refine yP rfl ?_
     simp only [zP, po]
     refine yP rfl (xK true (.bool true) rfl ?_)
     refine xK true (.bool true) rfl ?_
     simp only [zP, po]
     refine wK k99 (cT rfl ?_)
     refine sK fun _ k102 => sK fun _ k103 => rL (xM (.pointer (some ⟨v, 0, none⟩)) rfl ?_)
     refine xF (.pointer (some ⟨b23, 0, none⟩)) rfl (l20cfa37_0 _ _ _) (xL _ rfl (run_load1 s9na9 (hv.load 0 0 rfl rfl)) ?_)
     simp only [zP, po]
     refine xF (.pointer (some ⟨b23, 1, none⟩)) rfl (l20cfa37_1 _ _ _) (xL (.agg #[.int .i64 x.kind, .string ⟨x.text.toArray⟩, xp, xt, xz]) rfl (run_load_mid (pre := [.string ⟨key.toArray⟩]) (mid := [.int .i64 x.kind, .string ⟨x.text.toArray⟩, xp, xt, xz]) (post := [.int .i64 ex, .int .i64 kd]) s1wd35 (show Blk _ b23 ([.string ⟨key.toArray⟩] ++ [.int .i64 x.kind, .string ⟨x.text.toArray⟩, xp, xt, xz] ++ [.int .i64 ex, .int .i64 kd]) _ from hv.get 0 rfl) rfl) ?_)
     refine xF (.pointer (some ⟨b23, 6, none⟩)) rfl (l20cfa37_2 _ _ _) ?_
     simp only [zP, po]
     refine xL _ rfl (run_load1 s2na3 (hv.load 0 6 rfl rfl)) ?_
     replace hv := hv.front 2 rfl
     simp only [List.eraseIdx_cons_succ, List.eraseIdx_cons_zero] at hv
     replace hv := hv.front 2 rfl
     simp only [List.eraseIdx_cons_succ, List.eraseIdx_cons_zero] at hv
     refine xC l20ccallable11 rfl ((viewKeep C45 _ _ v t m s p wb va vc sv now es M key x xp xt xz ex (hM.more hC45) (hva.more (hBC.trans hC45)) hv).mono ?_) rfl
     rintro e w104 ⟨D, es2, M2, ec, hD, rfl, hM2, hkp, hv⟩
     refine ⟨_, rfl, ?_⟩
     obtain ⟨hec, hMM⟩ := keep_bad (full_of (.inr hb56)) (fun h9 => absurd (hbl100.2 h9.2.1) (by decide)) hkp
     rw [hMM] at hM2
     subst hec
     refine xG (.bool false) rfl (ex_neq rfl rfl rfl (by decide)) ?_
     simp only [zP, po]
     refine wK k103 (cF rfl ?_)
     refine kS (tK k102 ?_)
     refine xE (tX ?_)
     refine bH (tK k21 ?_)
     refine rL (xM (.int .i64 (i : Int)) rfl ?_)
     refine xG (.int .i64 ((i + 1 : Nat) : Int)) rfl (ex_add rfl rfl rfl (by rw [i64_in (by omega)]; omega)) (xA (.int .i64 ((i + 1 : Nat) : Int)) rfl ?_)
     refine wL ?_
     simp only [zP, po]
     refine then_normal ?_
     go_roundw
     case rel => exact ⟨i + 1, _, _, _, _, _, _, _, _, _, _, rfl, ((hBC.trans hC45).trans hD), by omega, ⟨by omega, by omega, hM2.more (Base.Le.refl _), hRK, ⟨hKO.nd, by have := hKO.len; omega, hKO.sh⟩, hRV.more (hC45.trans hD)⟩, ((((hv.front 3 rfl).front 2 rfl).front 2 rfl).sub (List.Sublist.cons_cons _ (List.Sublist.cons_cons _ (List.Sublist.cons_cons _ (List.Sublist.cons _ (List.Sublist.refl _))))))⟩
     case measure => show n - (((i + 1 : Nat) : Int)).toNat < n - ((i : Int)).toNat; omega
    simp only [zP, po]
    refine xG (.bool false) rfl (ex_not rfl rfl rfl) (xM (.bool false) rfl ?_)
    refine xF (.pointer (some ⟨b23, 6, none⟩)) rfl (l20cfa37_2 _ _ _) ?_
    simp only [zP, po]
    refine xL _ rfl (run_load1 s2na3 (hv.load 0 6 rfl rfl)) ?_
    by_cases hb105 : ex < 0
    ·refine xG (.bool true) rfl (ex_lss rfl rfl rfl (decide_eq_true hb105)) (xK false (.bool true) rfl ?_)
     simp only [zP, po]
     refine xM (.bool true) rfl (yP rfl ?_)
     refine yP rfl ?_
     simp only [zP, po]
     refine yP rfl (xK true (.bool true) rfl ?_)
     refine xK true (.bool true) rfl ?_
     simp only [zP, po]
     refine wK k99 (cT rfl ?_)
     refine sK fun _ k106 => sK fun _ k107 => rL (xM (.pointer (some ⟨v, 0, none⟩)) rfl ?_)
     refine xF (.pointer (some ⟨b23, 0, none⟩)) rfl (l20cfa37_0 _ _ _) (xL _ rfl (run_load1 s9na9 (hv.load 0 0 rfl rfl)) ?_)
     simp only [zP, po]
     refine xF (.pointer (some ⟨b23, 1, none⟩)) rfl (l20cfa37_1 _ _ _) (xL (.agg #[.int .i64 x.kind, .string ⟨x.text.toArray⟩, xp, xt, xz]) rfl (run_load_mid (pre := [.string ⟨key.toArray⟩]) (mid := [.int .i64 x.kind, .string ⟨x.text.toArray⟩, xp, xt, xz]) (post := [.int .i64 ex, .int .i64 kd]) s1wd35 (show Blk _ b23 ([.string ⟨key.toArray⟩] ++ [.int .i64 x.kind, .string ⟨x.text.toArray⟩, xp, xt, xz] ++ [.int .i64 ex, .int .i64 kd]) _ from hv.get 0 rfl) rfl) ?_)
     refine xF (.pointer (some ⟨b23, 6, none⟩)) rfl (l20cfa37_2 _ _ _) ?_
     simp only [zP, po]
     refine xL _ rfl (run_load1 s2na3 (hv.load 0 6 rfl rfl)) ?_
     replace hv := hv.front 2 rfl
     simp only [List.eraseIdx_cons_succ, List.eraseIdx_cons_zero] at hv
     replace hv := hv.front 2 rfl
     simp only [List.eraseIdx_cons_succ, List.eraseIdx_cons_zero] at hv
     refine xC l20ccallable11 rfl ((viewKeep C45 _ _ v t m s p wb va vc sv now es M key x xp xt xz ex (hM.more hC45) (hva.more (hBC.trans hC45)) hv).mono ?_) rfl
     rintro e w108 ⟨D, es2, M2, ec, hD, rfl, hM2, hkp, hv⟩
     refine ⟨_, rfl, ?_⟩
     obtain ⟨hec, hMM⟩ := keep_bad (full_of (.inr hb56)) (fun h9 => by have h8 := h9.2.2.1; have h7 := h9.2.2.2; omega) hkp
     rw [hMM] at hM2
     subst hec
     refine xG (.bool false) rfl (ex_neq rfl rfl rfl (by decide)) ?_
     simp only [zP, po]
     refine wK k107 (cF rfl ?_)
     refine kS (tK k106 ?_)
     refine xE (tX ?_)
     refine bH (tK k21 ?_)
     refine rL (xM (.int .i64 (i : Int)) rfl ?_)
     refine xG (.int .i64 ((i + 1 : Nat) : Int)) rfl (ex_add rfl rfl rfl (by rw [i64_in (by omega)]; omega)) (xA (.int .i64 ((i + 1 : Nat) : Int)) rfl ?_)
     refine wL ?_
     simp only [zP, po]
     refine then_normal ?_
     go_roundw
     case rel => exact ⟨i + 1, _, _, _, _, _, _, _, _, _, _, rfl, ((hBC.trans hC45).trans hD), by omega, ⟨by omega, by omega, hM2.more (Base.Le.refl _), hRK, ⟨hKO.nd, by have := hKO.len; omega, hKO.sh⟩, hRV.more (hC45.trans hD)⟩, ((((hv.front 3 rfl).front 2 rfl).front 2 rfl).sub (List.Sublist.cons_cons _ (List.Sublist.cons_cons _ (List.Sublist.cons_cons _ (List.Sublist.cons _ (List.Sublist.refl _))))))⟩
     case measure => show n - (((i + 1 : Nat) : Int)).toNat < n - ((i : Int)).toNat; omega
    refine xG (.bool false) rfl (ex_lss rfl rfl rfl (decide_eq_false hb105)) (xK false (.bool false) rfl ?_)
    simp only [zP, po]
    refine xM (.bool false) rfl (xF (.pointer (some ⟨b23, 6, none⟩)) rfl (l20cfa37_2 _ _ _) ?_)
    refine xL _ rfl (run_load1 s2na3 (hv.load 0 6 rfl rfl)) ?_
    simp only [zP, po]
    by_cases hb109 : ex > 1099511627776
    ·refine xG (.bool true) rfl (ex_gtr rfl rfl rfl (decide_eq_true hb109)) (xK false (.bool true) rfl ?_)
     refine xK true (.bool true) rfl ?_
     simp only [zP, po]
     refine wK k99 (cT rfl ?_)
     refine sK fun _ k110 => sK fun _ k111 => rL (xM (.pointer (some ⟨v, 0, none⟩)) rfl ?_)
     refine xF (.pointer (some ⟨b23, 0, none⟩)) rfl (l20cfa37_0 _ _ _) (xL _ rfl (run_load1 s9na9 (hv.load 0 0 rfl rfl)) ?_)
     simp only [zP, po]
     refine xF (.pointer (some ⟨b23, 1, none⟩)) rfl (l20cfa37_1 _ _ _) (xL (.agg #[.int .i64 x.kind, .string ⟨x.text.toArray⟩, xp, xt, xz]) rfl (run_load_mid (pre := [.string ⟨key.toArray⟩]) (mid := [.int .i64 x.kind, .string ⟨x.text.toArray⟩, xp, xt, xz]) (post := [.int .i64 ex, .int .i64 kd]) s1wd35 (show Blk _ b23 ([.string ⟨key.toArray⟩] ++ [.int .i64 x.kind, .string ⟨x.text.toArray⟩, xp, xt, xz] ++ [.int .i64 ex, .int .i64 kd]) _ from hv.get 0 rfl) rfl) ?_)
     refine xF (.pointer (some ⟨b23, 6, none⟩)) rfl (l20cfa37_2 _ _ _) ?_
     simp only [zP, po]
     refine xL _ rfl (run_load1 s2na3 (hv.load 0 6 rfl rfl)) ?_
     replace hv := hv.front 2 rfl
     simp only [List.eraseIdx_cons_succ, List.eraseIdx_cons_zero] at hv
     replace hv := hv.front 2 rfl
     simp only [List.eraseIdx_cons_succ, List.eraseIdx_cons_zero] at hv
     refine xC l20ccallable11 rfl ((viewKeep C45 _ _ v t m s p wb va vc sv now es M key x xp xt xz ex (hM.more hC45) (hva.more (hBC.trans hC45)) hv).mono ?_) rfl
     rintro e w112 ⟨D, es2, M2, ec, hD, rfl, hM2, hkp, hv⟩
     refine ⟨_, rfl, ?_⟩
     obtain ⟨hec, hMM⟩ := keep_bad (full_of (.inr hb56)) (fun h9 => by have h8 := h9.2.2.1; have h7 := h9.2.2.2; omega) hkp
     rw [hMM] at hM2
     subst hec
     refine xG (.bool false) rfl (ex_neq rfl rfl rfl (by decide)) ?_
     simp only [zP, po]
     refine wK k111 (cF rfl ?_)
     refine kS (tK k110 ?_)
     refine xE (tX ?_)
     refine bH (tK k21 ?_)
     refine rL (xM (.int .i64 (i : Int)) rfl ?_)
     refine xG (.int .i64 ((i + 1 : Nat) : Int)) rfl (ex_add rfl rfl rfl (by rw [i64_in (by omega)]; omega)) (xA (.int .i64 ((i + 1 : Nat) : Int)) rfl ?_)
     refine wL ?_
     simp only [zP, po]
     refine then_normal ?_
     go_roundw
     case rel => exact ⟨i + 1, _, _, _, _, _, _, _, _, _, _, rfl, ((hBC.trans hC45).trans hD), by omega, ⟨by omega, by omega, hM2.more (Base.Le.refl _), hRK, ⟨hKO.nd, by have := hKO.len; omega, hKO.sh⟩, hRV.more (hC45.trans hD)⟩, ((((hv.front 3 rfl).front 2 rfl).front 2 rfl).sub (List.Sublist.cons_cons _ (List.Sublist.cons_cons _ (List.Sublist.cons_cons _ (List.Sublist.cons _ (List.Sublist.refl _))))))⟩
     case measure => show n - (((i + 1 : Nat) : Int)).toNat < n - ((i : Int)).toNat; omega
    refine xG (.bool false) rfl (ex_gtr rfl rfl rfl (decide_eq_false hb109)) (xK false (.bool false) rfl ?_)
    refine xK true (.bool false) rfl ?_
    simp only [zP, po]
    refine wK k99 (cF rfl ?_)
    refine kS (tK k98 ?_)
    refine sK fun _ k113 => sK fun _ k114 => rL (xM (.pointer (some ⟨v, 0, none⟩)) rfl ?_)
    refine xF (.pointer (some ⟨b23, 0, none⟩)) rfl (l20cfa37_0 _ _ _) (xL _ rfl (run_load1 s9na9 (hv.load 0 0 rfl rfl)) ?_)
    simp only [zP, po]
    refine xF (.pointer (some ⟨b23, 1, none⟩)) rfl (l20cfa37_1 _ _ _) (xL (.agg #[.int .i64 x.kind, .string ⟨x.text.toArray⟩, xp, xt, xz]) rfl (run_load_mid (pre := [.string ⟨key.toArray⟩]) (mid := [.int .i64 x.kind, .string ⟨x.text.toArray⟩, xp, xt, xz]) (post := [.int .i64 ex, .int .i64 kd]) s1wd35 (show Blk _ b23 ([.string ⟨key.toArray⟩] ++ [.int .i64 x.kind, .string ⟨x.text.toArray⟩, xp, xt, xz] ++ [.int .i64 ex, .int .i64 kd]) _ from hv.get 0 rfl) rfl) ?_)
    refine xF (.pointer (some ⟨b23, 6, none⟩)) rfl (l20cfa37_2 _ _ _) ?_
    simp only [zP, po]
    refine xL _ rfl (run_load1 s2na3 (hv.load 0 6 rfl rfl)) ?_
    replace hv := hv.front 2 rfl
    simp only [List.eraseIdx_cons_succ, List.eraseIdx_cons_zero] at hv
    replace hv := hv.front 2 rfl
    simp only [List.eraseIdx_cons_succ, List.eraseIdx_cons_zero] at hv
    refine xC l20ccallable11 rfl ((viewKeep C45 _ _ v t m s p wb va vc sv now es M key x xp xt xz ex (hM.more hC45) (hva.more (hBC.trans hC45)) hv).mono ?_) rfl
    rintro e w115 ⟨D, es2, M2, ec, hD, rfl, hM2, hkp, hv⟩
    refine ⟨_, rfl, ?_⟩
    obtain ⟨hec, hmm⟩ := keep_ok (by omega) (fun _ => ⟨by omega, hbl100.1 rfl, by omega, by omega⟩) hkp
    subst hec
    refine xG (.bool false) rfl (ex_neq rfl rfl rfl (by decide)) ?_
    simp only [zP, po]
    refine wK k114 (cF rfl ?_)
    refine kS (tK k113 ?_)
    refine sK fun _ k116 => rL (xL (.agg #[.slice ka K.length kc, .int .i64 now, .slice wa wl.length wc]) rfl (run_load_mid (pre := []) (mid := [.slice ka K.length kc, .int .i64 now, .slice wa wl.length wc]) (post := []) v2wd31 (show Blk _ b12 ([] ++ [.slice ka K.length kc, .int .i64 now, .slice wa wl.length wc] ++ []) _ from hv.get 3 rfl) rfl) ?_)
    refine xF (.pointer (some ⟨b23, 0, none⟩)) rfl (l20cfa37_0 _ _ _) (xL _ rfl (run_load1 s9na9 (hv.load 2 0 rfl rfl)) ?_)
    simp only [zP, po]
    refine xF (.pointer (some ⟨b23, 1, none⟩)) rfl (l20cfa37_1 _ _ _) (xL (.agg #[.int .i64 x.kind, .string ⟨x.text.toArray⟩, xp, xt, xz]) rfl (run_load_mid (pre := [.string ⟨key.toArray⟩]) (mid := [.int .i64 x.kind, .string ⟨x.text.toArray⟩, xp, xt, xz]) (post := [.int .i64 ex, .int .i64 kd]) s1wd35 (show Blk _ b23 ([.string ⟨key.toArray⟩] ++ [.int .i64 x.kind, .string ⟨x.text.toArray⟩, xp, xt, xz] ++ [.int .i64 ex, .int .i64 kd]) _ from hv.get 2 rfl) rfl) ?_)
    refine xF (.pointer (some ⟨b23, 6, none⟩)) rfl (l20cfa37_2 _ _ _) ?_
    simp only [zP, po]
    refine xL _ rfl (run_load1 s2na3 (hv.load 2 6 rfl rfl)) (xC l20ccallable12 rfl ((refPut20 D _ _ K wl ka wa kc wc xs now (hRV.more (hC45.trans hD)) (by omega) (by omega) (hRK.short hKO) key x xp xt xz ex (hva.more ((hBC.trans hC45).trans hD)) hv).mono ?_) rfl)
    rintro e w117 ⟨E, K2, wl2, ka2, kc2, wa2, wc2, xs2, hE, rfl, hRV2, hK2, hwl2, hv⟩
    refine ⟨_, rfl, ?_⟩
    have hRK2 := rel_step hRK hmm hK2
    have hKO2 := hKO.step (by omega) hmm
    have hKl2 := putK_len hK2
    refine xS 3 rfl hv v2sz31 rfl (by exact ⟨rfl, rfl, rfl, trivial⟩) (fun w118 hv => ?_)
    simp only [zS, zO, sp] at hv
    simp only [zP, po]
    refine wK k116 (sK fun _ k119 => ?_)
    refine rL (xM (.pointer (some ⟨v, 0, none⟩)) rfl ?_)
    refine xF (.pointer (some ⟨b23, 0, none⟩)) rfl (l20cfa37_0 _ _ _) (xL _ rfl (run_load1 s9na9 (hv.load 2 0 rfl rfl)) ?_)
    simp only [zP, po]
    refine xF (.pointer (some ⟨b23, 7, none⟩)) rfl (l20cfa37_3 _ _ _) (xL _ rfl (run_load1 s2na3 (hv.load 2 7 rfl rfl)) ?_)
    replace hv := hv.front 1 rfl
    simp only [List.eraseIdx_cons_succ, List.eraseIdx_cons_zero] at hv
    replace hv := hv.front 1 rfl
    simp only [List.eraseIdx_cons_succ, List.eraseIdx_cons_zero] at hv
    refine xC v6callable13 rfl ((viewOf E _ _ v t m s p wb va vc sv now es2 M2 key kd (hM2.more hE) hv).mono ?_) rfl
    rintro e w120 ⟨G, y, yp, yt, yz, ec2, hG, rfl, hyv, hof, hv⟩
    refine ⟨_, rfl, ?_⟩
    simp only [zP, po]
    refine xM (.tuple #[.agg #[.int .i64 y.stamp, .bool y.gone, .int .i64 y.expire, .int .i64 y.val.kind, .string ⟨y.val.text.toArray⟩, yp, yt, yz], .int .i64 ec2]) rfl (xG (.agg #[.int .i64 y.stamp, .bool y.gone, .int .i64 y.expire, .int .i64 y.val.kind, .string ⟨y.val.text.toArray⟩, yp, yt, yz]) rfl (ex_extract rfl rfl rfl) ?_)
    refine xG (.int .i64 ec2) rfl (ex_extract rfl rfl rfl) ?_
    simp only [zP, po]
    refine sl_alloc tV (wn rfl) rfl hv l20cal45 (fun b121 w122 hv => ?_)
    refine xS 0 rfl hv x0sz45 rfl (by exact ⟨rfl, rfl, rfl, rfl, rfl, hyv.p.one, hyv.t.one, hyv.z.one, trivial⟩) (fun w123 hv => ?_)
    simp only [zO, sp] at hv
    refine xA (.int .i64 ec2) rfl ?_
    simp only [zP, po]
    refine wK k119 (sK fun _ k124 => ?_)
    refine rL (xL (.agg #[.slice ka2 K2.length kc2, .int .i64 now, .slice wa2 wl2.length wc2]) rfl (run_load_mid (pre := []) (mid := [.slice ka2 K2.length kc2, .int .i64 now, .slice wa2 wl2.length wc2]) (post := []) v2wd31 (show Blk _ b12 ([] ++ [.slice ka2 K2.length kc2, .int .i64 now, .slice wa2 wl2.length wc2] ++ []) _ from hv.get 4 rfl) rfl) ?_)
    refine xF (.pointer (some ⟨b23, 0, none⟩)) rfl (l20cfa37_0 _ _ _) (xL _ rfl (run_load1 s9na9 (hv.load 3 0 rfl rfl)) ?_)
    simp only [zP, po]
    refine xC v2callable14 rfl ((refGet20 G _ _ K2 wl2 ka2 wa2 kc2 wc2 xs2 now (hRV2.more hG) (by omega) (by omega) key hv).mono ?_) rfl
    rintro e w125 ⟨k, kp, kt, kz, ok, rfl, hget, hkv, hv⟩
    refine ⟨_, rfl, ?_⟩
    rcases hget with ⟨rfl, hgk, -⟩ | ⟨rfl, -, hgk, -⟩
    ·obtain ⟨hl9, ha9⟩ := hRK2.got hgk
     by_cases hkd : k.val.kind ≠ kd
     ·obtain rfl := of_kind hof hl9 ha9 hkd
      refine xM (.tuple #[.agg #[.string ⟨k.name.toArray⟩, .int .i64 k.val.kind, .string ⟨k.val.text.toArray⟩, kp, kt, kz, .int .i64 k.exp], .bool true]) rfl (xG (.agg #[.string ⟨k.name.toArray⟩, .int .i64 k.val.kind, .string ⟨k.val.text.toArray⟩, kp, kt, kz, .int .i64 k.exp]) rfl (ex_extract rfl rfl rfl) ?_)
      simp only [zP, po]
      refine xG (.bool true) rfl (ex_extract rfl rfl rfl) (sl_alloc tV (wn rfl) rfl hv l20cal49 (fun b126 w127 hv => ?_))
      refine xS 0 rfl hv v2sz49 rfl (by exact ⟨rfl, rfl, rfl, hkv.p.one, hkv.t.one, hkv.z.one, rfl, trivial⟩) (fun w128 hv => ?_)
      simp only [zO, sp] at hv
      simp only [zP, po]
      refine xA (.bool true) rfl ?_
      simp only [zP, po]
      refine wK k124 (sK fun _ k129 => ?_)
      refine sK fun _ k130 => rL (xM (.bool true) rfl ?_)
      refine xG (.bool false) rfl (ex_not rfl rfl rfl) ?_
      simp only [zP, po]
      refine wK k130 (cF rfl ?_)
      refine kS (tK k129 ?_)
      refine sK fun _ k131 => sK fun _ k132 => rL (xF (.pointer (some ⟨b126, 1, none⟩)) rfl (l20cfa49_1 _ _ _) ?_)
      refine xF (.pointer (some ⟨b126, 1, none⟩)) rfl (s12fa35_0 _ _ _) (xL _ rfl (run_load1 s2na3 (hv.load 0 1 rfl rfl)) ?_)
      simp only [zP, po]
      refine xF (.pointer (some ⟨b23, 7, none⟩)) rfl (l20cfa37_3 _ _ _) (xL _ rfl (run_load1 s2na3 (hv.load 4 7 rfl rfl)) ?_)
      refine xG (.bool true) rfl (ex_neq rfl rfl rfl (decide_eq_true hkd)) ?_
      simp only [zP, po]
      refine wK k132 (cT rfl ?_)
      refine sK fun _ k133 => sK fun _ k134 => rL (xM (.int .i64 40) rfl ?_)
      refine xG (.bool false) rfl (ex_neq rfl rfl rfl (by decide)) ?_
      simp only [zP, po]
      refine wK k134 (cF rfl ?_)
      refine kS (tK k133 ?_)
      refine xE (tX ?_)
      refine bH (tK k21 ?_)
      refine rL (xM (.int .i64 (i : Int)) rfl ?_)
      refine xG (.int .i64 ((i + 1 : Nat) : Int)) rfl (ex_add rfl rfl rfl (by rw [i64_in (by omega)]; omega)) (xA (.int .i64 ((i + 1 : Nat) : Int)) rfl ?_)
      refine wL ?_
      simp only [zP, po]
      refine then_normal ?_
      go_roundw
      case rel => exact ⟨i + 1, _, _, _, _, _, _, _, _, _, _, rfl, ((((hBC.trans hC45).trans hD).trans hE).trans hG), by omega, ⟨by omega, by omega, hM2.more (hE.trans hG), hRK2, hKO2, hRV2.more hG⟩, ((((hv.front 5 rfl).front 4 rfl).front 4 rfl).sub (List.Sublist.cons_cons _ (List.Sublist.cons_cons _ (List.Sublist.cons_cons _ (List.Sublist.cons _ (List.Sublist.cons _ (List.Sublist.cons _ (List.Sublist.refl _))))))))⟩
      case measure => show n - (((i + 1 : Nat) : Int)).toNat < n - ((i : Int)).toNat; omega
     obtain ⟨rfl, rfl⟩ := of_same (k := k) hof hl9 ha9 hkd
     refine xM (.tuple #[.agg #[.string ⟨k.name.toArray⟩, .int .i64 k.val.kind, .string ⟨k.val.text.toArray⟩, kp, kt, kz, .int .i64 k.exp], .bool true]) rfl (xG (.agg #[.string ⟨k.name.toArray⟩, .int .i64 k.val.kind, .string ⟨k.val.text.toArray⟩, kp, kt, kz, .int .i64 k.exp]) rfl (ex_extract rfl rfl rfl) ?_)
     simp only [zP, po]
     refine xG (.bool true) rfl (ex_extract rfl rfl rfl) (sl_alloc tV (wn rfl) rfl hv l20cal49 (fun b135 w136 hv => ?_))
     refine xS 0 rfl hv v2sz49 rfl (by exact ⟨rfl, rfl, rfl, hkv.p.one, hkv.t.one, hkv.z.one, rfl, trivial⟩) (fun w137 hv => ?_)
     simp only [zO, sp] at hv
     simp only [zP, po]
     refine xA (.bool true) rfl ?_
     simp only [zP, po]
     refine wK k124 (sK fun _ k138 => ?_)
     refine sK fun _ k139 => rL (xM (.bool true) rfl ?_)
     refine xG (.bool false) rfl (ex_not rfl rfl rfl) ?_
     simp only [zP, po]
     refine wK k139 (cF rfl ?_)
     refine kS (tK k138 ?_)
     refine sK fun _ k140 => sK fun _ k141 => rL (xF (.pointer (some ⟨b135, 1, none⟩)) rfl (l20cfa49_1 _ _ _) ?_)
     refine xF (.pointer (some ⟨b135, 1, none⟩)) rfl (s12fa35_0 _ _ _) (xL _ rfl (run_load1 s2na3 (hv.load 0 1 rfl rfl)) ?_)
     simp only [zP, po]
     refine xF (.pointer (some ⟨b23, 7, none⟩)) rfl (l20cfa37_3 _ _ _) (xL _ rfl (run_load1 s2na3 (hv.load 4 7 rfl rfl)) ?_)
     refine xG (.bool false) rfl (ex_neq rfl rfl rfl (decide_eq_false hkd)) ?_
     simp only [zP, po]
     refine wK k141 (cF rfl ?_)
     refine kS (tK k140 ?_)
     refine sK fun _ k142 => rL (xM (.int .i64 0) rfl ?_)
     refine xG (.bool false) rfl (ex_neq rfl rfl rfl (by decide)) (xM (.bool false) rfl ?_)
     simp only [zP, po]
     refine xF (.pointer (some ⟨b121, 3, none⟩)) rfl (x2fa45_3 _ _ _) (xL (.agg #[.int .i64 ((kver k).val.kind), .string ⟨((kver k).val.text).toArray⟩, yp, yt, yz]) rfl (run_load_mid (pre := [.int .i64 ((kver k).stamp), .bool ((kver k).gone), .int .i64 ((kver k).expire)]) (mid := [.int .i64 ((kver k).val.kind), .string ⟨((kver k).val.text).toArray⟩, yp, yt, yz]) (post := []) s1wd35 (show Blk _ b121 ([.int .i64 ((kver k).stamp), .bool ((kver k).gone), .int .i64 ((kver k).expire)] ++ [.int .i64 ((kver k).val.kind), .string ⟨((kver k).val.text).toArray⟩, yp, yt, yz] ++ []) _ from hv.get 1 rfl) rfl) ?_)
     refine xF (.pointer (some ⟨b135, 1, none⟩)) rfl (l20cfa49_1 _ _ _) ?_
     simp only [zP, po]
     refine xL (.agg #[.int .i64 k.val.kind, .string ⟨k.val.text.toArray⟩, kp, kt, kz]) rfl (run_load_mid (pre := [.string ⟨k.name.toArray⟩]) (mid := [.int .i64 k.val.kind, .string ⟨k.val.text.toArray⟩, kp, kt, kz]) (post := [.int .i64 k.exp]) s1wd35 (show Blk _ b135 ([.string ⟨k.name.toArray⟩] ++ [.int .i64 k.val.kind, .string ⟨k.val.text.toArray⟩, kp, kt, kz] ++ [.int .i64 k.exp]) _ from hv.get 0 rfl) rfl) (xC l20bcallable16 rfl ((refSameV G _ _ k.val yp yt yz kp kt kz (hyv.more (Base.Le.refl _)).rd (hkv.more (Base.Le.refl _)).rd hkv.pm hkv.tm hkv.zm hv).mono ?_) rfl)
     rintro e w143 ⟨rfl, hv⟩
     refine ⟨_, rfl, ?_⟩
     refine xG (.bool false) rfl (ex_not rfl rfl rfl) ?_
     simp only [zP, po]
     refine xK false (.bool false) rfl (xM (.bool false) rfl ?_)
     refine xF (.pointer (some ⟨b121, 2, none⟩)) rfl (s2fa45_2 _ _ _) ?_
     simp only [zP, po]
     refine xL _ rfl (run_load1 s2na3 (hv.load 1 2 rfl rfl)) (xF (.pointer (some ⟨b135, 6, none⟩)) rfl (v2fa49_2 _ _ _) ?_)
     refine xL _ rfl (run_load1 s2na3 (hv.load 0 6 rfl rfl)) ?_
     simp only [zP, po]
     refine xG (.bool false) rfl (ex_neq rfl rfl rfl (decide_eq_false (fun h => h rfl))) (xK false (.bool false) rfl ?_)
     simp only [zP, po]
     refine wK k142 (cF rfl ?_)
     refine kS (bN ?_)
     refine tK k21 (rL ?_)
     refine xM (.int .i64 (i : Int)) rfl (xG (.int .i64 ((i + 1 : Nat) : Int)) rfl (ex_add rfl rfl rfl (by rw [i64_in (by omega)]; omega)) ?_)
     refine xA (.int .i64 ((i + 1 : Nat) : Int)) rfl (wL ?_)
     simp only [zP, po]
     refine then_normal ?_
     go_roundw
     case rel => exact ⟨i + 1, _, _, _, _, _, _, _, _, _, _, rfl, ((((hBC.trans hC45).trans hD).trans hE).trans hG), by omega, ⟨by omega, by omega, hM2.more (hE.trans hG), hRK2, hKO2, hRV2.more hG⟩, ((((hv.front 5 rfl).front 4 rfl).front 4 rfl).sub (List.Sublist.cons_cons _ (List.Sublist.cons_cons _ (List.Sublist.cons_cons _ (List.Sublist.cons _ (List.Sublist.cons _ (List.Sublist.cons _ (List.Sublist.refl _))))))))⟩
     case measure => show n - (((i + 1 : Nat) : Int)).toNat < n - ((i : Int)).toNat; omega
    obtain ⟨rfl, rfl⟩ := of_dead hof (hRK2.dead hgk)
    refine xM (.tuple #[.agg #[.string ⟨k.name.toArray⟩, .int .i64 k.val.kind, .string ⟨k.val.text.toArray⟩, kp, kt, kz, .int .i64 k.exp], .bool false]) rfl (xG (.agg #[.string ⟨k.name.toArray⟩, .int .i64 k.val.kind, .string ⟨k.val.text.toArray⟩, kp, kt, kz, .int .i64 k.exp]) rfl (ex_extract rfl rfl rfl) ?_)
    simp only [zP, po]
    refine xG (.bool false) rfl (ex_extract rfl rfl rfl) (sl_alloc tV (wn rfl) rfl hv l20cal49 (fun b144 w145 hv => ?_))
    refine xS 0 rfl hv v2sz49 rfl (by exact ⟨rfl, rfl, rfl, hkv.p.one, hkv.t.one, hkv.z.one, rfl, trivial⟩) (fun w146 hv => ?_)
    simp only [zO, sp] at hv
    simp only [zP, po]
    refine xA (.bool false) rfl ?_
    simp only [zP, po]
    refine wK k124 (sK fun _ k147 => ?_)
    refine sK fun _ k148 => rL (xM (.bool false) rfl ?_)
    refine xG (.bool true) rfl (ex_not rfl rfl rfl) ?_
    simp only [zP, po]
    refine wK k148 (cT rfl ?_)
    refine sK fun _ k149 => sK fun _ k150 => rL (xM (.int .i64 0) rfl ?_)
    refine xG (.bool false) rfl (ex_neq rfl rfl rfl (by decide)) (xM (.bool false) rfl ?_)
    simp only [zP, po]
    refine xL (.agg #[.int .i64 zver0.stamp, .bool zver0.gone, .int .i64 zver0.expire, .int .i64 zver0.val.kind, .string ⟨zver0.val.text.toArray⟩, yp, yt, yz]) rfl (run_load_mid (pre := []) (mid := [.int .i64 zver0.stamp, .bool zver0.gone, .int .i64 zver0.expire, .int .i64 zver0.val.kind, .string ⟨zver0.val.text.toArray⟩, yp, yt, yz]) (post := []) x0wd45 (show Blk _ b121 ([] ++ [.int .i64 zver0.stamp, .bool zver0.gone, .int .i64 zver0.expire, .int .i64 zver0.val.kind, .string ⟨zver0.val.text.toArray⟩, yp, yt, yz] ++ []) _ from hv.get 1 rfl) rfl) (xG (.agg #[.int .i64 0, .bool false, .int .i64 0, .int .i64 0, .string ⟨([] : List UInt8).toArray⟩, .slice none 0 0, .slice none 0 0, .slice none 0 0]) rfl (ex_buildN (vs := #[]) rfl (by simp only [List.map_toArray, List.map_nil]) (by kernel_rfl)) ?_)
    refine xC l20ccallable15 rfl ((refSame1 G _ _ zver0 yp yt yz _ _ _ (hyv.more (Base.Le.refl _)) (zver0_at _) hv).mono ?_) rfl
    rintro e w151 ⟨rfl, hv⟩
    refine ⟨_, rfl, ?_⟩
    simp only [zP, po]
    refine xG (.bool false) rfl (ex_not rfl rfl rfl) (xK false (.bool false) rfl ?_)
    simp only [zP, po]
    refine wK k150 (cF rfl ?_)
    refine kS (tK k149 ?_)
    refine xE (tX ?_)
    refine bH (tK k21 ?_)
    refine rL (xM (.int .i64 (i : Int)) rfl ?_)
    refine xG (.int .i64 ((i + 1 : Nat) : Int)) rfl (ex_add rfl rfl rfl (by rw [i64_in (by omega)]; omega)) (xA (.int .i64 ((i + 1 : Nat) : Int)) rfl ?_)
    refine wL ?_
    simp only [zP, po]
    refine then_normal ?_
    go_roundw
    case rel => exact ⟨i + 1, _, _, _, _, _, _, _, _, _, _, rfl, ((((hBC.trans hC45).trans hD).trans hE).trans hG), by omega, ⟨by omega, by omega, hM2.more (hE.trans hG), hRK2, hKO2, hRV2.more hG⟩, ((((hv.front 5 rfl).front 4 rfl).front 4 rfl).sub (List.Sublist.cons_cons _ (List.Sublist.cons_cons _ (List.Sublist.cons_cons _ (List.Sublist.cons _ (List.Sublist.cons _ (List.Sublist.cons _ (List.Sublist.refl _))))))))⟩
    case measure => show n - (((i + 1 : Nat) : Int)).toNat < n - ((i : Int)).toNat; omega
   refine xG (.bool false) rfl (ex_neq rfl rfl rfl (decide_eq_false hb54)) (xM (.bool false) rfl ?_)
   refine yP rfl ?_
   simp only [zP, po]
   refine yP rfl (yP rfl ?_)
   refine yP rfl ?_
   simp only [zP, po]
   refine xK false (.bool false) rfl (xA (.bool false) rfl ?_)
   simp only [zP, po]
   refine wK k53 (sK fun _ k152 => ?_)
   refine sK fun _ k153 => rL (xM (.bool false) rfl ?_)
   refine xG (.bool true) rfl (ex_not rfl rfl rfl) (xM (.bool true) rfl ?_)
   simp only [zP, po]
   refine xF (.pointer (some ⟨b23, 1, none⟩)) rfl (l20cfa37_1 _ _ _) (xL (.agg #[.int .i64 x.kind, .string ⟨x.text.toArray⟩, xp, xt, xz]) rfl (run_load_mid (pre := [.string ⟨key.toArray⟩]) (mid := [.int .i64 x.kind, .string ⟨x.text.toArray⟩, xp, xt, xz]) (post := [.int .i64 ex, .int .i64 kd]) s1wd35 (show Blk _ b23 ([.string ⟨key.toArray⟩] ++ [.int .i64 x.kind, .string ⟨x.text.toArray⟩, xp, xt, xz] ++ [.int .i64 ex, .int .i64 kd]) _ from hv.get 0 rfl) rfl) ?_)
   refine xC l20ccallable10 rfl ((refRightV C45 _ _ x xp xt xz (hva.more (hBC.trans hC45)) hv).mono ?_) rfl
   rintro e w155 ⟨bl154, rfl, hbl154, hv⟩
   refine ⟨_, rfl, ?_⟩
   cases bl154
   ·simp only [zP, po]
    refine xG (.bool true) rfl (ex_not rfl rfl rfl) (xM (.bool true) rfl ?_)
    refine yP rfl ?_
    simp only [zP, po]
    refine yP rfl (yP rfl ?_)
    refine xK true (.bool true) rfl ?_
    simp only [zP, po]
    refine xM (.bool true) rfl (yP rfl ?_)
    refine yP rfl ?_
    simp only [zP, po]
    refine yP rfl (xK true (.bool true) rfl ?_)
    refine xK true (.bool true) rfl ?_
    simp only [zP, po]
    refine wK k153 (cT rfl ?_)
    refine sK fun _ k156 => sK fun _ k157 => rL (xM (.pointer (some ⟨v, 0, none⟩)) rfl ?_)
    refine xF (.pointer (some ⟨b23, 0, none⟩)) rfl (l20cfa37_0 _ _ _) (xL _ rfl (run_load1 s9na9 (hv.load 0 0 rfl rfl)) ?_)
    simp only [zP, po]
    refine xF (.pointer (some ⟨b23, 1, none⟩)) rfl (l20cfa37_1 _ _ _) (xL (.agg #[.int .i64 x.kind, .string ⟨x.text.toArray⟩, xp, xt, xz]) rfl (run_load_mid (pre := [.string ⟨key.toArray⟩]) (mid := [.int .i64 x.kind, .string ⟨x.text.toArray⟩, xp, xt, xz]) (post := [.int .i64 ex, .int .i64 kd]) s1wd35 (show Blk _ b23 ([.string ⟨key.toArray⟩] ++ [.int .i64 x.kind, .string ⟨x.text.toArray⟩, xp, xt, xz] ++ [.int .i64 ex, .int .i64 kd]) _ from hv.get 0 rfl) rfl) ?_)
    refine xF (.pointer (some ⟨b23, 6, none⟩)) rfl (l20cfa37_2 _ _ _) ?_
    simp only [zP, po]
    refine xL _ rfl (run_load1 s2na3 (hv.load 0 6 rfl rfl)) ?_
    replace hv := hv.front 2 rfl
    simp only [List.eraseIdx_cons_succ, List.eraseIdx_cons_zero] at hv
    replace hv := hv.front 2 rfl
    simp only [List.eraseIdx_cons_succ, List.eraseIdx_cons_zero] at hv
    refine xC l20ccallable11 rfl ((viewKeep C45 _ _ v t m s p wb va vc sv now es M key x xp xt xz ex (hM.more hC45) (hva.more (hBC.trans hC45)) hv).mono ?_) rfl
    rintro e w158 ⟨D, es2, M2, ec, hD, rfl, hM2, hkp, hv⟩
    refine ⟨_, rfl, ?_⟩
    obtain ⟨hec, hMM⟩ := keep_bad (full_of (.inl hb54)) (fun h9 => absurd (hbl154.2 h9.2.1) (by decide)) hkp
    rw [hMM] at hM2
    subst hec
    refine xG (.bool false) rfl (ex_neq rfl rfl rfl (by decide)) ?_
    simp only [zP, po]
    refine wK k157 (cF rfl ?_)
    refine kS (tK k156 ?_)
    refine xE (tX ?_)
    refine bH (tK k21 ?_)
    refine rL (xM (.int .i64 (i : Int)) rfl ?_)
    refine xG (.int .i64 ((i + 1 : Nat) : Int)) rfl (ex_add rfl rfl rfl (by rw [i64_in (by omega)]; omega)) (xA (.int .i64 ((i + 1 : Nat) : Int)) rfl ?_)
    refine wL ?_
    simp only [zP, po]
    refine then_normal ?_
    go_roundw
    case rel => exact ⟨i + 1, _, _, _, _, _, _, _, _, _, _, rfl, ((hBC.trans hC45).trans hD), by omega, ⟨by omega, by omega, hM2.more (Base.Le.refl _), hRK, ⟨hKO.nd, by have := hKO.len; omega, hKO.sh⟩, hRV.more (hC45.trans hD)⟩, ((((hv.front 3 rfl).front 2 rfl).front 2 rfl).sub (List.Sublist.cons_cons _ (List.Sublist.cons_cons _ (List.Sublist.cons_cons _ (List.Sublist.cons _ (List.Sublist.refl _))))))⟩
    case measure => show n - (((i + 1 : Nat) : Int)).toNat < n - ((i : Int)).toNat; omega
   simp only [zP, po]
   refine xG (.bool false) rfl (ex_not rfl rfl rfl) (xM (.bool false) rfl ?_)
   refine xF (.pointer (some ⟨b23, 6, none⟩)) rfl (l20cfa37_2 _ _ _) ?_
   simp only [zP, po]
   refine xL _ rfl (run_load1 s2na3 (hv.load 0 6 rfl rfl)) ?_
   by_cases hb159 : ex < 0
   ·refine xG (.bool true) rfl (ex_lss rfl rfl rfl (decide_eq_true hb159)) (xK false (.bool true) rfl ?_)
    simp only [zP, po]
    refine xM (.bool true) rfl (yP rfl ?_)
    refine yP rfl ?_
    simp only [zP, po]
    refine yP rfl (xK true (.bool true) rfl ?_)
    refine xK true (.bool true) rfl ?_
    simp only [zP, po]
    refine wK k153 (cT rfl ?_)
    refine sK fun _ k160 => sK fun _ k161 => rL (xM (.pointer (some ⟨v, 0, none⟩)) rfl ?_)
    refine xF (.pointer (some ⟨b23, 0, none⟩)) rfl (l20cfa37_0 _ _ _) (xL _ rfl (run_load1 s9na9 (hv.load 0 0 rfl rfl)) ?_)
    simp only [zP, po]
    refine xF (.pointer (some ⟨b23, 1, none⟩)) rfl (l20cfa37_1 _ _ _) (xL (.agg #[.int .i64 x.kind, .string ⟨x.text.toArray⟩, xp, xt, xz]) rfl (run_load_mid (pre := [.string ⟨key.toArray⟩]) (mid := [.int .i64 x.kind, .string ⟨x.text.toArray⟩, xp, xt, xz]) (post := [.int .i64 ex, .int .i64 kd]) s1wd35 (show Blk _ b23 ([.string ⟨key.toArray⟩] ++ [.int .i64 x.kind, .string ⟨x.text.toArray⟩, xp, xt, xz] ++ [.int .i64 ex, .int .i64 kd]) _ from hv.get 0 rfl) rfl) ?_)
    refine xF (.pointer (some ⟨b23, 6, none⟩)) rfl (l20cfa37_2 _ _ _) ?_
    simp only [zP, po]
    refine xL _ rfl (run_load1 s2na3 (hv.load 0 6 rfl rfl)) ?_
    replace hv := hv.front 2 rfl
    simp only [List.eraseIdx_cons_succ, List.eraseIdx_cons_zero] at hv
    replace hv := hv.front 2 rfl
    simp only [List.eraseIdx_cons_succ, List.eraseIdx_cons_zero] at hv
    refine xC l20ccallable11 rfl ((viewKeep C45 _ _ v t m s p wb va vc sv now es M key x xp xt xz ex (hM.more hC45) (hva.more (hBC.trans hC45)) hv).mono ?_) rfl
    rintro e w162 ⟨D, es2, M2, ec, hD, rfl, hM2, hkp, hv⟩
    refine ⟨_, rfl, ?_⟩
    obtain ⟨hec, hMM⟩ := keep_bad (full_of (.inl hb54)) (fun h9 => by have h8 := h9.2.2.1; have h7 := h9.2.2.2; omega) hkp
    rw [hMM] at hM2
    subst hec
    refine xG (.bool false) rfl (ex_neq rfl rfl rfl (by decide)) ?_
    simp only [zP, po]
    refine wK k161 (cF rfl ?_)
    refine kS (tK k160 ?_)
    refine xE (tX ?_)
    refine bH (tK k21 ?_)
    refine rL (xM (.int .i64 (i : Int)) rfl ?_)
    refine xG (.int .i64 ((i + 1 : Nat) : Int)) rfl (ex_add rfl rfl rfl (by rw [i64_in (by omega)]; omega)) (xA (.int .i64 ((i + 1 : Nat) : Int)) rfl ?_)
    refine wL ?_
    simp only [zP, po]
    refine then_normal ?_
    go_roundw
    case rel => exact ⟨i + 1, _, _, _, _, _, _, _, _, _, _, rfl, ((hBC.trans hC45).trans hD), by omega, ⟨by omega, by omega, hM2.more (Base.Le.refl _), hRK, ⟨hKO.nd, by have := hKO.len; omega, hKO.sh⟩, hRV.more (hC45.trans hD)⟩, ((((hv.front 3 rfl).front 2 rfl).front 2 rfl).sub (List.Sublist.cons_cons _ (List.Sublist.cons_cons _ (List.Sublist.cons_cons _ (List.Sublist.cons _ (List.Sublist.refl _))))))⟩
    case measure => show n - (((i + 1 : Nat) : Int)).toNat < n - ((i : Int)).toNat; omega
   refine xG (.bool false) rfl (ex_lss rfl rfl rfl (decide_eq_false hb159)) (xK false (.bool false) rfl ?_)
   simp only [zP, po]
   refine xM (.bool false) rfl (xF (.pointer (some ⟨b23, 6, none⟩)) rfl (l20cfa37_2 _ _ _) ?_)
   refine xL _ rfl (run_load1 s2na3 (hv.load 0 6 rfl rfl)) ?_
   simp only [zP, po]
   by_cases hb163 : ex > 1099511627776
   ·refine xG (.bool true) rfl (ex_gtr rfl rfl rfl (decide_eq_true hb163)) (xK false (.bool true) rfl ?_)
    refine xK true (.bool true) rfl ?_
    simp only [zP, po]
    refine wK k153 (cT rfl ?_)
    refine sK fun _ k164 => sK fun _ k165 => rL (xM (.pointer (some ⟨v, 0, none⟩)) rfl ?_)
    refine xF (.pointer (some ⟨b23, 0, none⟩)) rfl (l20cfa37_0 _ _ _) (xL _ rfl (run_load1 s9na9 (hv.load 0 0 rfl rfl)) ?_)
    simp only [zP, po]
    refine xF (.pointer (some ⟨b23, 1, none⟩)) rfl (l20cfa37_1 _ _ _) (xL (.agg #[.int .i64 x.kind, .string ⟨x.text.toArray⟩, xp, xt, xz]) rfl (run_load_mid (pre := [.string ⟨key.toArray⟩]) (mid := [.int .i64 x.kind, .string ⟨x.text.toArray⟩, xp, xt, xz]) (post := [.int .i64 ex, .int .i64 kd]) s1wd35 (show Blk _ b23 ([.string ⟨key.toArray⟩] ++ [.int .i64 x.kind, .string ⟨x.text.toArray⟩, xp, xt, xz] ++ [.int .i64 ex, .int .i64 kd]) _ from hv.get 0 rfl) rfl) ?_)
    refine xF (.pointer (some ⟨b23, 6, none⟩)) rfl (l20cfa37_2 _ _ _) ?_
    simp only [zP, po]
    refine xL _ rfl (run_load1 s2na3 (hv.load 0 6 rfl rfl)) ?_
    replace hv := hv.front 2 rfl
    simp only [List.eraseIdx_cons_succ, List.eraseIdx_cons_zero] at hv
    replace hv := hv.front 2 rfl
    simp only [List.eraseIdx_cons_succ, List.eraseIdx_cons_zero] at hv
    refine xC l20ccallable11 rfl ((viewKeep C45 _ _ v t m s p wb va vc sv now es M key x xp xt xz ex (hM.more hC45) (hva.more (hBC.trans hC45)) hv).mono ?_) rfl
    rintro e w166 ⟨D, es2, M2, ec, hD, rfl, hM2, hkp, hv⟩
    refine ⟨_, rfl, ?_⟩
    obtain ⟨hec, hMM⟩ := keep_bad (full_of (.inl hb54)) (fun h9 => by have h8 := h9.2.2.1; have h7 := h9.2.2.2; omega) hkp
    rw [hMM] at hM2
    subst hec
    refine xG (.bool false) rfl (ex_neq rfl rfl rfl (by decide)) ?_
    simp only [zP, po]
    refine wK k165 (cF rfl ?_)
    refine kS (tK k164 ?_)
    refine xE (tX ?_)
    refine bH (tK k21 ?_)
    refine rL (xM (.int .i64 (i : Int)) rfl ?_)
    refine xG (.int .i64 ((i + 1 : Nat) : Int)) rfl (ex_add rfl rfl rfl (by rw [i64_in (by omega)]; omega)) (xA (.int .i64 ((i + 1 : Nat) : Int)) rfl ?_)
    refine wL ?_
    simp only [zP, po]
    refine then_normal ?_
    go_roundw
    case rel => exact ⟨i + 1, _, _, _, _, _, _, _, _, _, _, rfl, ((hBC.trans hC45).trans hD), by omega, ⟨by omega, by omega, hM2.more (Base.Le.refl _), hRK, ⟨hKO.nd, by have := hKO.len; omega, hKO.sh⟩, hRV.more (hC45.trans hD)⟩, ((((hv.front 3 rfl).front 2 rfl).front 2 rfl).sub (List.Sublist.cons_cons _ (List.Sublist.cons_cons _ (List.Sublist.cons_cons _ (List.Sublist.cons _ (List.Sublist.refl _))))))⟩
    case measure => show n - (((i + 1 : Nat) : Int)).toNat < n - ((i : Int)).toNat; omega
   refine xG (.bool false) rfl (ex_gtr rfl rfl rfl (decide_eq_false hb163)) (xK false (.bool false) rfl ?_)
   refine xK true (.bool false) rfl ?_
   simp only [zP, po]
   refine wK k153 (cF rfl ?_)
   refine kS (tK k152 ?_)
   refine sK fun _ k167 => sK fun _ k168 => rL (xM (.pointer (some ⟨v, 0, none⟩)) rfl ?_)
   refine xF (.pointer (some ⟨b23, 0, none⟩)) rfl (l20cfa37_0 _ _ _) (xL _ rfl (run_load1 s9na9 (hv.load 0 0 rfl rfl)) ?_)
   simp only [zP, po]
   refine xF (.pointer (some ⟨b23, 1, none⟩)) rfl (l20cfa37_1 _ _ _) (xL (.agg #[.int .i64 x.kind, .string ⟨x.text.toArray⟩, xp, xt, xz]) rfl (run_load_mid (pre := [.string ⟨key.toArray⟩]) (mid := [.int .i64 x.kind, .string ⟨x.text.toArray⟩, xp, xt, xz]) (post := [.int .i64 ex, .int .i64 kd]) s1wd35 (show Blk _ b23 ([.string ⟨key.toArray⟩] ++ [.int .i64 x.kind, .string ⟨x.text.toArray⟩, xp, xt, xz] ++ [.int .i64 ex, .int .i64 kd]) _ from hv.get 0 rfl) rfl) ?_)
   refine xF (.pointer (some ⟨b23, 6, none⟩)) rfl (l20cfa37_2 _ _ _) ?_
   simp only [zP, po]
   refine xL _ rfl (run_load1 s2na3 (hv.load 0 6 rfl rfl)) ?_
   replace hv := hv.front 2 rfl
   simp only [List.eraseIdx_cons_succ, List.eraseIdx_cons_zero] at hv
   replace hv := hv.front 2 rfl
   simp only [List.eraseIdx_cons_succ, List.eraseIdx_cons_zero] at hv
   refine xC l20ccallable11 rfl ((viewKeep C45 _ _ v t m s p wb va vc sv now es M key x xp xt xz ex (hM.more hC45) (hva.more (hBC.trans hC45)) hv).mono ?_) rfl
   rintro e w169 ⟨D, es2, M2, ec, hD, rfl, hM2, hkp, hv⟩
   refine ⟨_, rfl, ?_⟩
   obtain ⟨hec, hmm⟩ := keep_ok (by omega) (fun _ => ⟨by omega, hbl154.1 rfl, by omega, by omega⟩) hkp
   subst hec
   refine xG (.bool false) rfl (ex_neq rfl rfl rfl (by decide)) ?_
   simp only [zP, po]
   refine wK k168 (cF rfl ?_)
   refine kS (tK k167 ?_)
   refine sK fun _ k170 => rL (xL (.agg #[.slice ka K.length kc, .int .i64 now, .slice wa wl.length wc]) rfl (run_load_mid (pre := []) (mid := [.slice ka K.length kc, .int .i64 now, .slice wa wl.length wc]) (post := []) v2wd31 (show Blk _ b12 ([] ++ [.slice ka K.length kc, .int .i64 now, .slice wa wl.length wc] ++ []) _ from hv.get 3 rfl) rfl) ?_)
   refine xF (.pointer (some ⟨b23, 0, none⟩)) rfl (l20cfa37_0 _ _ _) (xL _ rfl (run_load1 s9na9 (hv.load 2 0 rfl rfl)) ?_)
   simp only [zP, po]
   refine xF (.pointer (some ⟨b23, 1, none⟩)) rfl (l20cfa37_1 _ _ _) (xL (.agg #[.int .i64 x.kind, .string ⟨x.text.toArray⟩, xp, xt, xz]) rfl (run_load_mid (pre := [.string ⟨key.toArray⟩]) (mid := [.int .i64 x.kind, .string ⟨x.text.toArray⟩, xp, xt, xz]) (post := [.int .i64 ex, .int .i64 kd]) s1wd35 (show Blk _ b23 ([.string ⟨key.toArray⟩] ++ [.int .i64 x.kind, .string ⟨x.text.toArray⟩, xp, xt, xz] ++ [.int .i64 ex, .int .i64 kd]) _ from hv.get 2 rfl) rfl) ?_)
   refine xF (.pointer (some ⟨b23, 6, none⟩)) rfl (l20cfa37_2 _ _ _) ?_
   simp only [zP, po]
   refine xL _ rfl (run_load1 s2na3 (hv.load 2 6 rfl rfl)) (xC l20ccallable12 rfl ((refPut20 D _ _ K wl ka wa kc wc xs now (hRV.more (hC45.trans hD)) (by omega) (by omega) (hRK.short hKO) key x xp xt xz ex (hva.more ((hBC.trans hC45).trans hD)) hv).mono ?_) rfl)
   rintro e w171 ⟨E, K2, wl2, ka2, kc2, wa2, wc2, xs2, hE, rfl, hRV2, hK2, hwl2, hv⟩
   refine ⟨_, rfl, ?_⟩
   have hRK2 := rel_step hRK hmm hK2
   have hKO2 := hKO.step (by omega) hmm
   have hKl2 := putK_len hK2
   refine xS 3 rfl hv v2sz31 rfl (by exact ⟨rfl, rfl, rfl, trivial⟩) (fun w172 hv => ?_)
   simp only [zS, zO, sp] at hv
   simp only [zP, po]
   refine wK k170 (sK fun _ k173 => ?_)
   refine rL (xM (.pointer (some ⟨v, 0, none⟩)) rfl ?_)
   refine xF (.pointer (some ⟨b23, 0, none⟩)) rfl (l20cfa37_0 _ _ _) (xL _ rfl (run_load1 s9na9 (hv.load 2 0 rfl rfl)) ?_)
   simp only [zP, po]
   refine xF (.pointer (some ⟨b23, 7, none⟩)) rfl (l20cfa37_3 _ _ _) (xL _ rfl (run_load1 s2na3 (hv.load 2 7 rfl rfl)) ?_)
   replace hv := hv.front 1 rfl
   simp only [List.eraseIdx_cons_succ, List.eraseIdx_cons_zero] at hv
   replace hv := hv.front 1 rfl
   simp only [List.eraseIdx_cons_succ, List.eraseIdx_cons_zero] at hv
   refine xC v6callable13 rfl ((viewOf E _ _ v t m s p wb va vc sv now es2 M2 key kd (hM2.more hE) hv).mono ?_) rfl
   rintro e w174 ⟨G, y, yp, yt, yz, ec2, hG, rfl, hyv, hof, hv⟩
   refine ⟨_, rfl, ?_⟩
   simp only [zP, po]
   refine xM (.tuple #[.agg #[.int .i64 y.stamp, .bool y.gone, .int .i64 y.expire, .int .i64 y.val.kind, .string ⟨y.val.text.toArray⟩, yp, yt, yz], .int .i64 ec2]) rfl (xG (.agg #[.int .i64 y.stamp, .bool y.gone, .int .i64 y.expire, .int .i64 y.val.kind, .string ⟨y.val.text.toArray⟩, yp, yt, yz]) rfl (ex_extract rfl rfl rfl) ?_)
   refine xG (.int .i64 ec2) rfl (ex_extract rfl rfl rfl) ?_
   simp only [zP, po]
   refine sl_alloc tV (wn rfl) rfl hv l20cal45 (fun b175 w176 hv => ?_)
   refine xS 0 rfl hv x0sz45 rfl (by exact ⟨rfl, rfl, rfl, rfl, rfl, hyv.p.one, hyv.t.one, hyv.z.one, trivial⟩) (fun w177 hv => ?_)
   simp only [zO, sp] at hv
   refine xA (.int .i64 ec2) rfl ?_
   simp only [zP, po]
   refine wK k173 (sK fun _ k178 => ?_)
   refine rL (xL (.agg #[.slice ka2 K2.length kc2, .int .i64 now, .slice wa2 wl2.length wc2]) rfl (run_load_mid (pre := []) (mid := [.slice ka2 K2.length kc2, .int .i64 now, .slice wa2 wl2.length wc2]) (post := []) v2wd31 (show Blk _ b12 ([] ++ [.slice ka2 K2.length kc2, .int .i64 now, .slice wa2 wl2.length wc2] ++ []) _ from hv.get 4 rfl) rfl) ?_)
   refine xF (.pointer (some ⟨b23, 0, none⟩)) rfl (l20cfa37_0 _ _ _) (xL _ rfl (run_load1 s9na9 (hv.load 3 0 rfl rfl)) ?_)
   simp only [zP, po]
   refine xC v2callable14 rfl ((refGet20 G _ _ K2 wl2 ka2 wa2 kc2 wc2 xs2 now (hRV2.more hG) (by omega) (by omega) key hv).mono ?_) rfl
   rintro e w179 ⟨k, kp, kt, kz, ok, rfl, hget, hkv, hv⟩
   refine ⟨_, rfl, ?_⟩
   rcases hget with ⟨rfl, hgk, -⟩ | ⟨rfl, -, hgk, -⟩
   ·obtain ⟨hl9, ha9⟩ := hRK2.got hgk
    by_cases hkd : k.val.kind ≠ kd
    ·obtain rfl := of_kind hof hl9 ha9 hkd
     refine xM (.tuple #[.agg #[.string ⟨k.name.toArray⟩, .int .i64 k.val.kind, .string ⟨k.val.text.toArray⟩, kp, kt, kz, .int .i64 k.exp], .bool true]) rfl (xG (.agg #[.string ⟨k.name.toArray⟩, .int .i64 k.val.kind, .string ⟨k.val.text.toArray⟩, kp, kt, kz, .int .i64 k.exp]) rfl (ex_extract rfl rfl rfl) ?_)
     simp only [zP, po]
     refine xG (.bool true) rfl (ex_extract rfl rfl rfl) (sl_alloc tV (wn rfl) rfl hv l20cal49 (fun b180 w181 hv => ?_))
     refine xS 0 rfl hv v2sz49 rfl (by exact ⟨rfl, rfl, rfl, hkv.p.one, hkv.t.one, hkv.z.one, rfl, trivial⟩) (fun w182 hv => ?_)
     simp only [zO, sp] at hv
     simp only [zP, po]
     refine xA (.bool true) rfl ?_
     simp only [zP, po]
     refine wK k178 (sK fun _ k183 => ?_)
     refine sK fun _ k184 => rL (xM (.bool true) rfl ?_)
     refine xG (.bool false) rfl (ex_not rfl rfl rfl) ?_
     simp only [zP, po]
     refine wK k184 (cF rfl ?_)
     refine kS (tK k183 ?_)
     refine sK fun _ k185 => sK fun _ k186 => rL (xF (.pointer (some ⟨b180, 1, none⟩)) rfl (l20cfa49_1 _ _ _) ?_)
     refine xF (.pointer (some ⟨b180, 1, none⟩)) rfl (s12fa35_0 _ _ _) (xL _ rfl (run_load1 s2na3 (hv.load 0 1 rfl rfl)) ?_)
     simp only [zP, po]
     refine xF (.pointer (some ⟨b23, 7, none⟩)) rfl (l20cfa37_3 _ _ _) (xL _ rfl (run_load1 s2na3 (hv.load 4 7 rfl rfl)) ?_)
     refine xG (.bool true) rfl (ex_neq rfl rfl rfl (decide_eq_true hkd)) ?_
     simp only [zP, po]
     refine wK k186 (cT rfl ?_)
     refine sK fun _ k187 => sK fun _ k188 => rL (xM (.int .i64 40) rfl ?_)
     refine xG (.bool false) rfl (ex_neq rfl rfl rfl (by decide)) ?_
     simp only [zP, po]
     refine wK k188 (cF rfl ?_)
     refine kS (tK k187 ?_)
     refine xE (tX ?_)
     refine bH (tK k21 ?_)
     refine rL (xM (.int .i64 (i : Int)) rfl ?_)
     refine xG (.int .i64 ((i + 1 : Nat) : Int)) rfl (ex_add rfl rfl rfl (by rw [i64_in (by omega)]; omega)) (xA (.int .i64 ((i + 1 : Nat) : Int)) rfl ?_)
     refine wL ?_
     simp only [zP, po]
     refine then_normal ?_
     go_roundw
     case rel => exact ⟨i + 1, _, _, _, _, _, _, _, _, _, _, rfl, ((((hBC.trans hC45).trans hD).trans hE).trans hG), by omega, ⟨by omega, by omega, hM2.more (hE.trans hG), hRK2, hKO2, hRV2.more hG⟩, ((((hv.front 5 rfl).front 4 rfl).front 4 rfl).sub (List.Sublist.cons_cons _ (List.Sublist.cons_cons _ (List.Sublist.cons_cons _ (List.Sublist.cons _ (List.Sublist.cons _ (List.Sublist.cons _ (List.Sublist.refl _))))))))⟩
     case measure => show n - (((i + 1 : Nat) : Int)).toNat < n - ((i : Int)).toNat; omega
    obtain ⟨rfl, rfl⟩ := of_same (k := k) hof hl9 ha9 hkd
    refine xM (.tuple #[.agg #[.string ⟨k.name.toArray⟩, .int .i64 k.val.kind, .string ⟨k.val.text.toArray⟩, kp, kt, kz, .int .i64 k.exp], .bool true]) rfl (xG (.agg #[.string ⟨k.name.toArray⟩, .int .i64 k.val.kind, .string ⟨k.val.text.toArray⟩, kp, kt, kz, .int .i64 k.exp]) rfl (ex_extract rfl rfl rfl) ?_)
    simp only [zP, po]
    refine xG (.bool true) rfl (ex_extract rfl rfl rfl) (sl_alloc tV (wn rfl) rfl hv l20cal49 (fun b189 w190 hv => ?_))
    refine xS 0 rfl hv v2sz49 rfl (by exact ⟨rfl, rfl, rfl, hkv.p.one, hkv.t.one, hkv.z.one, rfl, trivial⟩) (fun w191 hv => ?_)
    simp only [zO, sp] at hv
    simp only [zP, po]
    refine xA (.bool true) rfl ?_
    simp only [zP, po]
    refine wK k178 (sK fun _ k192 => ?_)
    refine sK fun _ k193 => rL (xM (.bool true) rfl ?_)
    refine xG (.bool false) rfl (ex_not rfl rfl rfl) ?_
    simp only [zP, po]
    refine wK k193 (cF rfl ?_)
    refine kS (tK k192 ?_)
    refine sK fun _ k194 => sK fun _ k195 => rL (xF (.pointer (some ⟨b189, 1, none⟩)) rfl (l20cfa49_1 _ _ _) ?_)
    refine xF (.pointer (some ⟨b189, 1, none⟩)) rfl (s12fa35_0 _ _ _) (xL _ rfl (run_load1 s2na3 (hv.load 0 1 rfl rfl)) ?_)
    simp only [zP, po]
    refine xF (.pointer (some ⟨b23, 7, none⟩)) rfl (l20cfa37_3 _ _ _) (xL _ rfl (run_load1 s2na3 (hv.load 4 7 rfl rfl)) ?_)
    refine xG (.bool false) rfl (ex_neq rfl rfl rfl (decide_eq_false hkd)) ?_
    simp only [zP, po]
    refine wK k195 (cF rfl ?_)
    refine kS (tK k194 ?_)
    refine sK fun _ k196 => rL (xM (.int .i64 0) rfl ?_)
    refine xG (.bool false) rfl (ex_neq rfl rfl rfl (by decide)) (xM (.bool false) rfl ?_)
    simp only [zP, po]
    refine xF (.pointer (some ⟨b175, 3, none⟩)) rfl (x2fa45_3 _ _ _) (xL (.agg #[.int .i64 ((kver k).val.kind), .string ⟨((kver k).val.text).toArray⟩, yp, yt, yz]) rfl (run_load_mid (pre := [.int .i64 ((kver k).stamp), .bool ((kver k).gone), .int .i64 ((kver k).expire)]) (mid := [.int .i64 ((kver k).val.kind), .string ⟨((kver k).val.text).toArray⟩, yp, yt, yz]) (post := []) s1wd35 (show Blk _ b175 ([.int .i64 ((kver k).stamp), .bool ((kver k).gone), .int .i64 ((kver k).expire)] ++ [.int .i64 ((kver k).val.kind), .string ⟨((kver k).val.text).toArray⟩, yp, yt, yz] ++ []) _ from hv.get 1 rfl) rfl) ?_)
    refine xF (.pointer (some ⟨b189, 1, none⟩)) rfl (l20cfa49_1 _ _ _) ?_
    simp only [zP, po]
    refine xL (.agg #[.int .i64 k.val.kind, .string ⟨k.val.text.toArray⟩, kp, kt, kz]) rfl (run_load_mid (pre := [.string ⟨k.name.toArray⟩]) (mid := [.int .i64 k.val.kind, .string ⟨k.val.text.toArray⟩, kp, kt, kz]) (post := [.int .i64 k.exp]) s1wd35 (show Blk _ b189 ([.string ⟨k.name.toArray⟩] ++ [.int .i64 k.val.kind, .string ⟨k.val.text.toArray⟩, kp, kt, kz] ++ [.int .i64 k.exp]) _ from hv.get 0 rfl) rfl) (xC l20bcallable16 rfl ((refSameV G _ _ k.val yp yt yz kp kt kz (hyv.more (Base.Le.refl _)).rd (hkv.more (Base.Le.refl _)).rd hkv.pm hkv.tm hkv.zm hv).mono ?_) rfl)
    rintro e w197 ⟨rfl, hv⟩
    refine ⟨_, rfl, ?_⟩
    refine xG (.bool false) rfl (ex_not rfl rfl rfl) ?_
    simp only [zP, po]
    refine xK false (.bool false) rfl (xM (.bool false) rfl ?_)
    refine xF (.pointer (some ⟨b175, 2, none⟩)) rfl (s2fa45_2 _ _ _) ?_
    simp only [zP, po]
    refine xL _ rfl (run_load1 s2na3 (hv.load 1 2 rfl rfl)) (xF (.pointer (some ⟨b189, 6, none⟩)) rfl (v2fa49_2 _ _ _) ?_)
    refine xL _ rfl (run_load1 s2na3 (hv.load 0 6 rfl rfl)) ?_
    simp only [zP, po]
    refine xG (.bool false) rfl (ex_neq rfl rfl rfl (decide_eq_false (fun h => h rfl))) (xK false (.bool false) rfl ?_)
    simp only [zP, po]
    refine wK k196 (cF rfl ?_)
    refine kS (bN ?_)
    refine tK k21 (rL ?_)
    refine xM (.int .i64 (i : Int)) rfl (xG (.int .i64 ((i + 1 : Nat) : Int)) rfl (ex_add rfl rfl rfl (by rw [i64_in (by omega)]; omega)) ?_)
    refine xA (.int .i64 ((i + 1 : Nat) : Int)) rfl (wL ?_)
    simp only [zP, po]
    refine then_normal ?_
    go_roundw
    case rel => exact ⟨i + 1, _, _, _, _, _, _, _, _, _, _, rfl, ((((hBC.trans hC45).trans hD).trans hE).trans hG), by omega, ⟨by omega, by omega, hM2.more (hE.trans hG), hRK2, hKO2, hRV2.more hG⟩, ((((hv.front 5 rfl).front 4 rfl).front 4 rfl).sub (List.Sublist.cons_cons _ (List.Sublist.cons_cons _ (List.Sublist.cons_cons _ (List.Sublist.cons _ (List.Sublist.cons _ (List.Sublist.cons _ (List.Sublist.refl _))))))))⟩
    case measure => show n - (((i + 1 : Nat) : Int)).toNat < n - ((i : Int)).toNat; omega
   obtain ⟨rfl, rfl⟩ := of_dead hof (hRK2.dead hgk)
   refine xM (.tuple #[.agg #[.string ⟨k.name.toArray⟩, .int .i64 k.val.kind, .string ⟨k.val.text.toArray⟩, kp, kt, kz, .int .i64 k.exp], .bool false]) rfl (xG (.agg #[.string ⟨k.name.toArray⟩, .int .i64 k.val.kind, .string ⟨k.val.text.toArray⟩, kp, kt, kz, .int .i64 k.exp]) rfl (ex_extract rfl rfl rfl) ?_)
   simp only [zP, po]
   refine xG (.bool false) rfl (ex_extract rfl rfl rfl) (sl_alloc tV (wn rfl) rfl hv l20cal49 (fun b198 w199 hv => ?_))
   refine xS 0 rfl hv v2sz49 rfl (by exact ⟨rfl, rfl, rfl, hkv.p.one, hkv.t.one, hkv.z.one, rfl, trivial⟩) (fun w200 hv => ?_)
   simp only [zO, sp] at hv
   simp only [zP, po]
   refine xA (.bool false) rfl ?_
   simp only [zP, po]
   refine wK k178 (sK fun _ k201 => ?_)
   refine sK fun _ k202 => rL (xM (.bool false) rfl ?_)
   refine xG (.bool true) rfl (ex_not rfl rfl rfl) ?_
   simp only [zP, po]
   refine wK k202 (cT rfl ?_)
   refine sK fun _ k203 => sK fun _ k204 => rL (xM (.int .i64 0) rfl ?_)
   refine xG (.bool false) rfl (ex_neq rfl rfl rfl (by decide)) (xM (.bool false) rfl ?_)
   simp only [zP, po]
   refine xL (.agg #[.int .i64 zver0.stamp, .bool zver0.gone, .int .i64 zver0.expire, .int .i64 zver0.val.kind, .string ⟨zver0.val.text.toArray⟩, yp, yt, yz]) rfl (run_load_mid (pre := []) (mid := [.int .i64 zver0.stamp, .bool zver0.gone, .int .i64 zver0.expire, .int .i64 zver0.val.kind, .string ⟨zver0.val.text.toArray⟩, yp, yt, yz]) (post := []) x0wd45 (show Blk _ b175 ([] ++ [.int .i64 zver0.stamp, .bool zver0.gone, .int .i64 zver0.expire, .int .i64 zver0.val.kind, .string ⟨zver0.val.text.toArray⟩, yp, yt, yz] ++ []) _ from hv.get 1 rfl) rfl) (xG (.agg #[.int .i64 0, .bool false, .int .i64 0, .int .i64 0, .string ⟨([] : List UInt8).toArray⟩, .slice none 0 0, .slice none 0 0, .slice none 0 0]) rfl (ex_buildN (vs := #[]) rfl (by simp only [List.map_toArray, List.map_nil]) (by kernel_rfl)) ?_)
   refine xC l20ccallable15 rfl ((refSame1 G _ _ zver0 yp yt yz _ _ _ (hyv.more (Base.Le.refl _)) (zver0_at _) hv).mono ?_) rfl
   rintro e w205 ⟨rfl, hv⟩
   refine ⟨_, rfl, ?_⟩
   simp only [zP, po]
   refine xG (.bool false) rfl (ex_not rfl rfl rfl) (xK false (.bool false) rfl ?_)
   simp only [zP, po]
   refine wK k204 (cF rfl ?_)
   refine kS (tK k203 ?_)
   refine xE (tX ?_)
   refine bH (tK k21 ?_)
   refine rL (xM (.int .i64 (i : Int)) rfl ?_)
   refine xG (.int .i64 ((i + 1 : Nat) : Int)) rfl (ex_add rfl rfl rfl (by rw [i64_in (by omega)]; omega)) (xA (.int .i64 ((i + 1 : Nat) : Int)) rfl ?_)
   refine wL ?_
   simp only [zP, po]
   refine then_normal ?_
   go_roundw
   case rel => exact ⟨i + 1, _, _, _, _, _, _, _, _, _, _, rfl, ((((hBC.trans hC45).trans hD).trans hE).trans hG), by omega, ⟨by omega, by omega, hM2.more (hE.trans hG), hRK2, hKO2, hRV2.more hG⟩, ((((hv.front 5 rfl).front 4 rfl).front 4 rfl).sub (List.Sublist.cons_cons _ (List.Sublist.cons_cons _ (List.Sublist.cons_cons _ (List.Sublist.cons _ (List.Sublist.cons _ (List.Sublist.cons _ (List.Sublist.refl _))))))))⟩
   case measure => show n - (((i + 1 : Nat) : Int)).toNat < n - ((i : Int)).toNat; omega
  refine xG (.bool false) rfl (ex_lss rfl rfl rfl (decide_eq_false hb20)) ?_
  simp only [zP, po]
  refine wK k19 (cF rfl ?_)
  refine xE (tX ?_)
  refine tX (bH ?_)
  refine tK k15 (sK fun _ k206 => ?_)
  refine rL (xC v6callable17 rfl ((viewNewNil C _ _ hv).mono ?_) rfl)
  rintro e w207 ⟨rfl, hv⟩
  refine ⟨_, rfl, ?_⟩
  refine xM (.tuple #[.pointer none, .int .i64 1]) rfl (xG (.pointer none) rfl (ex_extract rfl rfl rfl) ?_)
  simp only [zP, po]
  refine xG (.int .i64 1) rfl (ex_extract rfl rfl rfl) (xA (.pointer none) rfl ?_)
  refine xA (.int .i64 1) rfl ?_
  simp only [zP, po]
  refine wK k206 (sK fun _ k208 => ?_)
  refine rW mixed [4, 6, 7, 13] [0,1,2,3,5,4,6,7,8,9,10,11,12,14,13,15,16,17,18,19,20,21,22,23,24,25] 200 rfl (by kernel_rfl) hv ?_
  simp only [qm, opAt]
  refine dM (.pointer (some ⟨v, 0, none⟩)) rfl (dG (.pointer (some ⟨v, 0, none⟩)) rfl (ex_nil rfl rfl) ?_)
  refine dG (.pointer (some ⟨v, 0, none⟩)) rfl (ex_field rfl rfl (v1fa61_0 _ _ _)) ?_
  simp only [zP, po]
  refine dL _ rfl (fun hv => ex_load rfl rfl (run_load1 v1na59 (hv.load 0 0 rfl rfl))) (dF (.agg #[.slice ka K.length kc, .int .i64 now, .slice wa wl.length wc]) rfl (fun hv => ex_load rfl rfl (run_load_mid (pre := []) (mid := [.slice ka K.length kc, .int .i64 now, .slice wa wl.length wc]) (post := []) v2wd31 (show Blk _ b12 ([] ++ [.slice ka K.length kc, .int .i64 now, .slice wa wl.length wc] ++ []) _ from hv.get 2 rfl) rfl)) fun f209 hf209 => ?_)
  refine dS rfl fun w210 hv => ?_
  replace hv := hv.front 1 rfl
  simp only [List.eraseIdx_cons_succ, List.eraseIdx_cons_zero] at hv
  refine stepMem_callI l20ccallable178 rfl rfl rfl (r := .pointer (some ⟨t, 0, none⟩)) (fun w => by kernel_rfl) (args := #[]) (by simp only [List.map_toArray, List.map_nil]) ((txnNamesB C _ _ t m s p wb va vc sv now es M (hM.more (Base.Le.refl _)) hKO.sh (by have := hKO.len; omega) hv).mono ?_)
  rintro e w211 ⟨P, na, nc, hP, rfl, hnr, hv⟩
  refine ⟨_, rfl, dV hv (fC (fun ww hv => hf209 ww (ex_load rfl rfl (run_load_mid (pre := []) (mid := [.slice ka K.length kc, .int .i64 now, .slice wa wl.length wc]) (post := []) v2wd31 (show Blk _ b12 ([] ++ [.slice ka K.length kc, .int .i64 now, .slice wa wl.length wc] ++ []) _ from hv.get 2 rfl) rfl))) fN) ?_⟩
  simp only [zP, po]
  refine dS rfl fun w212 hv => mC l20ccallable19 rfl ((refNames20 P _ _ K wl ka wa kc wc xs now (hRV.more hP) (by omega) (by omega) hRK.nodup hv).mono ?_) rfl
  rintro e w213 ⟨Q, ma, mc, hQ, rfl, hmr, hv⟩
  refine ⟨_, rfl, dV hv (fK rfl fN) ?_⟩
  refine dS rfl fun w214 hv => mC s18callable18 rfl ((wordsEq Q _ _ na ma nc mc (hRK.names hKO.nd) (hnr.more hQ (fun _ h => h)) hmr (by have := namesR_le K now; omega) hv).mono ?_) rfl
  rintro e w215 ⟨rfl, hv⟩
  refine ⟨_, rfl, dV hv (fK rfl fN) ?_⟩
  refine dM (.bool true) rfl ?_
  simp only [zP, po]
  refine dM (.pointer (some ⟨v, 0, none⟩)) rfl (dG (.pointer (some ⟨v, 0, none⟩)) rfl (ex_nil rfl rfl) ?_)
  refine dG (.pointer (some ⟨v, 0, none⟩)) rfl (ex_field rfl rfl (v1fa61_0 _ _ _)) ?_
  simp only [zP, po]
  refine dL _ rfl (fun hv => ex_load rfl rfl (run_load1 v1na59 (hv.load 1 0 rfl rfl))) (dM (.int .i64 now) rfl ?_)
  refine dS rfl fun w216 hv => stepMem_callI l20ccallable177 rfl rfl rfl (r := .pointer (some ⟨t, 0, none⟩)) (fun w => by kernel_rfl) (args := #[]) (by simp only [List.map_toArray, List.map_nil]) ((txnClock Q _ _ t m s p wb va vc sv now es hv).mono ?_)
  rintro e w217 ⟨rfl, hv⟩
  refine ⟨_, rfl, dV hv (fK rfl fN) ?_⟩
  simp only [zP, po]
  refine dG (.bool true) rfl (ex_eql rfl rfl rfl (decide_eq_true (rfl))) (dK true (.bool true) rfl ?_)
  refine dM (.bool true) rfl ?_
  simp only [zP, po]
  refine dM (.pointer none) rfl (dG (.bool true) rfl (ex_pisnil Tryz.underlying24 rfl rfl rfl rfl) ?_)
  refine dK true (.bool true) rfl ?_
  simp only [zP, po]
  refine dM (.bool true) rfl (dM (.int .i64 1) rfl ?_)
  refine dG (.bool true) rfl (ex_eql rfl rfl rfl (by decide)) ?_
  simp only [zP, po]
  refine dK true (.bool true) rfl (dA (.bool true) rfl ?_)
  refine dE fun w218 hv => ?_
  simp only [zP, po]
  refine tK k208 (rR ?_)
  refine bR rfl rfl (⟨rfl, ((hv.sub (List.Sublist.cons _ (List.Sublist.cons _ (List.Sublist.cons _ (List.Sublist.refl _)))))).weak ((hBC.trans hP).trans hQ)⟩)
end Go.Proofs.YtkoghbmjbobfjaaGreat
