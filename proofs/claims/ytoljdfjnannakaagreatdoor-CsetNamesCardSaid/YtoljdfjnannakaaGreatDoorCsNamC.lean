/- Copies of values and versions. -/
import Derived.Test.YtoljdfjnannakaaGreatDoorCsNamB
import Derived.Test.YtoljdfjnannakaaGreatDoorRows
set_option maxRecDepth 100000
namespace Go.Proofs.YtoljdfjnannakaaGreatDoor
open Go.RowKit Go.Pm
theorem mixed : Tryz.prog.follows .mixedOrders = true := by kernel_rfl
set_option maxHeartbeats 2000000 in
theorem clonePairs0 (B : Base) (H : List Res) (w : World) (hv : Inv B H w) :
  Calls Tryz.prog 82 #[vN] w fun e w' => e = .returned (vN) ∧ Inv B H w' := by
 refine cW Tryz.func82 rfl Tryz.ntmps82 ?_
 simp only [al]
 refine sK fun _ k1 => rL (xA (vN) rfl ?_)
 simp only [zP, po]
 refine wK k1 (sK fun _ k2 => ?_)
 refine sK fun _ k3 => rL (xM (vN) rfl ?_)
 refine xG (.bool true) rfl (ex_slnil Tryz.underlying75 rfl rfl rfl rfl) ?_
 simp only [zP, po]
 refine wK k3 (cT rfl ?_)
 refine sK fun _ k4 => rL (xA (vN) rfl ?_)
 simp only [zP, po]
 refine wK k4 (rR ?_)
 refine tR (bR rfl rfl ?_)
 exact ⟨rfl, hv⟩
theorem s1mk113 : (Tryz.prog.info? 113).map (fun i => (i.zero, i.size, i.bytes)) = some (some (.agg #[vS [], vS []]), 2, 32) := by kernel_rfl
theorem s1el75 : Elem Tryz.prog 75 113 (.agg #[vS [], vS []]) 2 32 := elem_of Tryz.underlying75 s1mk113 (by rfl) (by decide)
set_option maxHeartbeats 2000000 in
theorem clonePairs1 (B : Base) (H : List Res) (w : World) (a : Addr) (n c : Nat) (xs : List Value) (hok : SliceOk (some a) n c) (hl : xs.length = n * 2) (h1 : ∀ u ∈ xs, u.oneCell' = true) (hn : n ≤ 1000000) (hr : RdV B [] (some a) xs) (hv : Inv B H w) :
  Calls Tryz.prog 82 #[.slice (some a) n c] w fun e w' => ∃ C ad' c', B.Le C ∧ e = .returned (.slice ad' n c') ∧ SliceOk ad' n c' ∧ RdV C [] ad' xs ∧ Inv C H w' := by
 refine cW Tryz.func82 rfl Tryz.ntmps82 ?_
 simp only [al]
 refine sK fun _ k1 => rL (xA (vN) rfl ?_)
 simp only [zP, po]
 refine wK k1 (sK fun _ k2 => ?_)
 refine sK fun _ k3 => rL (xM (.slice (some a) n c) rfl ?_)
 refine xG (.bool false) rfl (ex_slnil Tryz.underlying75 rfl rfl rfl rfl) ?_
 simp only [zP, po]
 refine wK k3 (cF rfl ?_)
 refine kS (tK k2 ?_)
 refine sK fun _ k4 => rL (sl_row0 (size := 2) tV (wn rfl) rfl hv (e := 113) (fun w => by kernel_rfl) (fun b5 w6 hv => ?_))
 refine xM (.slice (some a) n c) rfl (sl_append (news := xs) tV (wn rfl) rfl rfl rfl s1el75 hv hok hl ((hr.more (Base.Le.refl _) (fun _ h => by cases h)).src hv) (h1) (by unfold maxLen; omega) (by omega) (fun rv7 w10 hv => ?_))
 obtain ⟨ra8, rc9, rfl⟩ := row_slice hv.head
 simp only [zP, po]
 refine xA (.slice ra8 (0 + n) rc9) rfl ?_
 simp only [zP, po]
 refine wK k4 (rR ?_)
 refine bR rfl rfl ?_
 obtain ⟨C, hB, hv2, hr2, hok2, -⟩ := hv.rowBy
 rw [Nat.zero_add] at hok2 ⊢
 rw [List.nil_append] at hr2
 exact ⟨C, _, _, hB, rfl, hok2, hr2, hv2⟩
theorem clonePairs (B : Base) (H : List Res) (w : World) (v : Value) (n : Nat) (xs : List Value) (h : RowB B v n xs) (hl : xs.length = n * 2) (h1 : ∀ u ∈ xs, u.oneCell' = true) (hn : n ≤ 1000000) (hv : Inv B H w) :
  Calls Tryz.prog 82 #[v] w fun e w' => ∃ C v', B.Le C ∧ e = .returned v' ∧ RowB C v' n xs ∧ Inv C H w' := by
 obtain ⟨ad, c, rfl, hok, hr⟩ := h
 cases ad with
 | none =>
  have hc0 : c = 0 := hok.nil rfl
  have hn0 : n = 0 := by have := hok.le; omega
  subst hc0 hn0
  refine (clonePairs0 B H w hv).mono ?_
  rintro e w' ⟨rfl, hv⟩
  exact ⟨B, _, Base.Le.refl _, rfl, ⟨none, 0, rfl, hok, hr⟩, hv⟩
 | some a =>
  refine (clonePairs1 B H w a n c xs hok hl h1 hn hr hv).mono ?_
  rintro e w' ⟨C, ad', c', hB, rfl, hok', hr', hv'⟩
  exact ⟨C, _, hB, rfl, ⟨ad', c', rfl, hok', hr'⟩, hv'⟩
set_option maxHeartbeats 2000000 in
theorem cloneTexts0 (B : Base) (H : List Res) (w : World) (hv : Inv B H w) :
  Calls Tryz.prog 83 #[vN] w fun e w' => e = .returned (vN) ∧ Inv B H w' := by
 refine cW Tryz.func83 rfl Tryz.ntmps83 ?_
 simp only [al]
 refine sK fun _ k1 => rL (xA (vN) rfl ?_)
 simp only [zP, po]
 refine wK k1 (sK fun _ k2 => ?_)
 refine sK fun _ k3 => rL (xM (vN) rfl ?_)
 refine xG (.bool true) rfl (ex_slnil Tryz.underlying22 rfl rfl rfl rfl) ?_
 simp only [zP, po]
 refine wK k3 (cT rfl ?_)
 refine sK fun _ k4 => rL (xA (vN) rfl ?_)
 simp only [zP, po]
 refine wK k4 (rR ?_)
 refine tR (bR rfl rfl ?_)
 exact ⟨rfl, hv⟩
theorem s1mk9 : (Tryz.prog.info? 9).map (fun i => (i.zero, i.size, i.bytes)) = some (some (vS []), 1, 16) := by kernel_rfl
theorem s1el22 : Elem Tryz.prog 22 9 (vS []) 1 16 := elem_of Tryz.underlying22 s1mk9 (by rfl) (by decide)
set_option maxHeartbeats 2000000 in
theorem cloneTexts1 (B : Base) (H : List Res) (w : World) (a : Addr) (n c : Nat) (xs : List Value) (hok : SliceOk (some a) n c) (hl : xs.length = n * 1) (h1 : ∀ u ∈ xs, u.oneCell' = true) (hn : n ≤ 1000000) (hr : RdV B [] (some a) xs) (hv : Inv B H w) :
  Calls Tryz.prog 83 #[.slice (some a) n c] w fun e w' => ∃ C ad' c', B.Le C ∧ e = .returned (.slice ad' n c') ∧ SliceOk ad' n c' ∧ RdV C [] ad' xs ∧ Inv C H w' := by
 refine cW Tryz.func83 rfl Tryz.ntmps83 ?_
 simp only [al]
 refine sK fun _ k1 => rL (xA (vN) rfl ?_)
 simp only [zP, po]
 refine wK k1 (sK fun _ k2 => ?_)
 refine sK fun _ k3 => rL (xM (.slice (some a) n c) rfl ?_)
 refine xG (.bool false) rfl (ex_slnil Tryz.underlying22 rfl rfl rfl rfl) ?_
 simp only [zP, po]
 refine wK k3 (cF rfl ?_)
 refine kS (tK k2 ?_)
 refine sK fun _ k4 => rL (sl_row0 (size := 1) tV (wn rfl) rfl hv (e := 9) (fun w => by kernel_rfl) (fun b5 w6 hv => ?_))
 refine xM (.slice (some a) n c) rfl (sl_append (news := xs) tV (wn rfl) rfl rfl rfl s1el22 hv hok hl ((hr.more (Base.Le.refl _) (fun _ h => by cases h)).src hv) (h1) (by unfold maxLen; omega) (by omega) (fun rv7 w10 hv => ?_))
 obtain ⟨ra8, rc9, rfl⟩ := row_slice hv.head
 simp only [zP, po]
 refine xA (.slice ra8 (0 + n) rc9) rfl ?_
 simp only [zP, po]
 refine wK k4 (rR ?_)
 refine bR rfl rfl ?_
 obtain ⟨C, hB, hv2, hr2, hok2, -⟩ := hv.rowBy
 rw [Nat.zero_add] at hok2 ⊢
 rw [List.nil_append] at hr2
 exact ⟨C, _, _, hB, rfl, hok2, hr2, hv2⟩
theorem cloneTexts (B : Base) (H : List Res) (w : World) (v : Value) (n : Nat) (xs : List Value) (h : RowB B v n xs) (hl : xs.length = n * 1) (h1 : ∀ u ∈ xs, u.oneCell' = true) (hn : n ≤ 1000000) (hv : Inv B H w) :
  Calls Tryz.prog 83 #[v] w fun e w' => ∃ C v', B.Le C ∧ e = .returned v' ∧ RowB C v' n xs ∧ Inv C H w' := by
 obtain ⟨ad, c, rfl, hok, hr⟩ := h
 cases ad with
 | none =>
  have hc0 : c = 0 := hok.nil rfl
  have hn0 : n = 0 := by have := hok.le; omega
  subst hc0 hn0
  refine (cloneTexts0 B H w hv).mono ?_
  rintro e w' ⟨rfl, hv⟩
  exact ⟨B, _, Base.Le.refl _, rfl, ⟨none, 0, rfl, hok, hr⟩, hv⟩
 | some a =>
  refine (cloneTexts1 B H w a n c xs hok hl h1 hn hr hv).mono ?_
  rintro e w' ⟨C, ad', c', hB, rfl, hok', hr', hv'⟩
  exact ⟨C, _, hB, rfl, ⟨ad', c', rfl, hok', hr'⟩, hv'⟩
set_option maxHeartbeats 2000000 in
theorem cloneMems0 (B : Base) (H : List Res) (w : World) (hv : Inv B H w) :
  Calls Tryz.prog 84 #[vN] w fun e w' => e = .returned (vN) ∧ Inv B H w' := by
 refine cW Tryz.func84 rfl Tryz.ntmps84 ?_
 simp only [al]
 refine sK fun _ k1 => rL (xA (vN) rfl ?_)
 simp only [zP, po]
 refine wK k1 (sK fun _ k2 => ?_)
 refine sK fun _ k3 => rL (xM (vN) rfl ?_)
 refine xG (.bool true) rfl (ex_slnil Tryz.underlying76 rfl rfl rfl rfl) ?_
 simp only [zP, po]
 refine wK k3 (cT rfl ?_)
 refine sK fun _ k4 => rL (xA (vN) rfl ?_)
 simp only [zP, po]
 refine wK k4 (rR ?_)
 refine tR (bR rfl rfl ?_)
 exact ⟨rfl, hv⟩
theorem s1mk115 : (Tryz.prog.info? 115).map (fun i => (i.zero, i.size, i.bytes)) = some (some (.agg #[vI 0, vS []]), 2, 24) := by kernel_rfl
theorem s1el76 : Elem Tryz.prog 76 115 (.agg #[vI 0, vS []]) 2 24 := elem_of Tryz.underlying76 s1mk115 (by rfl) (by decide)
set_option maxHeartbeats 2000000 in
theorem cloneMems1 (B : Base) (H : List Res) (w : World) (a : Addr) (n c : Nat) (xs : List Value) (hok : SliceOk (some a) n c) (hl : xs.length = n * 2) (h1 : ∀ u ∈ xs, u.oneCell' = true) (hn : n ≤ 1000000) (hr : RdV B [] (some a) xs) (hv : Inv B H w) :
  Calls Tryz.prog 84 #[.slice (some a) n c] w fun e w' => ∃ C ad' c', B.Le C ∧ e = .returned (.slice ad' n c') ∧ SliceOk ad' n c' ∧ RdV C [] ad' xs ∧ Inv C H w' := by
 refine cW Tryz.func84 rfl Tryz.ntmps84 ?_
 simp only [al]
 refine sK fun _ k1 => rL (xA (vN) rfl ?_)
 simp only [zP, po]
 refine wK k1 (sK fun _ k2 => ?_)
 refine sK fun _ k3 => rL (xM (.slice (some a) n c) rfl ?_)
 refine xG (.bool false) rfl (ex_slnil Tryz.underlying76 rfl rfl rfl rfl) ?_
 simp only [zP, po]
 refine wK k3 (cF rfl ?_)
 refine kS (tK k2 ?_)
 refine sK fun _ k4 => rL (sl_row0 (size := 2) tV (wn rfl) rfl hv (e := 115) (fun w => by kernel_rfl) (fun b5 w6 hv => ?_))
 refine xM (.slice (some a) n c) rfl (sl_append (news := xs) tV (wn rfl) rfl rfl rfl s1el76 hv hok hl ((hr.more (Base.Le.refl _) (fun _ h => by cases h)).src hv) (h1) (by unfold maxLen; omega) (by omega) (fun rv7 w10 hv => ?_))
 obtain ⟨ra8, rc9, rfl⟩ := row_slice hv.head
 simp only [zP, po]
 refine xA (.slice ra8 (0 + n) rc9) rfl ?_
 simp only [zP, po]
 refine wK k4 (rR ?_)
 refine bR rfl rfl ?_
 obtain ⟨C, hB, hv2, hr2, hok2, -⟩ := hv.rowBy
 rw [Nat.zero_add] at hok2 ⊢
 rw [List.nil_append] at hr2
 exact ⟨C, _, _, hB, rfl, hok2, hr2, hv2⟩
theorem cloneMems (B : Base) (H : List Res) (w : World) (v : Value) (n : Nat) (xs : List Value) (h : RowB B v n xs) (hl : xs.length = n * 2) (h1 : ∀ u ∈ xs, u.oneCell' = true) (hn : n ≤ 1000000) (hv : Inv B H w) :
  Calls Tryz.prog 84 #[v] w fun e w' => ∃ C v', B.Le C ∧ e = .returned v' ∧ RowB C v' n xs ∧ Inv C H w' := by
 obtain ⟨ad, c, rfl, hok, hr⟩ := h
 cases ad with
 | none =>
  have hc0 : c = 0 := hok.nil rfl
  have hn0 : n = 0 := by have := hok.le; omega
  subst hc0 hn0
  refine (cloneMems0 B H w hv).mono ?_
  rintro e w' ⟨rfl, hv⟩
  exact ⟨B, _, Base.Le.refl _, rfl, ⟨none, 0, rfl, hok, hr⟩, hv⟩
 | some a =>
  refine (cloneMems1 B H w a n c xs hok hl h1 hn hr hv).mono ?_
  rintro e w' ⟨C, ad', c', hB, rfl, hok', hr', hv'⟩
  exact ⟨C, _, hB, rfl, ⟨ad', c', rfl, hok', hr'⟩, hv'⟩
theorem s1al78 (w : World) : (Instr.alloc 78 true (.tuple #[])).run Tryz.prog w = .ok (.pointer (some ⟨w.heap.size, 0, none⟩)) (w.alloc (.cells ([vI 0, vS [], vN, vN, vN] : List Value).toArray 78)) := by kernel_rfl
theorem s1fa78_2 (w : World) (b o : Nat) : (Instr.fieldAt 78 (.pointer (some ⟨b, o, none⟩)) 2).run Tryz.prog w = .ok (.pointer (some ⟨b, o + 2, none⟩)) w := by kernel_rfl
theorem s1na75 (w : World) : (isAgg 75).run Tryz.prog w = .ok false w := by kernel_rfl
theorem s1callable82 : Callable Tryz.prog 82 := ⟨_, Tryz.func82, by kernel_rfl, by kernel_rfl⟩
theorem s1sz75 : (Tryz.prog.info? 75).map (·.size) = some 1 := by kernel_rfl
theorem s1fa78_3 (w : World) (b o : Nat) : (Instr.fieldAt 78 (.pointer (some ⟨b, o, none⟩)) 3).run Tryz.prog w = .ok (.pointer (some ⟨b, o + 3, none⟩)) w := by kernel_rfl
theorem s1na22 (w : World) : (isAgg 22).run Tryz.prog w = .ok false w := by kernel_rfl
theorem s1callable83 : Callable Tryz.prog 83 := ⟨_, Tryz.func83, by kernel_rfl, by kernel_rfl⟩
theorem s1sz22 : (Tryz.prog.info? 22).map (·.size) = some 1 := by kernel_rfl
theorem s1fa78_4 (w : World) (b o : Nat) : (Instr.fieldAt 78 (.pointer (some ⟨b, o, none⟩)) 4).run Tryz.prog w = .ok (.pointer (some ⟨b, o + 4, none⟩)) w := by kernel_rfl
theorem s1na76 (w : World) : (isAgg 76).run Tryz.prog w = .ok false w := by kernel_rfl
theorem s1callable84 : Callable Tryz.prog 84 := ⟨_, Tryz.func84, by kernel_rfl, by kernel_rfl⟩
theorem s1sz76 : (Tryz.prog.info? 76).map (·.size) = some 1 := by kernel_rfl
theorem s1wd78 : Wide Tryz.prog 78 5 := wide_of (fun w => by kernel_rfl) (by kernel_rfl)
theorem s1sz78 : (Tryz.prog.info? 78).map (·.size) = some 5 := by kernel_rfl
set_option maxHeartbeats 2000000 in
theorem valueClone (B : Base) (H : List Res) (w : World) (v : Val) (p t z : Value) (h : ValAt B v p t z) (hv : Inv B H w) :
  Calls Tryz.prog 55 #[.agg #[vI v.kind, vS v.text, p, t, z]] w fun e w' => ∃ C p' t' z', B.Le C ∧ e = .returned (.agg #[vI v.kind, vS v.text, p', t', z']) ∧ ValAt C v p' t' z' ∧ Inv C H w' := by
 refine cW Tryz.func55 rfl Tryz.ntmps55 ?_
 simp only [al]
 refine sK fun _ k1 => rL (sl_box (L := [vI v.kind, vS v.text, p, t, z]) tV (wn rfl) rfl rfl hv (fun w => by kernel_rfl) (fun b2 w3 hv => ?_))
 refine sl_alloc tV (wn rfl) rfl hv s1al78 (fun b4 w5 hv => ?_)
 simp only [zP, po]
 refine wK k1 (sK fun _ k6 => ?_)
 refine rL (xF (.pointer (some ⟨b2, 2, none⟩)) rfl (s1fa78_2 _ _ _) ?_)
 refine xL _ rfl (run_load1 s1na75 (hv.load 1 2 rfl rfl)) (xC s1callable82 rfl ((clonePairs _ _ _ p _ _ (h.p.more (Base.Le.refl _)) (pairCells_len _) (pairCells_one _) h.pm hv).mono ?_) rfl)
 rintro e w9 ⟨C7, q8, hC7, rfl, hq8, hv⟩
 refine ⟨_, rfl, ?_⟩
 simp only [zP, po]
 refine xF (.pointer (some ⟨b2, 2, none⟩)) rfl (s1fa78_2 _ _ _) (xV 1 q8 rfl hv s1sz75 hq8.cells hq8.one (fun w10 hv => ?_))
 simp only [zS, zO, sp] at hv
 simp only [zP, po]
 refine wK k6 (sK fun _ k11 => ?_)
 refine rL (xF (.pointer (some ⟨b2, 3, none⟩)) rfl (s1fa78_3 _ _ _) ?_)
 refine xL _ rfl (run_load1 s1na22 (hv.load 1 3 rfl rfl)) (xC s1callable83 rfl ((cloneTexts _ _ _ t _ _ (h.t.more hC7) (textCells_len _) (textCells_one _) h.tm hv).mono ?_) rfl)
 rintro e w14 ⟨C12, q13, hC12, rfl, hq13, hv⟩
 refine ⟨_, rfl, ?_⟩
 simp only [zP, po]
 refine xF (.pointer (some ⟨b2, 3, none⟩)) rfl (s1fa78_3 _ _ _) (xV 1 q13 rfl hv s1sz22 hq13.cells hq13.one (fun w15 hv => ?_))
 simp only [zS, zO, sp] at hv
 simp only [zP, po]
 refine wK k11 (sK fun _ k16 => ?_)
 refine rL (xF (.pointer (some ⟨b2, 4, none⟩)) rfl (s1fa78_4 _ _ _) ?_)
 refine xL _ rfl (run_load1 s1na76 (hv.load 1 4 rfl rfl)) (xC s1callable84 rfl ((cloneMems _ _ _ z _ _ (h.z.more (hC7.trans hC12)) (memCells_len _) (memCells_one _) h.zm hv).mono ?_) rfl)
 rintro e w19 ⟨C17, q18, hC17, rfl, hq18, hv⟩
 refine ⟨_, rfl, ?_⟩
 simp only [zP, po]
 refine xF (.pointer (some ⟨b2, 4, none⟩)) rfl (s1fa78_4 _ _ _) (xV 1 q18 rfl hv s1sz76 hq18.cells hq18.one (fun w20 hv => ?_))
 simp only [zS, zO, sp] at hv
 simp only [zP, po]
 refine wK k16 (sK fun _ k21 => ?_)
 refine rL (xL (.agg #[vI v.kind, vS v.text, q8, q13, q18]) rfl (lM 1 s1wd78 hv rfl rfl rfl rfl) ?_)
 refine xS 0 rfl hv s1sz78 rfl (by exact ⟨rfl, rfl, hq8.one, hq13.one, hq18.one, trivial⟩) (fun w22 hv => ?_)
 simp only [zO, sp] at hv
 simp only [zP, po]
 refine wK k21 (rR ?_)
 refine bC 0 s1wd78 hv rfl rfl rfl rfl (⟨_, q8, q13, q18, ((hC7.trans hC12).trans hC17), rfl, ⟨hq8.more (hC12.trans hC17), hq13.more hC17, hq18.more (Base.Le.refl _), h.pm, h.tm, h.zm⟩, (hv.kp [] 0 2)⟩)
end Go.Proofs.YtoljdfjnannakaaGreatDoor
/- sort.Search over a function value; chain.upto, chain.At, chain.Alive. -/
namespace Go.Proofs.YtoljdfjnannakaaGreatDoor
open Go.RowKit Go.Pm
theorem shr1 (m : Nat) : ((m : Int)).fdiv (2 ^ (min (1 : Int).toNat IntKind.u64.bits)) = ((m / 2 : Nat) : Int) := by
 show ((m : Int)).fdiv (2 ^ 1) = _
 rw [Int.fdiv_eq_ediv_of_nonneg _ (by decide)]; omega
def aliveB (v : Ver) (clock : Int) : Bool := !v.gone && (decide (v.expire = 0) || decide (clock < v.expire))
theorem s2na3 (w : World) : (isAgg 3).run Tryz.prog w = .ok false w := by kernel_rfl
theorem s2fa85_1 (w : World) (b o : Nat) : (Instr.fieldAt 85 (.pointer (some ⟨b, o, none⟩)) 1).run Tryz.prog w = .ok (.pointer (some ⟨b, o + 1, none⟩)) w := by kernel_rfl
theorem s2na4 (w : World) : (isAgg 4).run Tryz.prog w = .ok false w := by kernel_rfl
set_option maxHeartbeats 2000000 in
theorem alive0 (B : Base) (H : List Res) (w : World) (v : Ver) (p t z : Value) (clock : Int) (hg : v.gone = true) (hv : Inv B H w) :
  Calls Tryz.prog 188 #[.agg #[vI v.stamp, .bool true, vI v.expire, vI v.val.kind, vS v.val.text, p, t, z], vI clock] w fun e w' => e = .returned (.bool (aliveB v clock)) ∧ Inv B H w' := by
 refine cW Tryz.func188 rfl Tryz.ntmps188 ?_
 simp only [al]
 refine sK fun _ k1 => rL (sl_box (L := [vI v.stamp, .bool true, vI v.expire, vI v.val.kind, vS v.val.text, p, t, z]) tV (wn rfl) rfl rfl hv (fun w => by kernel_rfl) (fun b2 w3 hv => ?_))
 refine xA (.bool false) rfl ?_
 simp only [zP, po]
 refine wK k1 (sK fun _ k4 => ?_)
 refine rL (xF (.pointer (some ⟨b2, 1, none⟩)) rfl (s2fa85_1 _ _ _) ?_)
 refine xL _ rfl (run_load1 s2na4 (hv.load 0 1 rfl rfl)) (xG (.bool false) rfl (ex_not rfl rfl rfl) ?_)
 simp only [zP, po]
 refine xM (.bool false) rfl ?_
 iterate 9 refine yN rfl ?_
 refine xK false (.bool false) rfl (xA (.bool false) rfl ?_)
 simp only [zP, po]
 refine wK k4 (rR ?_)
 refine bR rfl rfl (⟨congrArg (fun b => Ending.returned (Value.bool b)) (show false = aliveB v clock from by simp [aliveB, *]), (hv.kp [] 0 1)⟩)
theorem s2fa85_2 (w : World) (b o : Nat) : (Instr.fieldAt 85 (.pointer (some ⟨b, o, none⟩)) 2).run Tryz.prog w = .ok (.pointer (some ⟨b, o + 2, none⟩)) w := by kernel_rfl
set_option maxHeartbeats 2000000 in
theorem alive1 (B : Base) (H : List Res) (w : World) (v : Ver) (p t z : Value) (clock : Int) (hg : v.gone = false) (hv : Inv B H w) :
  Calls Tryz.prog 188 #[.agg #[vI v.stamp, .bool false, vI v.expire, vI v.val.kind, vS v.val.text, p, t, z], vI clock] w fun e w' => e = .returned (.bool (aliveB v clock)) ∧ Inv B H w' := by
 refine cW Tryz.func188 rfl Tryz.ntmps188 ?_
 simp only [al]
 refine sK fun _ k1 => rL (sl_box (L := [vI v.stamp, .bool false, vI v.expire, vI v.val.kind, vS v.val.text, p, t, z]) tV (wn rfl) rfl rfl hv (fun w => by kernel_rfl) (fun b2 w3 hv => ?_))
 refine xA (.bool false) rfl ?_
 simp only [zP, po]
 refine wK k1 (sK fun _ k4 => ?_)
 refine rL (xF (.pointer (some ⟨b2, 1, none⟩)) rfl (s2fa85_1 _ _ _) ?_)
 refine xL _ rfl (run_load1 s2na4 (hv.load 0 1 rfl rfl)) (xG (.bool true) rfl (ex_not rfl rfl rfl) ?_)
 simp only [zP, po]
 refine xM (.bool true) rfl (xF (.pointer (some ⟨b2, 2, none⟩)) rfl (s2fa85_2 _ _ _) ?_)
 refine xL _ rfl (run_load1 s2na3 (hv.load 0 2 rfl rfl)) ?_
 simp only [zP, po]
 by_cases hb5 : v.expire = 0
 ·refine xG (.bool true) rfl (ex_eql rfl rfl rfl (qT hb5)) (xM (.bool true) rfl ?_)
  iterate 4 refine yN rfl ?_
  refine xK true (.bool true) rfl ?_
  simp only [zP, po]
  refine xK true (.bool true) rfl (xA (.bool true) rfl ?_)
  simp only [zP, po]
  refine wK k4 (rR ?_)
  refine bR rfl rfl (⟨congrArg (fun b => Ending.returned (Value.bool b)) (show true = aliveB v clock from by simp [aliveB, *]), (hv.kp [] 0 1)⟩)
 refine xG (.bool false) rfl (ex_eql rfl rfl rfl (qF hb5)) (xM (.bool false) rfl ?_)
 refine xF (.pointer (some ⟨b2, 2, none⟩)) rfl (s2fa85_2 _ _ _) ?_
 simp only [zP, po]
 refine xL _ rfl (run_load1 s2na3 (hv.load 0 2 rfl rfl)) (xM (vI clock) rfl ?_)
 by_cases hb6 : v.expire > clock
 ·refine xG (.bool true) rfl (ex_gtr rfl rfl rfl (qT hb6)) ?_
  simp only [zP, po]
  refine xK false (.bool true) rfl (xK true (.bool true) rfl ?_)
  refine xA (.bool true) rfl ?_
  simp only [zP, po]
  refine wK k4 (rR ?_)
  refine bR rfl rfl (⟨congrArg (fun b => Ending.returned (Value.bool b)) (show true = aliveB v clock from by simp [aliveB, *]), (hv.kp [] 0 1)⟩)
 refine xG (.bool false) rfl (ex_gtr rfl rfl rfl (qF hb6)) ?_
 simp only [zP, po]
 refine xK false (.bool false) rfl (xK true (.bool false) rfl ?_)
 refine xA (.bool false) rfl ?_
 simp only [zP, po]
 refine wK k4 (rR ?_)
 refine bR rfl rfl (⟨congrArg (fun b => Ending.returned (Value.bool b)) (show false = aliveB v clock from by simp [aliveB, *]), (hv.kp [] 0 1)⟩)
theorem chainAlive (B : Base) (H : List Res) (w : World) (v : Ver) (p t z : Value) (clock : Int) (hv : Inv B H w) : Calls Tryz.prog 188 #[.agg (verCells v p t z).toArray, vI clock] w fun e w' => e = .returned (.bool (aliveB v clock)) ∧ Inv B H w' := by
 cases hg : v.gone with
 | true => have := alive0 B H w v p t z clock hg hv; rw [← hg] at this; exact this
 | false => have := alive1 B H w v p t z clock hg hv; rw [← hg] at this; exact this
end Go.Proofs.YtoljdfjnannakaaGreatDoor
/- slices.ContainsFunc; which values are right: texts, lists, sets, hashes. -/
namespace Go.Proofs.YtoljdfjnannakaaGreatDoor
open Go.RowKit Go.Pm
theorem s9es22 (w : World) : (sizeOf (Tryz.prog.elem 22)).run Tryz.prog w = .ok 1 w := by kernel_rfl
theorem s9na9 (w : World) : (isAgg 9).run Tryz.prog w = .ok false w := by kernel_rfl
set_option maxHeartbeats 2000000 in
theorem indexFuncText (B : Base) (H : List Res) (w : World) (f : FuncId) (cb : Array Value) (ad : Option Addr) (c : Nat) (l : List (List UInt8)) (pr : (List UInt8) → Bool) (hr : RdV B [] ad (textCells l)) (hm : l.length ≤ 1000000) (hcal : Callable Tryz.prog f) (hf : ∀ x ∈ l, ∀ w, Inv B H w → Calls Tryz.prog f (#[vS x] ++ cb) w fun e w' => e = .returned (.bool (pr x)) ∧ Inv B H w') (hv : Inv B H w) :
  Calls Tryz.prog 100 #[.slice ad l.length c, .func (.func f) #[] cb] w fun e w' => ∃ r : Int, e = .returned (vI r) ∧ (0 ≤ r ↔ l.any pr = true) ∧ Inv B H w' := by
 refine cW Tryz.func100 rfl Tryz.ntmps100 ?_
 simp only [al]
 refine sK fun _ k1 => rL (xA (vI 0) rfl ?_)
 simp only [zP, po]
 refine wK k1 (sK fun _ k2 => ?_)
 refine sK fun _ k3 => rL (xM (.slice ad l.length c) rfl ?_)
 refine xG (vI (l.length : Int)) rfl (ex_len0 Tryz.underlying22 rfl rfl) (xM (vI 0) rfl ?_)
 simp only [zP, po]
 refine wK k3 (bB ?_)
 gi_loopw [8] (fun x8 wr => ∃ (i : Nat), x8 = vI i ∧ i ≤ l.length ∧ (∀ j x, j < i → l[j]? = some x → pr x = false) ∧ Inv B H wr) (fun x8 _ => l.length - (intOf x8).toNat)
 case atStart => exact ⟨0, rfl, Nat.zero_le _, fun j x h => by omega, hv⟩
 case round =>
  obtain ⟨i, rfl, hi, hno, hv⟩ := hrel
  refine sK fun _ k5 => rL ?_
  by_cases hb6 : (i : Int) < (l.length : Int)
  ·refine xG (.bool true) rfl (ex_lss rfl rfl rfl (qT hb6)) ?_
   simp only [zP, po]
   refine wK k5 (sK fun _ k7 => ?_)
   refine cT rfl (kS ?_)
   refine tK k7 (sK fun _ k8 => ?_)
   refine bB (sK fun _ k9 => ?_)
   refine rL (xM (vI i) rfl ?_)
   refine xA (vI i) rfl ?_
   simp only [zP, po]
   refine wK k9 (sK fun _ k10 => ?_)
   obtain ⟨x, hx⟩ : ∃ x, l[i]? = some x := ⟨_, List.getElem?_eq_getElem (show i < l.length by omega)⟩
   obtain ⟨bb, bo, had, hrdx⟩ := text_reads hr hx
   subst had
   refine rL (xM (.func (.func f) #[] cb) rfl ?_)
   refine xM (.slice (some ⟨bb, bo, none⟩) l.length c) rfl (xM (vI i) rfl ?_)
   simp only [zP, po]
   refine xG (.pointer (some ⟨bb, bo + i, none⟩)) rfl (ex_index rfl rfl rfl (run_idx1 (k := i) Tryz.underlying22 s9es22 (by omega))) (xL _ rfl (run_load1 s9na9 (hrdx _ _ _ (Base.Le.refl _) no_res hv 0 _ rfl)) ?_)
   refine wpi_callV hcal tV wideC rfl (wn rfl) rfl rfl (args := #[vS x]) (by simp only [List.map_toArray, List.map_cons, List.map_nil]; rfl) ((hf x (List.mem_of_getElem? hx) _ hv).mono ?_)
   rintro e w11 ⟨rfl, hv⟩
   refine ⟨_, rfl, ?_⟩
   simp only [zP, po]
   refine wK k10 (wpIn_cond_split (t := pr x) rfl (fun hc12 => ?_) (fun hc12 => ?_))
   ·refine sK fun _ k13 => rL (xM (vI i) rfl ?_)
    refine xA (vI i) rfl ?_
    simp only [zP, po]
    refine wK k13 (rR ?_)
    refine bZ (tR ?_)
    refine tR (bZ ?_)
    refine tR (bR rfl rfl ?_)
    exact ⟨_, rfl, ⟨fun _ => any_of hx (by simpa using hc12), fun _ => by omega⟩, hv⟩
   refine kS (bN ?_)
   refine tK k8 (rL ?_)
   refine xG (vI ((i + 1 : Nat) : Int)) rfl (ex_add rfl rfl rfl (by rw [i64_in (by omega)]; omega)) (xM (vI ((i + 1 : Nat) : Int)) rfl ?_)
   refine wL ?_
   simp only [zP, po]
   refine then_normal ?_
   go_roundw
   case rel => exact ⟨i + 1, rfl, by omega, fun j x' hj hx' => (by
      rcases Nat.lt_or_ge j i with h | h
      ·exact hno j x' h hx'
      obtain rfl : j = i := by omega
      rw [hx] at hx'; cases hx'
      simpa using hc12), hv⟩
   case measure => show l.length - (((i + 1 : Nat) : Int)).toNat < l.length - ((i : Int)).toNat; omega
  refine xG (.bool false) rfl (ex_lss rfl rfl rfl (qF hb6)) ?_
  simp only [zP, po]
  refine wK k5 (sK fun _ k14 => ?_)
  refine cF rfl (xE ?_)
  refine tX (tX ?_)
  refine bH (tK k2 ?_)
  refine sK fun _ k15 => rL (xA (vI (-1)) rfl ?_)
  simp only [zP, po]
  refine wK k15 (rR ?_)
  refine bR rfl rfl ?_
  obtain rfl : i = l.length := by omega
  exact ⟨_, rfl, ⟨fun h => by omega, fun h => by rw [any_none (fun i x hx => hno i x (List.getElem?_eq_some_iff.1 hx).1 hx)] at h; cases h⟩, hv⟩
theorem s9callable100 : Callable Tryz.prog 100 := ⟨_, Tryz.func100, by kernel_rfl, by kernel_rfl⟩
set_option maxHeartbeats 2000000 in
theorem containsFuncText (B : Base) (H : List Res) (w : World) (f : FuncId) (cb : Array Value) (ad : Option Addr) (c : Nat) (l : List (List UInt8)) (pr : (List UInt8) → Bool) (hr : RdV B [] ad (textCells l)) (hm : l.length ≤ 1000000) (hcal : Callable Tryz.prog f) (hf : ∀ x ∈ l, ∀ w, Inv B H w → Calls Tryz.prog f (#[vS x] ++ cb) w fun e w' => e = .returned (.bool (pr x)) ∧ Inv B H w') (hv : Inv B H w) :
  Calls Tryz.prog 86 #[.slice ad l.length c, .func (.func f) #[] cb] w fun e w' => e = .returned (.bool (l.any pr)) ∧ Inv B H w' := by
 refine cW Tryz.func86 rfl Tryz.ntmps86 ?_
 simp only [al]
 refine sK fun _ k1 => rL (xA (.bool false) rfl ?_)
 simp only [zP, po]
 refine wK k1 (sK fun _ k2 => ?_)
 refine rL (xM (.slice ad l.length c) rfl ?_)
 refine xM (.func (.func f) #[] cb) rfl (xC s9callable100 rfl ((indexFuncText B H _ f cb ad c l pr hr hm hcal hf hv).mono ?_) rfl)
 rintro e w3 ⟨r, rfl, hra, hv⟩
 refine ⟨_, rfl, ?_⟩
 simp only [zP, po]
 refine xG (.bool (decide (r ≥ 0))) rfl (ex_geq rfl rfl rfl rfl) (xA (.bool (decide (r ≥ 0))) rfl ?_)
 simp only [zP, po]
 refine wK k2 (rR ?_)
 refine bR rfl rfl (⟨congrArg (fun b => Ending.returned (Value.bool b)) (by rw [Bool.eq_iff_iff, decide_eq_true_iff]; exact hra), hv⟩)
theorem s9es76 (w : World) : (sizeOf (Tryz.prog.elem 76)).run Tryz.prog w = .ok 2 w := by kernel_rfl
theorem s9wd115 : Wide Tryz.prog 115 2 := wide_of (fun w => by kernel_rfl) (by kernel_rfl)
set_option maxHeartbeats 2000000 in
theorem indexFuncMem (B : Base) (H : List Res) (w : World) (f : FuncId) (cb : Array Value) (ad : Option Addr) (c : Nat) (l : List (Int × List UInt8)) (pr : (Int × List UInt8) → Bool) (hr : RdV B [] ad (memCells l)) (hm : l.length ≤ 1000000) (hcal : Callable Tryz.prog f) (hf : ∀ x ∈ l, ∀ w, Inv B H w → Calls Tryz.prog f (#[.agg #[vI x.1, vS x.2]] ++ cb) w fun e w' => e = .returned (.bool (pr x)) ∧ Inv B H w') (hv : Inv B H w) :
  Calls Tryz.prog 217 #[.slice ad l.length c, .func (.func f) #[] cb] w fun e w' => ∃ r : Int, e = .returned (vI r) ∧ (0 ≤ r ↔ l.any pr = true) ∧ Inv B H w' := by
 refine cW Tryz.func217 rfl Tryz.ntmps217 ?_
 simp only [al]
 refine sK fun _ k1 => rL (xA (vI 0) rfl ?_)
 simp only [zP, po]
 refine wK k1 (sK fun _ k2 => ?_)
 refine sK fun _ k3 => rL (xM (.slice ad l.length c) rfl ?_)
 refine xG (vI (l.length : Int)) rfl (ex_len0 Tryz.underlying76 rfl rfl) (xM (vI 0) rfl ?_)
 simp only [zP, po]
 refine wK k3 (bB ?_)
 gi_loopw [8] (fun x8 wr => ∃ (i : Nat), x8 = vI i ∧ i ≤ l.length ∧ (∀ j x, j < i → l[j]? = some x → pr x = false) ∧ Inv B H wr) (fun x8 _ => l.length - (intOf x8).toNat)
 case atStart => exact ⟨0, rfl, Nat.zero_le _, fun j x h => by omega, hv⟩
 case round =>
  obtain ⟨i, rfl, hi, hno, hv⟩ := hrel
  refine sK fun _ k5 => rL ?_
  by_cases hb6 : (i : Int) < (l.length : Int)
  ·refine xG (.bool true) rfl (ex_lss rfl rfl rfl (qT hb6)) ?_
   simp only [zP, po]
   refine wK k5 (sK fun _ k7 => ?_)
   refine cT rfl (kS ?_)
   refine tK k7 (sK fun _ k8 => ?_)
   refine bB (sK fun _ k9 => ?_)
   refine rL (xM (vI i) rfl ?_)
   refine xA (vI i) rfl ?_
   simp only [zP, po]
   refine wK k9 (sK fun _ k10 => ?_)
   obtain ⟨x, hx⟩ : ∃ x, l[i]? = some x := ⟨_, List.getElem?_eq_getElem (show i < l.length by omega)⟩
   obtain ⟨bb, bo, had, hrdx⟩ := mem_reads hr hx
   subst had
   refine rL (xM (.func (.func f) #[] cb) rfl ?_)
   refine xM (.slice (some ⟨bb, bo, none⟩) l.length c) rfl (xM (vI i) rfl ?_)
   simp only [zP, po]
   refine xG (.pointer (some ⟨bb, bo + i * 2, none⟩)) rfl (ex_index rfl rfl rfl (run_idx (k := i) Tryz.underlying76 s9es76 (by omega))) (xL (.agg #[vI x.1, vS x.2]) rfl (run_loadR (cs := [vI x.1, vS x.2]) s9wd115 (Reads.mid (pre := []) (mid := [vI x.1, vS x.2]) (post := []) hrdx _ _ _ (Base.Le.refl _) no_res hv)) ?_)
   refine wpi_callV hcal tV wideC rfl (wn rfl) rfl rfl (args := #[.agg #[vI x.1, vS x.2]]) (by simp only [List.map_toArray, List.map_cons, List.map_nil]; rfl) ((hf x (List.mem_of_getElem? hx) _ hv).mono ?_)
   rintro e w11 ⟨rfl, hv⟩
   refine ⟨_, rfl, ?_⟩
   simp only [zP, po]
   refine wK k10 (wpIn_cond_split (t := pr x) rfl (fun hc12 => ?_) (fun hc12 => ?_))
   ·refine sK fun _ k13 => rL (xM (vI i) rfl ?_)
    refine xA (vI i) rfl ?_
    simp only [zP, po]
    refine wK k13 (rR ?_)
    refine bZ (tR ?_)
    refine tR (bZ ?_)
    refine tR (bR rfl rfl ?_)
    exact ⟨_, rfl, ⟨fun _ => any_of hx (by simpa using hc12), fun _ => by omega⟩, hv⟩
   refine kS (bN ?_)
   refine tK k8 (rL ?_)
   refine xG (vI ((i + 1 : Nat) : Int)) rfl (ex_add rfl rfl rfl (by rw [i64_in (by omega)]; omega)) (xM (vI ((i + 1 : Nat) : Int)) rfl ?_)
   refine wL ?_
   simp only [zP, po]
   refine then_normal ?_
   go_roundw
   case rel => exact ⟨i + 1, rfl, by omega, fun j x' hj hx' => (by
      rcases Nat.lt_or_ge j i with h | h
      ·exact hno j x' h hx'
      obtain rfl : j = i := by omega
      rw [hx] at hx'; cases hx'
      simpa using hc12), hv⟩
   case measure => show l.length - (((i + 1 : Nat) : Int)).toNat < l.length - ((i : Int)).toNat; omega
  refine xG (.bool false) rfl (ex_lss rfl rfl rfl (qF hb6)) ?_
  simp only [zP, po]
  refine wK k5 (sK fun _ k14 => ?_)
  refine cF rfl (xE ?_)
  refine tX (tX ?_)
  refine bH (tK k2 ?_)
  refine sK fun _ k15 => rL (xA (vI (-1)) rfl ?_)
  simp only [zP, po]
  refine wK k15 (rR ?_)
  refine bR rfl rfl ?_
  obtain rfl : i = l.length := by omega
  exact ⟨_, rfl, ⟨fun h => by omega, fun h => by rw [any_none (fun i x hx => hno i x (List.getElem?_eq_some_iff.1 hx).1 hx)] at h; cases h⟩, hv⟩
theorem s9callable217 : Callable Tryz.prog 217 := ⟨_, Tryz.func217, by kernel_rfl, by kernel_rfl⟩
set_option maxHeartbeats 2000000 in
theorem containsFuncMem (B : Base) (H : List Res) (w : World) (f : FuncId) (cb : Array Value) (ad : Option Addr) (c : Nat) (l : List (Int × List UInt8)) (pr : (Int × List UInt8) → Bool) (hr : RdV B [] ad (memCells l)) (hm : l.length ≤ 1000000) (hcal : Callable Tryz.prog f) (hf : ∀ x ∈ l, ∀ w, Inv B H w → Calls Tryz.prog f (#[.agg #[vI x.1, vS x.2]] ++ cb) w fun e w' => e = .returned (.bool (pr x)) ∧ Inv B H w') (hv : Inv B H w) :
  Calls Tryz.prog 214 #[.slice ad l.length c, .func (.func f) #[] cb] w fun e w' => e = .returned (.bool (l.any pr)) ∧ Inv B H w' := by
 refine cW Tryz.func214 rfl Tryz.ntmps214 ?_
 simp only [al]
 refine sK fun _ k1 => rL (xA (.bool false) rfl ?_)
 simp only [zP, po]
 refine wK k1 (sK fun _ k2 => ?_)
 refine rL (xM (.slice ad l.length c) rfl ?_)
 refine xM (.func (.func f) #[] cb) rfl (xC s9callable217 rfl ((indexFuncMem B H _ f cb ad c l pr hr hm hcal hf hv).mono ?_) rfl)
 rintro e w3 ⟨r, rfl, hra, hv⟩
 refine ⟨_, rfl, ?_⟩
 simp only [zP, po]
 refine xG (.bool (decide (r ≥ 0))) rfl (ex_geq rfl rfl rfl rfl) (xA (.bool (decide (r ≥ 0))) rfl ?_)
 simp only [zP, po]
 refine wK k2 (rR ?_)
 refine bR rfl rfl (⟨congrArg (fun b => Ending.returned (Value.bool b)) (by rw [Bool.eq_iff_iff, decide_eq_true_iff]; exact hra), hv⟩)
set_option maxHeartbeats 2000000 in
theorem listLong (B : Base) (H : List Res) (w : World) (s : List UInt8) (hv : Inv B H w) :
  Calls Tryz.prog 213 #[vS s] w fun e w' => e = .returned (.bool (decide (s.length > 4096))) ∧ Inv B H w' := by
 refine cW Tryz.func213 rfl Tryz.ntmps213 ?_
 simp only [al]
 refine sK fun _ k1 => rL (xA (.bool false) rfl ?_)
 simp only [zP, po]
 refine wK k1 (sK fun _ k2 => ?_)
 refine rL (xM (vS s) rfl ?_)
 refine xG (vI (s.length : Int)) rfl (ex_lenStr Tryz.underlying9 rfl rfl) (xG (.bool (decide ((s.length : Int) > 4096))) rfl (ex_gtr rfl rfl rfl rfl) ?_)
 simp only [zP, po]
 refine xA (.bool (decide ((s.length : Int) > 4096))) rfl ?_
 simp only [zP, po]
 refine wK k2 (rR ?_)
 refine bR rfl rfl (⟨congrArg (fun b => Ending.returned (Value.bool b)) (decide_eq_decide.2 (by omega)), hv⟩)
set_option maxHeartbeats 2000000 in
theorem setLong (B : Base) (H : List Res) (w : World) (s : List UInt8) (hv : Inv B H w) :
  Calls Tryz.prog 87 #[vS s] w fun e w' => e = .returned (.bool (decide (s.length > 4096))) ∧ Inv B H w' := by
 refine cW Tryz.func87 rfl Tryz.ntmps87 ?_
 simp only [al]
 refine sK fun _ k1 => rL (xA (.bool false) rfl ?_)
 simp only [zP, po]
 refine wK k1 (sK fun _ k2 => ?_)
 refine rL (xM (vS s) rfl ?_)
 refine xG (vI (s.length : Int)) rfl (ex_lenStr Tryz.underlying9 rfl rfl) (xG (.bool (decide ((s.length : Int) > 4096))) rfl (ex_gtr rfl rfl rfl rfl) ?_)
 simp only [zP, po]
 refine xA (.bool (decide ((s.length : Int) > 4096))) rfl ?_
 simp only [zP, po]
 refine wK k2 (rR ?_)
 refine bR rfl rfl (⟨congrArg (fun b => Ending.returned (Value.bool b)) (decide_eq_decide.2 (by omega)), hv⟩)
theorem s9fa115_1 (w : World) (b o : Nat) : (Instr.fieldAt 115 (.pointer (some ⟨b, o, none⟩)) 1).run Tryz.prog w = .ok (.pointer (some ⟨b, o + 1, none⟩)) w := by kernel_rfl
set_option maxHeartbeats 2000000 in
theorem zsetLong (B : Base) (H : List Res) (w : World) (n : Int) (s : List UInt8) (hv : Inv B H w) :
  Calls Tryz.prog 215 #[.agg #[vI n, vS s]] w fun e w' => e = .returned (.bool (decide (s.length > 4096))) ∧ Inv B H w' := by
 refine cW Tryz.func215 rfl Tryz.ntmps215 ?_
 simp only [al]
 refine sK fun _ k1 => rL (sl_box (L := [vI n, vS s]) tV (wn rfl) rfl rfl hv (fun w => by kernel_rfl) (fun b2 w3 hv => ?_))
 refine xA (.bool false) rfl ?_
 simp only [zP, po]
 refine wK k1 (sK fun _ k4 => ?_)
 refine rL (xF (.pointer (some ⟨b2, 1, none⟩)) rfl (s9fa115_1 _ _ _) ?_)
 refine xL _ rfl (run_load1 s9na9 (hv.load 0 1 rfl rfl)) (xG (vI (s.length : Int)) rfl (ex_lenStr Tryz.underlying9 rfl rfl) ?_)
 simp only [zP, po]
 refine xG (.bool (decide ((s.length : Int) > 4096))) rfl (ex_gtr rfl rfl rfl rfl) (xA (.bool (decide ((s.length : Int) > 4096))) rfl ?_)
 simp only [zP, po]
 refine wK k4 (rR ?_)
 refine bR rfl rfl (⟨congrArg (fun b => Ending.returned (Value.bool b)) (decide_eq_decide.2 (by omega)), (hv.kp [] 0 1)⟩)
def listRight (l : List (List UInt8)) : Bool := decide (l.length ≤ 512) && !l.any (fun s : List UInt8 => decide (s.length > 4096))
theorem s9callable213 : Callable Tryz.prog 213 := ⟨_, Tryz.func213, by kernel_rfl, by kernel_rfl⟩
theorem s9callable86 : Callable Tryz.prog 86 := ⟨_, Tryz.func86, by kernel_rfl, by kernel_rfl⟩
set_option maxHeartbeats 2000000 in
theorem listRightC (B : Base) (H : List Res) (w : World) (ad : Option Addr) (c : Nat) (l : List (List UInt8)) (hr : RdV B [] ad (textCells l)) (hm : l.length ≤ 1000000) (hv : Inv B H w) :
  Calls Tryz.prog 208 #[.slice ad l.length c] w fun e w' => e = .returned (.bool (listRight l)) ∧ Inv B H w' := by
 refine cW Tryz.func208 rfl Tryz.ntmps208 ?_
 simp only [al]
 refine sK fun _ k1 => rL (xA (.bool false) rfl ?_)
 simp only [zP, po]
 refine wK k1 (sK fun _ k2 => ?_)
 refine rL (xM (.slice ad l.length c) rfl ?_)
 refine xG (vI (l.length : Int)) rfl (ex_len0 Tryz.underlying22 rfl rfl) ?_
 by_cases hb3 : (l.length : Int) ≤ 512
 ·refine xG (.bool true) rfl (ex_leq rfl rfl rfl (qT hb3)) ?_
  simp only [zP, po]
  refine xM (.bool true) rfl (xM (.slice ad l.length c) rfl ?_)
  refine xC s9callable86 rfl ((containsFuncText B _ _ 213 #[] ad c l (fun s : List UInt8 => decide (s.length > 4096)) hr hm s9callable213 (fun x _ w hv => listLong B _ w x hv) hv).mono ?_) rfl
  rintro e w4 ⟨rfl, hv⟩
  refine ⟨_, rfl, ?_⟩
  simp only [zP, po]
  refine xG (.bool (!(l.any (fun s : List UInt8 => decide (s.length > 4096))))) rfl (ex_not rfl rfl rfl) (xK true (.bool (!(l.any (fun s : List UInt8 => decide (s.length > 4096))))) rfl ?_)
  refine xA (.bool (!(l.any (fun s : List UInt8 => decide (s.length > 4096))))) rfl ?_
  simp only [zP, po]
  refine wK k2 (rR ?_)
  refine bR rfl rfl (⟨congrArg (fun b => Ending.returned (Value.bool b)) (by unfold listRight; first | rw [qT (by omega : l.length ≤ 512)]; rfl | (rw [qF (by omega : ¬ l.length ≤ 512)]; rfl)), hv⟩)
 refine xG (.bool false) rfl (ex_leq rfl rfl rfl (qF hb3)) ?_
 simp only [zP, po]
 refine xM (.bool false) rfl ?_
 iterate 3 refine yN rfl ?_
 refine xK false (.bool false) rfl (xA (.bool false) rfl ?_)
 simp only [zP, po]
 refine wK k2 (rR ?_)
 refine bR rfl rfl (⟨congrArg (fun b => Ending.returned (Value.bool b)) (by unfold listRight; first | rw [qT (by omega : l.length ≤ 512)]; rfl | (rw [qF (by omega : ¬ l.length ≤ 512)]; rfl)), hv⟩)
end Go.Proofs.YtoljdfjnannakaaGreatDoor
/- Transactions: may. -/
namespace Go.Proofs.YtoljdfjnannakaaGreatDoor
open Go.RowKit Go.Pm
theorem x1es94 (w : World) : (sizeOf (Tryz.prog.elem 94)).run Tryz.prog w = .ok 1 w := by kernel_rfl
theorem x1na62 (w : World) : (isAgg 62).run Tryz.prog w = .ok false w := by kernel_rfl
set_option maxHeartbeats 2000000 in
theorem indexTx (B : Base) (H : List Res) (w : World) (t : Nat) (va : Option Addr) (vc : Nat) (hv : Inv B (Res.row 62 1 (.slice va 1 vc) 1 [vP t] :: H) w) :
  Calls Tryz.prog 211 #[.slice va 1 vc, vP t] w fun e w' => e = .returned (vI 0) ∧ Inv B (Res.row 62 1 (.slice va 1 vc) 1 [vP t] :: H) w' := by
 refine cW Tryz.func211 rfl Tryz.ntmps211 ?_
 simp only [al]
 refine sK fun _ k1 => rL (xA (vI 0) rfl ?_)
 simp only [zP, po]
 refine wK k1 (sK fun _ k2 => ?_)
 refine sK fun _ k3 => rL (xM (.slice va 1 vc) rfl ?_)
 refine xG (vI 1) rfl (ex_len0 Tryz.underlying94 rfl rfl) (xM (vI 0) rfl ?_)
 simp only [zP, po]
 refine wK k3 (bB ?_)
 gi_loopw [8] (fun x8 wr => x8 = vI 0 ∧ Inv B (Res.row 62 1 (.slice va 1 vc) 1 [vP t] :: H) wr) (fun x8 _ => 0)
 case atStart => exact ⟨rfl, hv⟩
 case round =>
  obtain ⟨rfl, hv⟩ := hrel
  refine sK fun _ k5 => rL (xG (.bool true) rfl (ex_lss rfl rfl rfl (by decide)) ?_)
  simp only [zP, po]
  refine wK k5 (sK fun _ k6 => ?_)
  refine cT rfl (kS ?_)
  refine tK k6 (sK fun _ k7 => ?_)
  refine bB (sK fun _ k8 => ?_)
  refine rL (xM (vI 0) rfl ?_)
  refine xA (vI 0) rfl ?_
  simp only [zP, po]
  refine wK k8 (sK fun _ k9 => ?_)
  obtain ⟨b, rfl⟩ := row_some hv.head (by omega)
  refine rL (xM (vP t) rfl ?_)
  refine xM (.slice (some ⟨b, 0, none⟩) 1 vc) rfl (xM (vI 0) rfl ?_)
  simp only [zP, po]
  refine xG (.pointer (some ⟨b, 0 + 0, none⟩)) rfl (ex_index rfl rfl rfl (run_idx1 (k := 0) Tryz.underlying94 x1es94 (by omega))) (xL _ rfl (run_load1 x1na62 (row_load (hv.get 0 rfl) rfl)) ?_)
  refine xG (.bool true) rfl (ex_psame Tryz.underlying62 (by kernel_rfl) rfl rfl rfl) ?_
  simp only [zP, po]
  refine wK k9 (cT rfl ?_)
  refine sK fun _ k10 => rL (xM (vI 0) rfl ?_)
  refine xA (vI 0) rfl ?_
  simp only [zP, po]
  refine wK k10 (rR ?_)
  refine bZ (tR ?_)
  refine tR (bZ ?_)
  refine tR (bR rfl rfl ?_)
  exact ⟨rfl, hv⟩
theorem x1callable211 : Callable Tryz.prog 211 := ⟨_, Tryz.func211, by kernel_rfl, by kernel_rfl⟩
set_option maxHeartbeats 2000000 in
theorem containsTx (B : Base) (H : List Res) (w : World) (t : Nat) (va : Option Addr) (vc : Nat) (hv : Inv B (Res.row 62 1 (.slice va 1 vc) 1 [vP t] :: H) w) :
  Calls Tryz.prog 205 #[.slice va 1 vc, vP t] w fun e w' => e = .returned (.bool true) ∧ Inv B (Res.row 62 1 (.slice va 1 vc) 1 [vP t] :: H) w' := by
 refine cW Tryz.func205 rfl Tryz.ntmps205 ?_
 simp only [al]
 refine sK fun _ k1 => rL (xA (.bool false) rfl ?_)
 simp only [zP, po]
 refine wK k1 (sK fun _ k2 => ?_)
 refine rL (xM (.slice va 1 vc) rfl ?_)
 refine xM (vP t) rfl (xC x1callable211 rfl ((indexTx B H _ t va vc hv).mono ?_) rfl)
 rintro e w3 ⟨rfl, hv⟩
 refine ⟨_, rfl, ?_⟩
 simp only [zP, po]
 refine xG (.bool true) rfl (ex_geq rfl rfl rfl (by decide)) (xA (.bool true) rfl ?_)
 simp only [zP, po]
 refine wK k2 (rR ?_)
 refine bR rfl rfl (⟨rfl, hv⟩)
set_option maxHeartbeats 2000000 in
theorem mayLong (B : Base) (H : List Res) (w : World) (s : List UInt8) (hv : Inv B H w) :
  Calls Tryz.prog 204 #[vS s] w fun e w' => e = .returned (.bool (decide (s.length > 256))) ∧ Inv B H w' := by
 refine cW Tryz.func204 rfl Tryz.ntmps204 ?_
 simp only [al]
 refine sK fun _ k1 => rL (xA (.bool false) rfl ?_)
 simp only [zP, po]
 refine wK k1 (sK fun _ k2 => ?_)
 refine rL (xM (vS s) rfl ?_)
 refine xG (vI (s.length : Int)) rfl (ex_lenStr Tryz.underlying9 rfl rfl) (xG (.bool (decide ((s.length : Int) > 256))) rfl (ex_gtr rfl rfl rfl rfl) ?_)
 simp only [zP, po]
 refine xA (.bool (decide ((s.length : Int) > 256))) rfl ?_
 simp only [zP, po]
 refine wK k2 (rR ?_)
 refine bR rfl rfl (⟨congrArg (fun b => Ending.returned (Value.bool b)) (decide_eq_decide.2 (by omega)), hv⟩)
theorem x1fa133_3 (w : World) (b o : Nat) : (Instr.fieldAt 133 (.pointer (some ⟨b, o, none⟩)) 3).run Tryz.prog w = .ok (.pointer (some ⟨b, o + 3, none⟩)) w := by kernel_rfl
theorem x1fa133_0 (w : World) (b o : Nat) : (Instr.fieldAt 133 (.pointer (some ⟨b, o, none⟩)) 0).run Tryz.prog w = .ok (.pointer (some ⟨b, o + 0, none⟩)) w := by kernel_rfl
theorem x1na53 (w : World) : (isAgg 53).run Tryz.prog w = .ok false w := by kernel_rfl
theorem x1fa96_3 (w : World) (b o : Nat) : (Instr.fieldAt 96 (.pointer (some ⟨b, o, none⟩)) 3).run Tryz.prog w = .ok (.pointer (some ⟨b, o + 3, none⟩)) w := by kernel_rfl
theorem x1na94 (w : World) : (isAgg 94).run Tryz.prog w = .ok false w := by kernel_rfl
theorem x1callable205 : Callable Tryz.prog 205 := ⟨_, Tryz.func205, by kernel_rfl, by kernel_rfl⟩
theorem x1callable204 : Callable Tryz.prog 204 := ⟨_, Tryz.func204, by kernel_rfl, by kernel_rfl⟩
set_option maxHeartbeats 2000000 in
theorem txnMay (B : Base) (H : List Res) (w : World) (t m s wb : Nat) (va : Option Addr) (vc : Nat) (sv : Value) (clk : Int) (ka : Option Addr) (kc : Nat) (ks : List (List UInt8)) (hr : RdV B [] ka (textCells ks)) (hm : ks.length ≤ 1000000) (hv : Inv B (Res.cell t [vP m, vI 0, vI clk, .bool false, .map (some wb)] 133 :: Res.cell m [vP s, sv, vI clk, .slice va 1 vc] 96 :: Res.row 62 1 (.slice va 1 vc) 1 [vP t] :: H) w) :
  Calls Tryz.prog 199 #[vP t, .slice ka ks.length kc] w fun e w' => ∃ ec : Int, e = .returned (vI ec) ∧ ((ec = 0 ∧ ks.any (fun s : List UInt8 => decide (s.length > 256)) = false) ∨ (ec = 2 ∧ ks.any (fun s : List UInt8 => decide (s.length > 256)) = true)) ∧ Inv B (Res.cell t [vP m, vI 0, vI clk, .bool false, .map (some wb)] 133 :: Res.cell m [vP s, sv, vI clk, .slice va 1 vc] 96 :: Res.row 62 1 (.slice va 1 vc) 1 [vP t] :: H) w' := by
 refine cW Tryz.func199 rfl Tryz.ntmps199 ?_
 simp only [al]
 refine sK fun _ k1 => rL (xA (vI 0) rfl ?_)
 simp only [zP, po]
 refine wK k1 (sK fun _ k2 => ?_)
 refine sK fun _ k3 => rL (xM (vP t) rfl ?_)
 refine xG (vP t) rfl (ex_nil rfl rfl) (xF (.pointer (some ⟨t, 3, none⟩)) rfl (x1fa133_3 _ _ _) ?_)
 simp only [zP, po]
 refine xL _ rfl (run_load1 s2na4 (hv.load 0 3 rfl rfl)) ?_
 simp only [zP, po]
 refine wK k3 (cF rfl ?_)
 refine kS (tK k2 ?_)
 refine sK fun _ k4 => rL (xA (.func (.func 204) #[] #[]) rfl ?_)
 simp only [zP, po]
 refine wK k4 (sK fun _ k5 => ?_)
 refine sK fun _ k6 => rL (xM (vP t) rfl ?_)
 refine xG (vP t) rfl (ex_nil rfl rfl) (xF (vP t) rfl (x1fa133_0 _ _ _) ?_)
 simp only [zP, po]
 refine xL _ rfl (run_load1 x1na53 (hv.load 0 0 rfl rfl)) (xG (.bool false) rfl (ex_pisnil Tryz.underlying53 rfl rfl rfl rfl) ?_)
 refine xM (.bool false) rfl ?_
 simp only [zP, po]
 refine xM (vP t) rfl (xG (vP t) rfl (ex_nil rfl rfl) ?_)
 refine xF (vP t) rfl (x1fa133_0 _ _ _) ?_
 simp only [zP, po]
 refine xL _ rfl (run_load1 x1na53 (hv.load 0 0 rfl rfl)) (xG (vP m) rfl (ex_nil rfl rfl) ?_)
 refine xF (.pointer (some ⟨m, 3, none⟩)) rfl (x1fa96_3 _ _ _) ?_
 simp only [zP, po]
 refine xL _ rfl (run_load1 x1na94 (hv.load 1 3 rfl rfl)) (xM (vP t) rfl ?_)
 replace hv := hv.front 1 rfl
 simp only [eS, eZ] at hv
 replace hv := hv.front 1 rfl
 simp only [eS, eZ] at hv
 replace hv := hv.front 2 rfl
 simp only [eS, eZ] at hv
 refine xC x1callable205 rfl ((containsTx B _ _ t va vc hv).mono ?_) rfl
 rintro e w7 ⟨rfl, hv⟩
 refine ⟨_, rfl, ?_⟩
 simp only [zP, po]
 refine xG (.bool false) rfl (ex_not rfl rfl rfl) (xK false (.bool false) rfl ?_)
 refine xM (.bool false) rfl ?_
 simp only [zP, po]
 refine xM (.slice ka ks.length kc) rfl (xM (.func (.func 204) #[] #[]) rfl ?_)
 refine xC s9callable86 rfl ((containsFuncText B _ _ 204 #[] ka kc ks (fun s : List UInt8 => decide (s.length > 256)) hr hm x1callable204 (fun x _ w hv => mayLong B _ w x hv) hv).mono ?_) rfl
 rintro e w8 ⟨rfl, hv⟩
 refine ⟨_, rfl, ?_⟩
 simp only [zP, po]
 refine xK false (.bool (ks.any (fun s : List UInt8 => decide (s.length > 256)))) rfl ?_
 simp only [zP, po]
 refine wK k6 (wpIn_cond_split (t := ks.any (fun s : List UInt8 => decide (s.length > 256))) rfl (fun hc9 => ?_) (fun hc9 => ?_))
 ·refine sK fun _ k10 => rL (xA (vI 2) rfl ?_)
  simp only [zP, po]
  refine wK k10 (rR ?_)
  refine tR (bR rfl rfl ?_)
  exact ⟨_, rfl, .inr ⟨rfl, hc9⟩, ((hv.front 2 rfl).front 2 rfl)⟩
 refine kS (tK k5 ?_)
 refine sK fun _ k11 => rL (xA (vI 0) rfl ?_)
 simp only [zP, po]
 refine wK k11 (rR ?_)
 refine bR rfl rfl (⟨_, rfl, .inl ⟨rfl, hc9⟩, ((hv.front 2 rfl).front 2 rfl)⟩)
end Go.Proofs.YtoljdfjnannakaaGreatDoor
/- Which sets and hashes are right. -/
namespace Go.Proofs.YtoljdfjnannakaaGreatDoor
open Go.RowKit Go.Pm
theorem calls_bool {P : Program} {f : FuncId} {args : Array Value} {w : World} {R : World → Prop} {b b' : Bool} (h : Calls P f args w fun e w' => e = .returned (.bool b) ∧ R w') (hb : b = b') : Calls P f args w fun e w' => e = .returned (.bool b') ∧ R w' := hb ▸ h
def SetAt (l : List (List UInt8)) (i : Nat) : Prop := ∀ x, l[i]? = some x → x.length ≤ 4096 ∧ ∀ (j : Nat) y, i = j + 1 → l[j]? = some y → Op.bytesLess y x = true
def SetOk (l : List (List UInt8)) : Prop := l.length ≤ 512 ∧ ∀ i, SetAt l i
def HashAt (l : List (List UInt8 × List UInt8)) (i : Nat) : Prop := ∀ x, l[i]? = some x → (x.1.length ≤ 4096 ∧ x.2.length ≤ 4096) ∧ ∀ (j : Nat) y, i = j + 1 → l[j]? = some y → Op.bytesLess y.1 x.1 = true
def HashOk (l : List (List UInt8 × List UInt8)) : Prop := l.length ≤ 512 ∧ ∀ i, HashAt l i
theorem s10callable87 : Callable Tryz.prog 87 := ⟨_, Tryz.func87, by kernel_rfl, by kernel_rfl⟩
set_option maxHeartbeats 2000000 in
theorem setRightC (B : Base) (H : List Res) (w : World) (ad : Option Addr) (c : Nat) (l : List (List UInt8)) (hr : RdV B [] ad (textCells l)) (hm : l.length ≤ 1000000) (hv : Inv B H w) :
  Calls Tryz.prog 209 #[.slice ad l.length c] w fun e w' => ∃ b, e = .returned (.bool b) ∧ (b = true ↔ SetOk l) ∧ Inv B H w' := by
 refine cW Tryz.func209 rfl Tryz.ntmps209 ?_
 simp only [al]
 refine sK fun _ k1 => rL (xA (.bool false) rfl ?_)
 simp only [zP, po]
 refine wK k1 (sK fun _ k2 => ?_)
 refine sK fun _ k3 => rL (xM (.slice ad l.length c) rfl ?_)
 refine xG (vI (l.length : Int)) rfl (ex_len0 Tryz.underlying22 rfl rfl) ?_
 by_cases hb4 : (l.length : Int) > 512
 ·refine xG (.bool true) rfl (ex_gtr rfl rfl rfl (qT hb4)) ?_
  simp only [zP, po]
  refine wK k3 (cT rfl ?_)
  refine sK fun _ k5 => rL (xA (.bool false) rfl ?_)
  simp only [zP, po]
  refine wK k5 (rR ?_)
  refine tR (bR rfl rfl ?_)
  exact ⟨false, rfl, ⟨fun h => (by cases h), fun h => by have := h.1; omega⟩, hv⟩
 refine xG (.bool false) rfl (ex_gtr rfl rfl rfl (qF hb4)) ?_
 simp only [zP, po]
 refine wK k3 (cF rfl ?_)
 refine kS (tK k2 ?_)
 refine sK fun _ k6 => sK fun _ k7 => rL (xM (.slice ad l.length c) rfl ?_)
 refine xG (vI (l.length : Int)) rfl (ex_len0 Tryz.underlying22 rfl rfl) (xM (vI 0) rfl ?_)
 simp only [zP, po]
 refine wK k7 (bB ?_)
 gi_loopw [10] (fun x10 wr => ∃ (i : Nat), x10 = vI i ∧ i ≤ l.length ∧ (∀ k, k < i → SetAt l k) ∧ Inv B H wr) (fun x10 _ => l.length - (intOf x10).toNat)
 case atStart => exact ⟨0, rfl, Nat.zero_le _, fun k h => by omega, hv⟩
 case round =>
  obtain ⟨i, rfl, hi, hall, hv⟩ := hrel
  refine sK fun _ k9 => rL ?_
  by_cases hb10 : (i : Int) < (l.length : Int)
  ·refine xG (.bool true) rfl (ex_lss rfl rfl rfl (qT hb10)) ?_
   simp only [zP, po]
   refine wK k9 (sK fun _ k11 => ?_)
   refine cT rfl (kS ?_)
   refine tK k11 (sK fun _ k12 => ?_)
   refine bB (sK fun _ k13 => ?_)
   obtain ⟨x, hx⟩ : ∃ x, l[i]? = some x := ⟨_, List.getElem?_eq_getElem (show i < l.length by omega)⟩
   obtain ⟨bb, bo, had, hrdx⟩ := text_reads hr hx
   subst had
   refine rL (xM (vI i) rfl ?_)
   refine xG (.pointer (some ⟨bb, bo + i, none⟩)) rfl (ex_index rfl rfl rfl (run_idx1 (k := i) Tryz.underlying22 s9es22 (by omega))) (xL _ rfl (run_load1 s9na9 (hrdx _ _ _ (Base.Le.refl _) no_res hv 0 _ rfl)) ?_)
   simp only [zP, po]
   refine xA (vI i) rfl (xA (vS x) rfl ?_)
   simp only [zP, po]
   refine wK k13 (sK fun _ k14 => ?_)
   refine rL (xM (vS x) rfl ?_)
   by_cases hq15 : x.length > 4096
   ·refine xC s10callable87 rfl ((calls_bool (setLong B _ _ x hv) (qT hq15)).mono ?_) rfl
    rintro e w16 ⟨rfl, hv⟩
    refine ⟨_, rfl, ?_⟩
    refine xM (.bool true) rfl ?_
    simp only [zP, po]
    refine yP rfl (yP rfl ?_)
    refine yP rfl ?_
    simp only [zP, po]
    refine yP rfl (yP rfl ?_)
    refine yP rfl ?_
    simp only [zP, po]
    refine yP rfl (yP rfl ?_)
    refine yP rfl ?_
    simp only [zP, po]
    refine yP rfl (yP rfl ?_)
    refine xK true (.bool true) rfl ?_
    simp only [zP, po]
    refine wK k14 (cT rfl ?_)
    refine sK fun _ k17 => rL (xA (.bool false) rfl ?_)
    simp only [zP, po]
    refine wK k17 (rR ?_)
    refine bZ (tR ?_)
    refine tR (bZ ?_)
    refine tR (bR rfl rfl ?_)
    exact ⟨false, rfl, ⟨fun h => (by cases h), fun h => by have := (h.2 i x hx).1; first | omega | exact absurd this hq15⟩, hv⟩
   refine xC s10callable87 rfl ((calls_bool (setLong B _ _ x hv) (qF hq15)).mono ?_) rfl
   rintro e w18 ⟨rfl, hv⟩
   refine ⟨_, rfl, ?_⟩
   refine xM (.bool false) rfl ?_
   simp only [zP, po]
   refine xM (vI i) rfl ?_
   by_cases hb19 : (i : Int) > 0
   ·refine xG (.bool true) rfl (ex_gtr rfl rfl rfl (qT hb19)) ?_
    obtain ⟨j, hj⟩ : ∃ j : Nat, i = j + 1 := ⟨i - 1, by omega⟩
    obtain ⟨y, hy⟩ : ∃ x, l[j]? = some x := ⟨_, List.getElem?_eq_getElem (show j < l.length by omega)⟩
    obtain ⟨b9, o9, had9, hrdy⟩ := text_reads hr hy
    cases had9
    refine xM (.bool true) rfl ?_
    simp only [zP, po]
    refine xM (.slice (some ⟨bb, bo, none⟩) l.length c) rfl (xM (vI i) rfl ?_)
    refine xG (vI j) rfl (ex_sub rfl rfl rfl (by rw [i64_in (by omega)]; omega)) ?_
    simp only [zP, po]
    refine xG (.pointer (some ⟨bb, bo + j, none⟩)) rfl (ex_index rfl rfl rfl (run_idx1 (k := j) Tryz.underlying22 s9es22 (by omega))) (xL _ rfl (run_load1 s9na9 (hrdy _ _ _ (Base.Le.refl _) no_res hv 0 _ rfl)) ?_)
    refine xM (vS x) rfl ?_
    simp only [zP, po]
    refine xG (.bool (!Op.bytesLess y x)) rfl (ex_sgeq rfl rfl rfl rfl) (xK true (.bool (!Op.bytesLess y x)) rfl ?_)
    refine xK false (.bool (!Op.bytesLess y x)) rfl ?_
    simp only [zP, po]
    refine wK k14 (wpIn_cond_split (t := !Op.bytesLess y x) rfl (fun hc20 => ?_) (fun hc20 => ?_))
    ·refine sK fun _ k21 => rL (xA (.bool false) rfl ?_)
     simp only [zP, po]
     refine wK k21 (rR ?_)
     refine bZ (tR ?_)
     refine tR (bZ ?_)
     refine tR (bR rfl rfl ?_)
     exact ⟨false, rfl, ⟨fun h => (by cases h), fun h => by have := (h.2 i x hx).2 j y (by omega) hy; rw [this] at hc20; simp at hc20⟩, hv⟩
    refine kS (bN ?_)
    refine tK k12 (rL ?_)
    refine xG (vI ((i + 1 : Nat) : Int)) rfl (ex_add rfl rfl rfl (by rw [i64_in (by omega)]; omega)) (xM (vI ((i + 1 : Nat) : Int)) rfl ?_)
    refine wL ?_
    simp only [zP, po]
    refine then_normal ?_
    go_roundw
    case rel => exact ⟨i + 1, rfl, by omega, fun k hk => (by
       rcases Nat.lt_or_ge k i with h | h
       ·exact hall k h
       obtain rfl : k = i := by omega
       intro x' hx'
       rw [hx] at hx'; cases hx'
       refine ⟨by omega, fun j' y' hj' hy' => ?_⟩
       obtain rfl : j' = j := by omega
       rw [hy] at hy'; cases hy'; simpa using hc20), hv⟩
    case measure => show l.length - (((i + 1 : Nat) : Int)).toNat < l.length - ((i : Int)).toNat; omega
   refine xG (.bool false) rfl (ex_gtr rfl rfl rfl (qF hb19)) (xM (.bool false) rfl ?_)
   simp only [zP, po]
   refine yP rfl (yP rfl ?_)
   refine yP rfl ?_
   simp only [zP, po]
   refine yP rfl (yP rfl ?_)
   refine yP rfl ?_
   simp only [zP, po]
   refine yP rfl (xK false (.bool false) rfl ?_)
   refine xK false (.bool false) rfl ?_
   simp only [zP, po]
   refine wK k14 (cF rfl ?_)
   refine kS (bN ?_)
   refine tK k12 (rL ?_)
   refine xG (vI ((i + 1 : Nat) : Int)) rfl (ex_add rfl rfl rfl (by rw [i64_in (by omega)]; omega)) (xM (vI ((i + 1 : Nat) : Int)) rfl ?_)
   refine wL ?_
   simp only [zP, po]
   refine then_normal ?_
   go_roundw
   case rel => exact ⟨i + 1, rfl, by omega, fun k hk => (by
      rcases Nat.lt_or_ge k i with h | h
      ·exact hall k h
      obtain rfl : k = i := by omega
      intro x' hx'
      rw [hx] at hx'; cases hx'
      refine ⟨by omega, fun j' y' hj' hy' => ?_⟩
      omega), hv⟩
   case measure => show l.length - (((i + 1 : Nat) : Int)).toNat < l.length - ((i : Int)).toNat; omega
  refine xG (.bool false) rfl (ex_lss rfl rfl rfl (qF hb10)) ?_
  simp only [zP, po]
  refine wK k9 (sK fun _ k22 => ?_)
  refine cF rfl (xE ?_)
  refine tX (tX ?_)
  refine bH (tK k6 ?_)
  refine sK fun _ k23 => rL (xA (.bool true) rfl ?_)
  simp only [zP, po]
  refine wK k23 (rR ?_)
  refine bR rfl rfl ?_
  obtain rfl : i = l.length := by omega
  exact ⟨true, rfl, ⟨fun _ => ⟨by omega, fun k x hx => hall k (List.getElem?_eq_some_iff.1 hx).1 x hx⟩, fun _ => rfl⟩, hv⟩
theorem s10fa113_0 (w : World) (b o : Nat) : (Instr.fieldAt 113 (.pointer (some ⟨b, o, none⟩)) 0).run Tryz.prog w = .ok (.pointer (some ⟨b, o + 0, none⟩)) w := by kernel_rfl
theorem s10fa113_1 (w : World) (b o : Nat) : (Instr.fieldAt 113 (.pointer (some ⟨b, o, none⟩)) 1).run Tryz.prog w = .ok (.pointer (some ⟨b, o + 1, none⟩)) w := by kernel_rfl
set_option maxHeartbeats 2000000 in
theorem hashFits (B : Base) (H : List Res) (w : World) (x : List UInt8 × List UInt8) (hv : Inv B H w) :
  Calls Tryz.prog 212 #[.agg #[vS x.1, vS x.2]] w fun e w' => e = .returned (.bool (decide (x.1.length ≤ 4096 ∧ x.2.length ≤ 4096))) ∧ Inv B H w' := by
 refine cW Tryz.func212 rfl Tryz.ntmps212 ?_
 simp only [al]
 refine sK fun _ k1 => rL (sl_box (L := [vS x.1, vS x.2]) tV (wn rfl) rfl rfl hv (fun w => by kernel_rfl) (fun b2 w3 hv => ?_))
 refine xA (.bool false) rfl ?_
 simp only [zP, po]
 refine wK k1 (sK fun _ k4 => ?_)
 refine rL (xF (vP b2) rfl (s10fa113_0 _ _ _) ?_)
 refine xL _ rfl (run_load1 s9na9 (hv.load 0 0 rfl rfl)) (xG (vI (x.1.length : Int)) rfl (ex_lenStr Tryz.underlying9 rfl rfl) ?_)
 simp only [zP, po]
 by_cases hb5 : (x.1.length : Int) ≤ 4096
 ·refine xG (.bool true) rfl (ex_leq rfl rfl rfl (qT hb5)) (xM (.bool true) rfl ?_)
  refine xF (.pointer (some ⟨b2, 1, none⟩)) rfl (s10fa113_1 _ _ _) ?_
  simp only [zP, po]
  refine xL _ rfl (run_load1 s9na9 (hv.load 0 1 rfl rfl)) (xG (vI (x.2.length : Int)) rfl (ex_lenStr Tryz.underlying9 rfl rfl) ?_)
  by_cases hb6 : (x.2.length : Int) ≤ 4096
  ·refine xG (.bool true) rfl (ex_leq rfl rfl rfl (qT hb6)) ?_
   simp only [zP, po]
   refine xK true (.bool true) rfl (xA (.bool true) rfl ?_)
   simp only [zP, po]
   refine wK k4 (rR ?_)
   refine bR rfl rfl (⟨congrArg (fun b => Ending.returned (Value.bool b)) (by symm; first | exact qT (by constructor <;> omega) | exact qF (by omega)), (hv.kp [] 0 1)⟩)
  refine xG (.bool false) rfl (ex_leq rfl rfl rfl (qF hb6)) ?_
  simp only [zP, po]
  refine xK true (.bool false) rfl (xA (.bool false) rfl ?_)
  simp only [zP, po]
  refine wK k4 (rR ?_)
  refine bR rfl rfl (⟨congrArg (fun b => Ending.returned (Value.bool b)) (by symm; first | exact qT (by constructor <;> omega) | exact qF (by omega)), (hv.kp [] 0 1)⟩)
 refine xG (.bool false) rfl (ex_leq rfl rfl rfl (qF hb5)) (xM (.bool false) rfl ?_)
 iterate 4 refine yN rfl ?_
 refine xK false (.bool false) rfl ?_
 simp only [zP, po]
 refine xA (.bool false) rfl ?_
 simp only [zP, po]
 refine wK k4 (rR ?_)
 refine bR rfl rfl (⟨congrArg (fun b => Ending.returned (Value.bool b)) (by symm; first | exact qT (by constructor <;> omega) | exact qF (by omega)), (hv.kp [] 0 1)⟩)
theorem s10es75 (w : World) : (sizeOf (Tryz.prog.elem 75)).run Tryz.prog w = .ok 2 w := by kernel_rfl
theorem s10wd113 : Wide Tryz.prog 113 2 := wide_of (fun w => by kernel_rfl) (by kernel_rfl)
theorem s10al113 (w : World) : (Instr.alloc 113 true (.tuple #[])).run Tryz.prog w = .ok (.pointer (some ⟨w.heap.size, 0, none⟩)) (w.alloc (.cells ([vS [], vS []] : List Value).toArray 113)) := by kernel_rfl
theorem s10sz113 : (Tryz.prog.info? 113).map (·.size) = some 2 := by kernel_rfl
theorem s10callable212 : Callable Tryz.prog 212 := ⟨_, Tryz.func212, by kernel_rfl, by kernel_rfl⟩
set_option maxHeartbeats 2000000 in
theorem hashRightC (B : Base) (H : List Res) (w : World) (ad : Option Addr) (c : Nat) (l : List (List UInt8 × List UInt8)) (hr : RdV B [] ad (pairCells l)) (hm : l.length ≤ 1000000) (hv : Inv B H w) :
  Calls Tryz.prog 207 #[.slice ad l.length c] w fun e w' => ∃ b, e = .returned (.bool b) ∧ (b = true ↔ HashOk l) ∧ Inv B H w' := by
 refine cW Tryz.func207 rfl Tryz.ntmps207 ?_
 simp only [al]
 refine sK fun _ k1 => rL (xA (.bool false) rfl ?_)
 simp only [zP, po]
 refine wK k1 (sK fun _ k2 => ?_)
 refine sK fun _ k3 => rL (xM (.slice ad l.length c) rfl ?_)
 refine xG (vI (l.length : Int)) rfl (ex_len0 Tryz.underlying75 rfl rfl) ?_
 by_cases hb4 : (l.length : Int) > 512
 ·refine xG (.bool true) rfl (ex_gtr rfl rfl rfl (qT hb4)) ?_
  simp only [zP, po]
  refine wK k3 (cT rfl ?_)
  refine sK fun _ k5 => rL (xA (.bool false) rfl ?_)
  simp only [zP, po]
  refine wK k5 (rR ?_)
  refine tR (bR rfl rfl ?_)
  exact ⟨false, rfl, ⟨fun h => (by cases h), fun h => by have := h.1; omega⟩, hv⟩
 refine xG (.bool false) rfl (ex_gtr rfl rfl rfl (qF hb4)) ?_
 simp only [zP, po]
 refine wK k3 (cF rfl ?_)
 refine kS (tK k2 ?_)
 refine sK fun _ k6 => sK fun _ k7 => rL (xM (.slice ad l.length c) rfl ?_)
 refine xG (vI (l.length : Int)) rfl (ex_len0 Tryz.underlying75 rfl rfl) (xM (vI 0) rfl ?_)
 simp only [zP, po]
 refine wK k7 (bB ?_)
 gi_loopw [10] (fun x10 wr => ∃ (i : Nat), x10 = vI i ∧ i ≤ l.length ∧ (∀ k, k < i → HashAt l k) ∧ Inv B H wr) (fun x10 _ => l.length - (intOf x10).toNat)
 case atStart => exact ⟨0, rfl, Nat.zero_le _, fun k h => by omega, hv⟩
 case round =>
  obtain ⟨i, rfl, hi, hall, hv⟩ := hrel
  refine sK fun _ k9 => rL ?_
  by_cases hb10 : (i : Int) < (l.length : Int)
  ·refine xG (.bool true) rfl (ex_lss rfl rfl rfl (qT hb10)) ?_
   simp only [zP, po]
   refine wK k9 (sK fun _ k11 => ?_)
   refine cT rfl (kS ?_)
   refine tK k11 (sK fun _ k12 => ?_)
   refine bB (sK fun _ k13 => ?_)
   obtain ⟨x, hx⟩ : ∃ x, l[i]? = some x := ⟨_, List.getElem?_eq_getElem (show i < l.length by omega)⟩
   obtain ⟨bb, bo, had, hrdx⟩ := pair_reads hr hx
   subst had
   refine rL (xM (vI i) rfl ?_)
   refine xG (.pointer (some ⟨bb, bo + i * 2, none⟩)) rfl (ex_index rfl rfl rfl (run_idx (k := i) Tryz.underlying75 s10es75 (by omega))) (xL (.agg #[vS x.1, vS x.2]) rfl (run_loadR (cs := [vS x.1, vS x.2]) s10wd113 (Reads.mid (pre := []) (mid := [vS x.1, vS x.2]) (post := []) hrdx _ _ _ (Base.Le.refl _) no_res hv)) ?_)
   simp only [zP, po]
   refine sl_alloc tV (wn rfl) rfl hv s10al113 (fun b14 w15 hv => ?_)
   refine xA (vI i) rfl (xS 0 rfl hv s10sz113 rfl (by exact ⟨rfl, rfl, trivial⟩) (fun w16 hv => ?_))
   simp only [zO, sp] at hv
   simp only [zP, po]
   refine wK k13 (sK fun _ k17 => ?_)
   refine rW mixed [1] [0,1,2,3,4,5,6,7,8,9,10,11,12,13,14,15,16,17] 34 rfl (by kernel_rfl) hv ?_
   simp only [qm, opAt]
   refine dL (.agg #[vS x.1, vS x.2]) rfl (fun hv => ex_load rfl rfl (lM 0 s10wd113 hv rfl rfl rfl rfl)) (dS rfl fun w18 hv => ?_)
   by_cases hq19 : x.1.length ≤ 4096 ∧ x.2.length ≤ 4096
   ·refine mC s10callable212 rfl ((calls_bool (hashFits B _ _ x hv) (qT hq19)).mono ?_) rfl
    rintro e w20 ⟨rfl, hv⟩
    refine ⟨_, rfl, dW hv ?_⟩
    refine dG (.bool false) rfl (ex_not rfl rfl rfl) ?_
    simp only [zP, po]
    refine dM (.bool false) rfl (dM (vI i) rfl ?_)
    by_cases hb21 : (i : Int) > 0
    ·obtain ⟨j, hj⟩ : ∃ j : Nat, i = j + 1 := ⟨i - 1, by omega⟩
     obtain ⟨y, hy⟩ : ∃ x, l[j]? = some x := ⟨_, List.getElem?_eq_getElem (show j < l.length by omega)⟩
     obtain ⟨b9, o9, had9, hrdy⟩ := pair_reads hr hy
     cases had9
     skip
     refine dG (.bool true) rfl (ex_gtr rfl rfl rfl (qT hb21)) ?_
     simp only [zP, po]
     refine dM (.bool true) rfl (dM (.slice (some ⟨bb, bo, none⟩) l.length c) rfl ?_)
     refine dM (vI i) rfl ?_
     simp only [zP, po]
     refine dG (vI j) rfl (ex_sub rfl rfl rfl (by rw [i64_in (by omega)]; omega)) (dG (.pointer (some ⟨bb, bo + j * 2, none⟩)) rfl (ex_index rfl rfl rfl (run_idx (k := j) Tryz.underlying75 s10es75 (by omega))) ?_)
     refine dG (.pointer (some ⟨bb, bo + j * 2, none⟩)) rfl (ex_field rfl rfl (s10fa113_0 _ _ _)) ?_
     simp only [zP, po]
     refine dL _ rfl (fun hv => ex_load rfl rfl (run_load1 s9na9 (hrdy _ _ _ (Base.Le.refl _) no_res hv 0 _ rfl))) (dG (vP b14) rfl (ex_field rfl rfl (s10fa113_0 _ _ _)) ?_)
     refine dL _ rfl (fun hv => ex_load rfl rfl (run_load1 s9na9 (hv.load 0 0 rfl rfl))) ?_
     simp only [zP, po]
     refine dG (.bool (!Op.bytesLess y.1 x.1)) rfl (ex_sgeq rfl rfl rfl rfl) (dK true (.bool (!Op.bytesLess y.1 x.1)) rfl ?_)
     refine dK false (.bool (!Op.bytesLess y.1 x.1)) rfl (dE fun w22 hv => ?_)
     simp only [zP, po]
     refine tK k17 (wpIn_cond_split (t := !Op.bytesLess y.1 x.1) rfl (fun hc23 => ?_) (fun hc23 => ?_))
     ·refine sK fun _ k24 => rL (xA (.bool false) rfl ?_)
      simp only [zP, po]
      refine wK k24 (rR ?_)
      refine bZ (tR ?_)
      refine tR (bZ ?_)
      refine tR (bR rfl rfl ?_)
      exact ⟨false, rfl, ⟨fun h => (by cases h), fun h => by have := (h.2 i x hx).2 j y (by omega) hy; rw [this] at hc23; simp at hc23⟩, (hv.kp [] 0 1)⟩
     refine kS (bN ?_)
     refine tK k12 (rL ?_)
     refine xG (vI ((i + 1 : Nat) : Int)) rfl (ex_add rfl rfl rfl (by rw [i64_in (by omega)]; omega)) (xM (vI ((i + 1 : Nat) : Int)) rfl ?_)
     refine wL ?_
     simp only [zP, po]
     refine then_normal ?_
     go_roundw
     case rel => exact ⟨i + 1, rfl, by omega, fun k hk => (by
        rcases Nat.lt_or_ge k i with h | h
        ·exact hall k h
        obtain rfl : k = i := by omega
        intro x' hx'
        rw [hx] at hx'; cases hx'
        refine ⟨by exact hq19, fun j' y' hj' hy' => ?_⟩
        obtain rfl : j' = j := by omega
        rw [hy] at hy'; cases hy'; simpa using hc23), (hv.kp [] 0 1)⟩
     case measure => show l.length - (((i + 1 : Nat) : Int)).toNat < l.length - ((i : Int)).toNat; omega
    refine dG (.bool false) rfl (ex_gtr rfl rfl rfl (qF hb21)) ?_
    simp only [zP, po]
    refine dM (.bool false) rfl (dP rfl ?_)
    refine dP rfl ?_
    simp only [zP, po]
    refine dP rfl (dP rfl ?_)
    refine dP rfl ?_
    simp only [zP, po]
    refine dP rfl (dP rfl ?_)
    refine dP rfl ?_
    simp only [zP, po]
    refine dP rfl (dK false (.bool false) rfl ?_)
    refine dK false (.bool false) rfl (dE fun w25 hv => ?_)
    simp only [zP, po]
    refine tK k17 (cF rfl ?_)
    refine kS (bN ?_)
    refine tK k12 (rL ?_)
    refine xG (vI ((i + 1 : Nat) : Int)) rfl (ex_add rfl rfl rfl (by rw [i64_in (by omega)]; omega)) (xM (vI ((i + 1 : Nat) : Int)) rfl ?_)
    refine wL ?_
    simp only [zP, po]
    refine then_normal ?_
    go_roundw
    case rel => exact ⟨i + 1, rfl, by omega, fun k hk => (by
       rcases Nat.lt_or_ge k i with h | h
       ·exact hall k h
       obtain rfl : k = i := by omega
       intro x' hx'
       rw [hx] at hx'; cases hx'
       refine ⟨by exact hq19, fun j' y' hj' hy' => ?_⟩
       omega), (hv.kp [] 0 1)⟩
    case measure => show l.length - (((i + 1 : Nat) : Int)).toNat < l.length - ((i : Int)).toNat; omega
   refine mC s10callable212 rfl ((calls_bool (hashFits B _ _ x hv) (qF hq19)).mono ?_) rfl
   rintro e w26 ⟨rfl, hv⟩
   refine ⟨_, rfl, dW hv ?_⟩
   refine dG (.bool true) rfl (ex_not rfl rfl rfl) ?_
   simp only [zP, po]
   refine dM (.bool true) rfl (dP rfl ?_)
   refine dP rfl ?_
   simp only [zP, po]
   refine dP rfl (dP rfl ?_)
   refine dP rfl ?_
   simp only [zP, po]
   refine dP rfl (dP rfl ?_)
   refine dP rfl ?_
   simp only [zP, po]
   refine dP rfl (dP rfl ?_)
   refine dP rfl ?_
   simp only [zP, po]
   refine dP rfl (dP rfl ?_)
   refine dK true (.bool true) rfl (dE fun w27 hv => ?_)
   simp only [zP, po]
   refine tK k17 (cT rfl ?_)
   refine sK fun _ k28 => rL (xA (.bool false) rfl ?_)
   simp only [zP, po]
   refine wK k28 (rR ?_)
   refine bZ (tR ?_)
   refine tR (bZ ?_)
   refine tR (bR rfl rfl ?_)
   exact ⟨false, rfl, ⟨fun h => (by cases h), fun h => by have := (h.2 i x hx).1; first | omega | exact absurd this hq19⟩, (hv.kp [] 0 1)⟩
  refine xG (.bool false) rfl (ex_lss rfl rfl rfl (qF hb10)) ?_
  simp only [zP, po]
  refine wK k9 (sK fun _ k29 => ?_)
  refine cF rfl (xE ?_)
  refine tX (tX ?_)
  refine bH (tK k6 ?_)
  refine sK fun _ k30 => rL (xA (.bool true) rfl ?_)
  simp only [zP, po]
  refine wK k30 (rR ?_)
  refine bR rfl rfl ?_
  obtain rfl : i = l.length := by omega
  exact ⟨true, rfl, ⟨fun _ => ⟨by omega, fun k x hx => hall k (List.getElem?_eq_some_iff.1 hx).1 x hx⟩, fun _ => rfl⟩, hv⟩
end Go.Proofs.YtoljdfjnannakaaGreatDoor
/- zset.compare, zset.Right. -/
namespace Go.Proofs.YtoljdfjnannakaaGreatDoor
open Go.RowKit Go.Pm
def cmpI (a b : Int) : Int := if a < b then -1 else if a > b then 1 else 0
def cmpS (a b : List UInt8) : Int := if Op.bytesLess a b = true then -1 else if Op.bytesLess b a = true then 1 else 0
def orI (a b : Int) : Int := if a ≠ 0 then a else b
def cmpM (a b : Int × List UInt8) : Int := orI (cmpI a.1 b.1) (cmpS a.2 b.2)
set_option maxHeartbeats 2000000 in
theorem nanI (B : Base) (H : List Res) (w : World) (n : Int) (hv : Inv B H w) :
  Calls Tryz.prog 221 #[vI n] w fun e w' => e = .returned (.bool false) ∧ Inv B H w' := by
 refine cW Tryz.func221 rfl Tryz.ntmps221 ?_
 simp only [al]
 refine sK fun _ k1 => rL (xA (.bool false) rfl ?_)
 simp only [zP, po]
 refine wK k1 (sK fun _ k2 => ?_)
 refine rL (xM (vI n) rfl ?_)
 refine xM (vI n) rfl (xG (.bool false) rfl (ex_neq rfl rfl rfl (qF (by simp))) ?_)
 simp only [zP, po]
 refine xA (.bool false) rfl ?_
 simp only [zP, po]
 refine wK k2 (rR ?_)
 refine bR rfl rfl (⟨rfl, hv⟩)
set_option maxHeartbeats 2000000 in
theorem nanS (B : Base) (H : List Res) (w : World) (s : List UInt8) (hv : Inv B H w) :
  Calls Tryz.prog 113 #[vS s] w fun e w' => e = .returned (.bool false) ∧ Inv B H w' := by
 refine cW Tryz.func113 rfl Tryz.ntmps113 ?_
 simp only [al]
 refine sK fun _ k1 => rL (xA (.bool false) rfl ?_)
 simp only [zP, po]
 refine wK k1 (sK fun _ k2 => ?_)
 refine rL (xM (vS s) rfl ?_)
 refine xM (vS s) rfl (xG (.bool false) rfl (ex_sneq rfl rfl rfl (qF (by simp))) ?_)
 simp only [zP, po]
 refine xA (.bool false) rfl ?_
 simp only [zP, po]
 refine wK k2 (rR ?_)
 refine bR rfl rfl (⟨rfl, hv⟩)
theorem s11callable221 : Callable Tryz.prog 221 := ⟨_, Tryz.func221, by kernel_rfl, by kernel_rfl⟩
set_option maxHeartbeats 2000000 in
theorem cmpInt (B : Base) (H : List Res) (w : World) (a b : Int) (hv : Inv B H w) :
  Calls Tryz.prog 219 #[vI a, vI b] w fun e w' => e = .returned (vI (cmpI a b)) ∧ Inv B H w' := by
 refine cW Tryz.func219 rfl Tryz.ntmps219 ?_
 simp only [al]
 refine sK fun _ k1 => rL (xA (vI 0) rfl ?_)
 simp only [zP, po]
 refine wK k1 (sK fun _ k2 => ?_)
 refine rL (xM (vI a) rfl ?_)
 refine xC s11callable221 rfl ((nanI B _ _ _ hv).mono ?_) rfl
 rintro e w3 ⟨rfl, hv⟩
 refine ⟨_, rfl, ?_⟩
 refine xA (.bool false) rfl ?_
 simp only [zP, po]
 refine wK k2 (sK fun _ k4 => ?_)
 refine rL (xM (vI b) rfl ?_)
 refine xC s11callable221 rfl ((nanI B _ _ _ hv).mono ?_) rfl
 rintro e w5 ⟨rfl, hv⟩
 refine ⟨_, rfl, ?_⟩
 refine xA (.bool false) rfl ?_
 simp only [zP, po]
 refine wK k4 (sK fun _ k6 => ?_)
 refine sK fun _ k7 => rL (xM (.bool false) rfl ?_)
 simp only [zP, po]
 refine wK k7 (cF rfl ?_)
 refine kS (tK k6 ?_)
 refine sK fun _ k8 => sK fun _ k9 => rL (xM (.bool false) rfl ?_)
 simp only [zP, po]
 refine wK k9 (cF rfl ?_)
 refine kS (tK k8 ?_)
 refine sK fun _ k10 => sK fun _ k11 => rL (xM (vI a) rfl ?_)
 refine xM (vI b) rfl ?_
 by_cases hb12 : a < b
 ·refine xG (.bool true) rfl (ex_lss rfl rfl rfl (qT hb12)) ?_
  simp only [zP, po]
  refine wK k11 (cT rfl ?_)
  refine sK fun _ k13 => rL (xA (vI (-1)) rfl ?_)
  simp only [zP, po]
  refine wK k13 (rR ?_)
  refine tR (bR rfl rfl ?_)
  exact ⟨congrArg (fun b => Ending.returned (vI b)) (by unfold cmpI; simp [*]), hv⟩
 refine xG (.bool false) rfl (ex_lss rfl rfl rfl (qF hb12)) ?_
 simp only [zP, po]
 refine wK k11 (cF rfl ?_)
 refine kS (tK k10 ?_)
 refine sK fun _ k14 => sK fun _ k15 => rL (xM (vI a) rfl ?_)
 refine xM (vI b) rfl ?_
 by_cases hb16 : a > b
 ·refine xG (.bool true) rfl (ex_gtr rfl rfl rfl (qT hb16)) ?_
  simp only [zP, po]
  refine wK k15 (cT rfl ?_)
  refine sK fun _ k17 => rL (xA (vI 1) rfl ?_)
  simp only [zP, po]
  refine wK k17 (rR ?_)
  refine tR (bR rfl rfl ?_)
  exact ⟨congrArg (fun b => Ending.returned (vI b)) (by unfold cmpI; simp [*]), hv⟩
 refine xG (.bool false) rfl (ex_gtr rfl rfl rfl (qF hb16)) ?_
 simp only [zP, po]
 refine wK k15 (cF rfl ?_)
 refine kS (tK k14 ?_)
 refine sK fun _ k18 => rL (xA (vI 0) rfl ?_)
 simp only [zP, po]
 refine wK k18 (rR ?_)
 refine bR rfl rfl (⟨congrArg (fun b => Ending.returned (vI b)) (by unfold cmpI; simp [*]), hv⟩)
theorem s11callable113 : Callable Tryz.prog 113 := ⟨_, Tryz.func113, by kernel_rfl, by kernel_rfl⟩
set_option maxHeartbeats 2000000 in
theorem cmpStr (B : Base) (H : List Res) (w : World) (a b : (List UInt8)) (hv : Inv B H w) :
  Calls Tryz.prog 220 #[vS a, vS b] w fun e w' => e = .returned (vI (cmpS a b)) ∧ Inv B H w' := by
 refine cW Tryz.func220 rfl Tryz.ntmps220 ?_
 simp only [al]
 refine sK fun _ k1 => rL (xA (vI 0) rfl ?_)
 simp only [zP, po]
 refine wK k1 (sK fun _ k2 => ?_)
 refine rL (xM (vS a) rfl ?_)
 refine xC s11callable113 rfl ((nanS B _ _ _ hv).mono ?_) rfl
 rintro e w3 ⟨rfl, hv⟩
 refine ⟨_, rfl, ?_⟩
 refine xA (.bool false) rfl ?_
 simp only [zP, po]
 refine wK k2 (sK fun _ k4 => ?_)
 refine rL (xM (vS b) rfl ?_)
 refine xC s11callable113 rfl ((nanS B _ _ _ hv).mono ?_) rfl
 rintro e w5 ⟨rfl, hv⟩
 refine ⟨_, rfl, ?_⟩
 refine xA (.bool false) rfl ?_
 simp only [zP, po]
 refine wK k4 (sK fun _ k6 => ?_)
 refine sK fun _ k7 => rL (xM (.bool false) rfl ?_)
 simp only [zP, po]
 refine wK k7 (cF rfl ?_)
 refine kS (tK k6 ?_)
 refine sK fun _ k8 => sK fun _ k9 => rL (xM (.bool false) rfl ?_)
 simp only [zP, po]
 refine wK k9 (cF rfl ?_)
 refine kS (tK k8 ?_)
 refine sK fun _ k10 => sK fun _ k11 => rL (xM (vS a) rfl ?_)
 refine xM (vS b) rfl (xG (.bool (Op.bytesLess a b)) rfl (ex_slss rfl rfl rfl rfl) ?_)
 simp only [zP, po]
 refine wK k11 (wpIn_cond_split (t := Op.bytesLess a b) rfl (fun hc12 => ?_) (fun hc12 => ?_))
 ·refine sK fun _ k13 => rL (xA (vI (-1)) rfl ?_)
  simp only [zP, po]
  refine wK k13 (rR ?_)
  refine tR (bR rfl rfl ?_)
  exact ⟨congrArg (fun b => Ending.returned (vI b)) (by unfold cmpS; simp [*]), hv⟩
 refine kS (tK k10 ?_)
 refine sK fun _ k14 => sK fun _ k15 => rL (xM (vS a) rfl ?_)
 refine xM (vS b) rfl (xG (.bool (Op.bytesLess b a)) rfl (ex_sgtr rfl rfl rfl rfl) ?_)
 simp only [zP, po]
 refine wK k15 (wpIn_cond_split (t := Op.bytesLess b a) rfl (fun hc16 => ?_) (fun hc16 => ?_))
 ·refine sK fun _ k17 => rL (xA (vI 1) rfl ?_)
  simp only [zP, po]
  refine wK k17 (rR ?_)
  refine tR (bR rfl rfl ?_)
  exact ⟨congrArg (fun b => Ending.returned (vI b)) (by unfold cmpS; simp [*]), hv⟩
 refine kS (tK k14 ?_)
 refine sK fun _ k18 => rL (xA (vI 0) rfl ?_)
 simp only [zP, po]
 refine wK k18 (rR ?_)
 refine bR rfl rfl (⟨congrArg (fun b => Ending.returned (vI b)) (by unfold cmpS; simp [*]), hv⟩)
theorem s11es149 (w : World) : (sizeOf (Tryz.prog.elem 149)).run Tryz.prog w = .ok 1 w := by kernel_rfl
set_option maxHeartbeats 2000000 in
theorem cmpOr (B : Base) (H : List Res) (w : World) (ad : Option Addr) (a b : Int) (R : List Res) (hRH : ∀ r ∈ R, r ∈ H) (hr : RdW B R ad [vI a, vI b]) (hv : Inv B H w) :
  Calls Tryz.prog 218 #[.slice ad 2 2] w fun e w' => e = .returned (vI (orI a b)) ∧ Inv B H w' := by
 refine cW Tryz.func218 rfl Tryz.ntmps218 ?_
 simp only [al]
 refine sK fun _ k1 => rL (xA (vI 0) rfl ?_)
 simp only [zP, po]
 refine wK k1 (sK fun _ k2 => ?_)
 refine rL (xA (vI 0) rfl ?_)
 simp only [zP, po]
 refine wK k2 (sK fun _ k3 => ?_)
 refine sK fun _ k4 => rL (xM (.slice ad 2 2) rfl ?_)
 refine xG (vI 2) rfl (ex_len0 Tryz.underlying149 rfl rfl) (xM (vI 0) rfl ?_)
 simp only [zP, po]
 refine wK k4 (bB ?_)
 gi_loopw [8] (fun x8 wr => ∃ (i : Nat), x8 = vI i ∧ i ≤ 2 ∧ (0 < i → a = 0) ∧ (1 < i → b = 0) ∧ Inv B H wr) (fun x8 _ => 2 - (intOf x8).toNat)
 case atStart => exact ⟨0, rfl, Nat.zero_le _, fun h => by omega, fun h => by omega, hv⟩
 case round =>
  obtain ⟨i, rfl, hi, ha0, hb0, hv⟩ := hrel
  refine sK fun _ k6 => rL ?_
  by_cases hb7 : (i : Int) < 2
  ·refine xG (.bool true) rfl (ex_lss rfl rfl rfl (qT hb7)) ?_
   simp only [zP, po]
   refine wK k6 (sK fun _ k8 => ?_)
   refine cT rfl (kS ?_)
   refine tK k8 (sK fun _ k9 => ?_)
   refine bB (sK fun _ k10 => ?_)
   obtain ⟨x, hx⟩ : ∃ x : Int, ([a, b] : List Int)[i]? = some x := ⟨_, List.getElem?_eq_getElem (by simp; omega)⟩
   have hxv : ([vI a, vI b] : List Value)[i]? = some (vI x) := by
    rcases (show i = 0 ∨ i = 1 by omega) with h | h <;> subst h <;> simp at hx ⊢ <;> exact hx
   obtain ⟨bb, bo, had, hrd⟩ := row1_reads hr hxv
   subst had
   refine rL (xG (.pointer (some ⟨bb, bo + i, none⟩)) rfl (ex_index rfl rfl rfl (run_idx1 (k := i) Tryz.underlying149 s11es149 (by omega))) ?_)
   refine xL _ rfl (run_load1 s2na3 (hrd _ _ _ (Base.Le.refl _) (fun r9 hr9 => (hRH r9 hr9)) hv 0 _ rfl)) (xA (vI x) rfl ?_)
   simp only [zP, po]
   refine wK k10 (sK fun _ k11 => ?_)
   refine rL (xM (vI x) rfl ?_)
   refine xM (vI 0) rfl ?_
   by_cases hb12 : x ≠ 0
   ·refine xG (.bool true) rfl (ex_neq rfl rfl rfl (qT hb12)) ?_
    simp only [zP, po]
    refine wK k11 (cT rfl ?_)
    refine sK fun _ k13 => rL (xM (vI x) rfl ?_)
    refine xA (vI x) rfl ?_
    simp only [zP, po]
    refine wK k13 (rR ?_)
    refine bZ (tR ?_)
    refine tR (bZ ?_)
    refine tR (bR rfl rfl ?_)
    exact ⟨congrArg (fun b => Ending.returned (vI b)) (by unfold orI; rcases (show i = 0 ∨ i = 1 by omega) with h | h <;> subst h <;> simp at hx <;> subst hx <;> (try rw [if_neg (by have := ha0 (by omega); omega)]) <;> (try rw [if_pos (by omega)])), hv⟩
   refine xG (.bool false) rfl (ex_neq rfl rfl rfl (qF hb12)) ?_
   simp only [zP, po]
   refine wK k11 (cF rfl ?_)
   refine kS (bN ?_)
   refine tK k9 (rL ?_)
   refine xG (vI ((i + 1 : Nat) : Int)) rfl (ex_add rfl rfl rfl (by rw [i64_in (by omega)]; omega)) (xM (vI ((i + 1 : Nat) : Int)) rfl ?_)
   refine wL ?_
   simp only [zP, po]
   refine then_normal ?_
   go_roundw
   case rel => exact ⟨i + 1, rfl, by omega, fun _ => by rcases (show i = 0 ∨ i = 1 by omega) with h | h <;> subst h <;> simp at hx <;> omega, fun _ => by rcases (show i = 0 ∨ i = 1 by omega) with h | h <;> subst h <;> simp at hx <;> omega, hv⟩
   case measure => show 2 - (((i + 1 : Nat) : Int)).toNat < 2 - ((i : Int)).toNat; omega
  refine xG (.bool false) rfl (ex_lss rfl rfl rfl (qF hb7)) ?_
  simp only [zP, po]
  refine wK k6 (sK fun _ k14 => ?_)
  refine cF rfl (xE ?_)
  refine tX (tX ?_)
  refine bH (tK k3 ?_)
  refine sK fun _ k15 => rL (xM (vI 0) rfl ?_)
  refine xA (vI 0) rfl ?_
  simp only [zP, po]
  refine wK k15 (rR ?_)
  refine bR rfl rfl (⟨congrArg (fun b => Ending.returned (vI b)) (by unfold orI; rw [if_neg (by have := ha0 (by omega); omega)]; have := hb0 (by omega); omega), hv⟩)
theorem s11fa115_0 (w : World) (b o : Nat) : (Instr.fieldAt 115 (.pointer (some ⟨b, o, none⟩)) 0).run Tryz.prog w = .ok (.pointer (some ⟨b, o + 0, none⟩)) w := by kernel_rfl
theorem s11callable219 : Callable Tryz.prog 219 := ⟨_, Tryz.func219, by kernel_rfl, by kernel_rfl⟩
theorem s11callable220 : Callable Tryz.prog 220 := ⟨_, Tryz.func220, by kernel_rfl, by kernel_rfl⟩
theorem s11callable218 : Callable Tryz.prog 218 := ⟨_, Tryz.func218, by kernel_rfl, by kernel_rfl⟩
set_option maxHeartbeats 2000000 in
theorem zsetCompare (B : Base) (H : List Res) (w : World) (x y : Int × List UInt8) (hv : Inv B H w) :
  Calls Tryz.prog 216 #[.agg #[vI x.1, vS x.2], .agg #[vI y.1, vS y.2]] w fun e w' => e = .returned (vI (cmpM x y)) ∧ Inv B H w' := by
 refine cW Tryz.func216 rfl Tryz.ntmps216 ?_
 simp only [al]
 refine sK fun _ k1 => rL (sl_box (L := [vI x.1, vS x.2]) tV (wn rfl) rfl rfl hv (fun w => by kernel_rfl) (fun b2 w3 hv => ?_))
 refine sl_box (L := [vI y.1, vS y.2]) tV (wn rfl) rfl rfl hv (fun w => by kernel_rfl) (fun b4 w5 hv => ?_)
 refine xA (vI 0) rfl ?_
 simp only [zP, po]
 refine wK k1 (sK fun _ k6 => ?_)
 refine rW mixed [4, 9, 10, 11] [0,1,2,3,5,6,7,8,4,9,10,11,12] 17 rfl (by kernel_rfl) hv ?_
 simp only [qm, opAt]
 refine dG (vP b2) rfl (ex_field rfl rfl (s11fa115_0 _ _ _)) (dL _ rfl (fun hv => ex_load rfl rfl (run_load1 s2na3 (hv.load 1 0 rfl rfl))) ?_)
 refine dG (vP b4) rfl (ex_field rfl rfl (s11fa115_0 _ _ _)) ?_
 simp only [zP, po]
 refine dL _ rfl (fun hv => ex_load rfl rfl (run_load1 s2na3 (hv.load 0 0 rfl rfl))) (dG (.pointer (some ⟨b2, 1, none⟩)) rfl (ex_field rfl rfl (s9fa115_1 _ _ _)) ?_)
 refine dF _ rfl (fun hv => ex_load rfl rfl (run_load1 s9na9 (hv.load 1 1 rfl rfl))) fun f7 hf7 => ?_
 simp only [zP, po]
 refine dG (.pointer (some ⟨b4, 1, none⟩)) rfl (ex_field rfl rfl (s9fa115_1 _ _ _)) (dF _ rfl (fun hv => ex_load rfl rfl (run_load1 s9na9 (hv.load 0 1 rfl rfl))) fun f8 hf8 => ?_)
 refine dS rfl fun w9 hv => mC s11callable219 rfl ((cmpInt B _ _ _ _ hv).mono ?_) rfl
 rintro e w10 ⟨rfl, hv⟩
 refine ⟨_, rfl, dV hv (fC (fun ww hv => hf8 ww (ex_load rfl rfl (run_load1 s9na9 (hv.load 0 1 rfl rfl)))) (fC (fun ww hv => hf7 ww (ex_load rfl rfl (run_load1 s9na9 (hv.load 1 1 rfl rfl)))) fN)) ?_⟩
 simp only [zP, po]
 refine dS rfl fun w11 hv => mC s11callable220 rfl ((cmpStr B _ _ _ _ hv).mono ?_) rfl
 rintro e w12 ⟨rfl, hv⟩
 refine ⟨_, rfl, dV hv (fK rfl (fK rfl fN)) ?_⟩
 refine dS rfl fun w13 hv => mem_row2 (v1 := vI (cmpI x.1 y.1)) (v2 := vI (cmpS x.2 y.2)) (e := 3) rfl rfl rfl rfl hv (fun w => by kernel_rfl) (fun b14 w15 hv => ?_)
 refine dV hv (fK rfl (fK rfl fN)) (dS rfl fun w16 hv => ?_)
 refine mC s11callable218 rfl ((cmpOr B _ _ _ (cmpI x.1 y.1) (cmpS x.2 y.2) [_] (fun r hr => by rw [List.mem_singleton.1 hr]; exact List.mem_of_getElem? (i := 0) rfl) rdW_cell hv).mono ?_) rfl
 rintro e w17 ⟨rfl, hv⟩
 refine ⟨_, rfl, dV hv (fK rfl (fK rfl fN)) ?_⟩
 simp only [zP, po]
 refine dA (vI (cmpM x y)) rfl (dE fun w18 hv => ?_)
 simp only [zP, po]
 refine tK k6 (rR ?_)
 refine bR rfl rfl (⟨rfl, (hv.kp [] 0 3)⟩)
def memName (m : Int × List UInt8) : List UInt8 := m.2
def ZsetAt (l : List (Int × List UInt8)) (i : Nat) : Prop := ∀ x, l[i]? = some x → ∀ (j : Nat) y, i = j + 1 → l[j]? = some y → cmpM y x < 0
def ZsetOk (l : List (Int × List UInt8)) : Prop := l.length ≤ 512 ∧ l.any (fun m => decide (m.2.length > 4096)) = false ∧ (∀ i, ZsetAt l i) ∧ (l.map memName).Nodup
theorem s11callable215 : Callable Tryz.prog 215 := ⟨_, Tryz.func215, by kernel_rfl, by kernel_rfl⟩
theorem s11callable214 : Callable Tryz.prog 214 := ⟨_, Tryz.func214, by kernel_rfl, by kernel_rfl⟩
theorem s11al115 (w : World) : (Instr.alloc 115 true (.tuple #[])).run Tryz.prog w = .ok (.pointer (some ⟨w.heap.size, 0, none⟩)) (w.alloc (.cells ([vI 0, vS []] : List Value).toArray 115)) := by kernel_rfl
theorem s11sz115 : (Tryz.prog.info? 115).map (·.size) = some 2 := by kernel_rfl
theorem s11callable216 : Callable Tryz.prog 216 := ⟨_, Tryz.func216, by kernel_rfl, by kernel_rfl⟩
set_option maxHeartbeats 2000000 in
theorem zsetRightC (B : Base) (H : List Res) (w : World) (ad : Option Addr) (c : Nat) (l : List (Int × List UInt8)) (hr : RdV B [] ad (memCells l)) (hm : l.length ≤ 1000000) (hv : Inv B H w) :
  Calls Tryz.prog 210 #[.slice ad l.length c] w fun e w' => ∃ b, e = .returned (.bool b) ∧ (b = true ↔ ZsetOk l) ∧ Inv B H w' := by
 refine cW Tryz.func210 rfl Tryz.ntmps210 ?_
 simp only [al]
 refine sK fun _ k1 => rL (xA (.bool false) rfl ?_)
 simp only [zP, po]
 refine wK k1 (sK fun _ k2 => ?_)
 refine sK fun _ k3 => rL (xM (.slice ad l.length c) rfl ?_)
 refine xG (vI (l.length : Int)) rfl (ex_len0 Tryz.underlying76 rfl rfl) ?_
 by_cases hb4 : (l.length : Int) > 512
 ·refine xG (.bool true) rfl (ex_gtr rfl rfl rfl (qT hb4)) ?_
  simp only [zP, po]
  refine xM (.bool true) rfl ?_
  iterate 2 refine yN rfl ?_
  refine xK true (.bool true) rfl ?_
  simp only [zP, po]
  refine wK k3 (cT rfl ?_)
  refine sK fun _ k5 => rL (xA (.bool false) rfl ?_)
  simp only [zP, po]
  refine wK k5 (rR ?_)
  refine tR (bR rfl rfl ?_)
  exact ⟨false, rfl, ⟨fun h => (by cases h), fun h => by have := h.1; omega⟩, hv⟩
 refine xG (.bool false) rfl (ex_gtr rfl rfl rfl (qF hb4)) ?_
 simp only [zP, po]
 refine xM (.bool false) rfl (xM (.slice ad l.length c) rfl ?_)
 refine xC s11callable214 rfl ((containsFuncMem B _ _ 215 #[] ad c l (fun m : Int × List UInt8 => decide (m.2.length > 4096)) hr hm s11callable215 (fun x _ w hv => zsetLong B _ w x.1 x.2 hv) hv).mono ?_) rfl
 rintro e w6 ⟨rfl, hv⟩
 refine ⟨_, rfl, ?_⟩
 simp only [zP, po]
 refine xK false (.bool (l.any (fun m : Int × List UInt8 => decide (m.2.length > 4096)))) rfl ?_
 simp only [zP, po]
 refine wK k3 (wpIn_cond_split (t := l.any (fun m : Int × List UInt8 => decide (m.2.length > 4096))) rfl (fun hc7 => ?_) (fun hc7 => ?_))
 ·refine sK fun _ k8 => rL (xA (.bool false) rfl ?_)
  simp only [zP, po]
  refine wK k8 (rR ?_)
  refine tR (bR rfl rfl ?_)
  exact ⟨false, rfl, ⟨fun h => (by cases h), fun h => by have := h.2.1; rw [hc7] at this; cases this⟩, hv⟩
 refine kS (tK k2 ?_)
 refine sK fun _ k9 => rL (xM (.slice ad l.length c) rfl ?_)
 refine xG (vI (l.length : Int)) rfl (ex_len0 Tryz.underlying76 rfl rfl) (sl_makeMap (m := (l.length : Int)) tV (wn rfl) rfl rfl Tryz.underlying298 hv (fun mp10 w11 hv => ?_))
 simp only [zP, po]
 refine xA (.map (some mp10)) rfl ?_
 simp only [zP, po]
 refine wK k9 (sK fun _ k12 => ?_)
 refine sK fun _ k13 => rL (xM (.slice ad l.length c) rfl ?_)
 refine xG (vI (l.length : Int)) rfl (ex_len0 Tryz.underlying76 rfl rfl) (xM (vI 0) rfl ?_)
 simp only [zP, po]
 refine wK k13 (bB ?_)
 gi_loopw [18] (fun x18 wr => ∃ (i : Nat), x18 = vI i ∧ i ≤ l.length ∧ (∀ k, k < i → ZsetAt l k) ∧ Inv B (Res.keys mp10 (keysOf ((l.take i).map memName)) (i : Int) :: H) wr) (fun x18 _ => l.length - (intOf x18).toNat)
 case atStart => exact ⟨0, rfl, Nat.zero_le _, fun k h => by omega, hv⟩
 case round =>
  obtain ⟨i, rfl, hi, hall, hv⟩ := hrel
  refine sK fun _ k15 => rL ?_
  by_cases hb16 : (i : Int) < (l.length : Int)
  ·refine xG (.bool true) rfl (ex_lss rfl rfl rfl (qT hb16)) ?_
   simp only [zP, po]
   refine wK k15 (sK fun _ k17 => ?_)
   refine cT rfl (kS ?_)
   refine tK k17 (sK fun _ k18 => ?_)
   refine bB (sK fun _ k19 => ?_)
   obtain ⟨x, hx⟩ : ∃ x, l[i]? = some x := ⟨_, List.getElem?_eq_getElem (show i < l.length by omega)⟩
   obtain ⟨bb, bo, had, hrdx⟩ := mem_reads hr hx
   subst had
   refine rL (xM (vI i) rfl ?_)
   refine xG (.pointer (some ⟨bb, bo + i * 2, none⟩)) rfl (ex_index rfl rfl rfl (run_idx (k := i) Tryz.underlying76 s9es76 (by omega))) (xL (.agg #[vI x.1, vS x.2]) rfl (run_loadR (cs := [vI x.1, vS x.2]) s9wd115 (Reads.mid (pre := []) (mid := [vI x.1, vS x.2]) (post := []) hrdx _ _ _ (Base.Le.refl _) no_res hv)) ?_)
   simp only [zP, po]
   refine sl_alloc tV (wn rfl) rfl hv s11al115 (fun b20 w21 hv => ?_)
   refine xA (vI i) rfl (xS 0 rfl hv s11sz115 rfl (by exact ⟨rfl, rfl, trivial⟩) (fun w22 hv => ?_))
   simp only [zO, sp] at hv
   simp only [zP, po]
   refine wK k19 (sK fun _ k23 => ?_)
   refine sK fun _ k24 => rW mixed [9] [0,1,2,3,4,5,6,7,8,9,10,11] 45 rfl (by kernel_rfl) hv ?_
   simp only [qm, opAt]
   refine dM (vI i) rfl ?_
   by_cases hb25 : (i : Int) > 0
   ·obtain ⟨j, hj⟩ : ∃ j : Nat, i = j + 1 := ⟨i - 1, by omega⟩
    obtain ⟨y, hy⟩ : ∃ x, l[j]? = some x := ⟨_, List.getElem?_eq_getElem (show j < l.length by omega)⟩
    obtain ⟨b9, o9, had9, hrdy⟩ := mem_reads hr hy
    cases had9
    skip
    refine dG (.bool true) rfl (ex_gtr rfl rfl rfl (qT hb25)) (dM (.bool true) rfl ?_)
    simp only [zP, po]
    refine dM (.slice (some ⟨bb, bo, none⟩) l.length c) rfl (dM (vI i) rfl ?_)
    refine dG (vI j) rfl (ex_sub rfl rfl rfl (by rw [i64_in (by omega)]; omega)) ?_
    simp only [zP, po]
    refine dG (.pointer (some ⟨bb, bo + j * 2, none⟩)) rfl (ex_index rfl rfl rfl (run_idx (k := j) Tryz.underlying76 s9es76 (by omega))) (dL (.agg #[vI y.1, vS y.2]) rfl (fun hv => ex_load rfl rfl (run_loadR (cs := [vI y.1, vS y.2]) s9wd115 (Reads.mid (pre := []) (mid := [vI y.1, vS y.2]) (post := []) hrdy _ _ _ (Base.Le.refl _) no_res hv))) ?_)
    refine dL (.agg #[vI x.1, vS x.2]) rfl (fun hv => ex_load rfl rfl (lM 0 s9wd115 hv rfl rfl rfl rfl)) ?_
    simp only [zP, po]
    refine dS rfl fun w26 hv => mC s11callable216 rfl ((zsetCompare B _ _ y x hv).mono ?_) rfl
    rintro e w27 ⟨rfl, hv⟩
    refine ⟨_, rfl, dW hv ?_⟩
    by_cases hb28 : (cmpM y x) ≥ 0
    ·refine dG (.bool true) rfl (ex_geq rfl rfl rfl (qT hb28)) (dK true (.bool true) rfl ?_)
     refine dE fun w29 hv => ?_
     simp only [zP, po]
     refine tK k24 (cT rfl ?_)
     refine sK fun _ k30 => rL (xA (.bool false) rfl ?_)
     simp only [zP, po]
     refine wK k30 (rR ?_)
     refine tR (bZ ?_)
     refine tR (tR ?_)
     refine bZ (tR ?_)
     refine bR rfl rfl (⟨false, rfl, ⟨fun h => (by cases h), fun h => by have := h.2.2.1 i x hx j y (by omega) hy; omega⟩, (hv.kp [] 0 2)⟩)
    refine dG (.bool false) rfl (ex_geq rfl rfl rfl (qF hb28)) (dK true (.bool false) rfl ?_)
    refine dE fun w31 hv => ?_
    simp only [zP, po]
    refine tK k24 (cF rfl ?_)
    refine kS (tK k23 ?_)
    refine rL (xM (.map (some mp10)) rfl ?_)
    refine xF (.pointer (some ⟨b20, 1, none⟩)) rfl (s9fa115_1 _ _ _) (xL _ rfl (run_load1 s9na9 (hv.load 0 1 rfl rfl)) ?_)
    simp only [zP, po]
    refine xM (vI i) rfl ?_
    replace hv := hv.front 1 rfl
    simp only [eS, eZ] at hv
    refine sl_updStr (k := x.2) (m' := ((i + 1 : Nat) : Int)) tV (wn rfl) rfl rfl rfl rfl Tryz.underlying298 Tryz.underlying9 hv (by omega) (by omega) (fun w32 hv => ?_)
    refine wL ?_
    simp only [zP, po]
    refine bN (tK k18 ?_)
    refine rL (xG (vI ((i + 1 : Nat) : Int)) rfl (ex_add rfl rfl rfl (by rw [i64_in (by omega)]; omega)) ?_)
    refine xM (vI ((i + 1 : Nat) : Int)) rfl (wL ?_)
    simp only [zP, po]
    refine then_normal ?_
    go_roundw
    case rel => exact ⟨i + 1, rfl, by omega, fun k hk => (by
       rcases Nat.lt_or_ge k i with h | h
       ·exact hall k h
       obtain rfl : k = i := by omega
       intro x' hx'
       rw [hx] at hx'; cases hx'
       intro j' y' hj' hy'
       obtain rfl : j' = j := by omega
       rw [hy] at hy'; cases hy'; omega), by rw [take_next hx, List.map_append, List.map_cons, List.map_nil, keysOf_snoc]; exact (hv.kp [] 1 1)⟩
    case measure => show l.length - (((i + 1 : Nat) : Int)).toNat < l.length - ((i : Int)).toNat; omega
   refine dG (.bool false) rfl (ex_gtr rfl rfl rfl (qF hb25)) (dM (.bool false) rfl ?_)
   simp only [zP, po]
   refine dP rfl (dP rfl ?_)
   refine dP rfl ?_
   simp only [zP, po]
   refine dP rfl (dP rfl ?_)
   refine dP rfl ?_
   simp only [zP, po]
   refine dP rfl (dP rfl ?_)
   refine dK false (.bool false) rfl (dE fun w33 hv => ?_)
   simp only [zP, po]
   refine tK k24 (cF rfl ?_)
   refine kS (tK k23 ?_)
   refine rL (xM (.map (some mp10)) rfl ?_)
   refine xF (.pointer (some ⟨b20, 1, none⟩)) rfl (s9fa115_1 _ _ _) (xL _ rfl (run_load1 s9na9 (hv.load 0 1 rfl rfl)) ?_)
   simp only [zP, po]
   refine xM (vI i) rfl ?_
   replace hv := hv.front 1 rfl
   simp only [eS, eZ] at hv
   refine sl_updStr (k := x.2) (m' := ((i + 1 : Nat) : Int)) tV (wn rfl) rfl rfl rfl rfl Tryz.underlying298 Tryz.underlying9 hv (by omega) (by omega) (fun w34 hv => ?_)
   refine wL ?_
   simp only [zP, po]
   refine bN (tK k18 ?_)
   refine rL (xG (vI ((i + 1 : Nat) : Int)) rfl (ex_add rfl rfl rfl (by rw [i64_in (by omega)]; omega)) ?_)
   refine xM (vI ((i + 1 : Nat) : Int)) rfl (wL ?_)
   simp only [zP, po]
   refine then_normal ?_
   go_roundw
   case rel => exact ⟨i + 1, rfl, by omega, fun k hk => (by
      rcases Nat.lt_or_ge k i with h | h
      ·exact hall k h
      obtain rfl : k = i := by omega
      intro x' hx'
      rw [hx] at hx'; cases hx'
      intro j' y' hj' hy'
      omega), by rw [take_next hx, List.map_append, List.map_cons, List.map_nil, keysOf_snoc]; exact (hv.kp [] 1 1)⟩
   case measure => show l.length - (((i + 1 : Nat) : Int)).toNat < l.length - ((i : Int)).toNat; omega
  refine xG (.bool false) rfl (ex_lss rfl rfl rfl (qF hb16)) ?_
  simp only [zP, po]
  refine wK k15 (sK fun _ k35 => ?_)
  refine cF rfl (xE ?_)
  refine tX (tX ?_)
  refine bH (tK k12 ?_)
  refine sK fun _ k36 => rL (xM (.map (some mp10)) rfl ?_)
  refine xG (vI ((keysOf ((l.take i).map memName)).length : Int)) rfl (ex_lenMap 0 Tryz.underlying298 rfl rfl hv rfl) (xM (.slice ad l.length c) rfl ?_)
  simp only [zP, po]
  refine xG (vI (l.length : Int)) rfl (ex_len0 Tryz.underlying76 rfl rfl) (xG (.bool (decide (((keysOf ((l.take i).map memName)).length : Int) = (l.length : Int)))) rfl (ex_eql rfl rfl rfl rfl) ?_)
  refine xA (.bool (decide (((keysOf ((l.take i).map memName)).length : Int) = (l.length : Int)))) rfl ?_
  simp only [zP, po]
  refine wK k36 (rR ?_)
  refine bR rfl rfl ?_
  obtain rfl : i = l.length := by omega
  have h9 := keysOf_len (l.map memName)
  rw [List.length_map] at h9
  refine ⟨_, rfl, ?_, (hv.kp [] 0 1)⟩
  rw [List.take_length, decide_eq_true_iff]
  constructor
  ·intro h
   exact ⟨by omega, by simpa using hc7, fun k x hx => hall k (List.getElem?_eq_some_iff.1 hx).1 x hx, h9.2.1 (by omega)⟩
  intro h
  have := h9.2.2 h.2.2.2
  omega
end Go.Proofs.YtoljdfjnannakaaGreatDoor
