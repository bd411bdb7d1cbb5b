/- Copies of values and versions. -/
import Derived.Test.YtkoghbmjbobfjaaGreatVwKeepB
import Derived.Test.YtkoghbmjbobfjaaGreatRows
set_option maxRecDepth 100000
namespace Go.Proofs.YtkoghbmjbobfjaaGreat
open Go.RowKit Go.Pm
theorem mixed : Tryz.prog.follows .mixedOrders = true := by kernel_rfl
set_option maxHeartbeats 2000000 in
theorem clonePairs0 (B : Base) (H : List Res) (w : World) (hv : Inv B H w) :
  Calls Tryz.prog 63 #[.slice none 0 0] w fun e w' => e = .returned (.slice none 0 0) ∧ Inv B H w' := by
 refine cW Tryz.func63 rfl Tryz.ntmps63 ?_
 simp only [al]
 refine sK fun _ k1 => rL (xA (.slice none 0 0) rfl ?_)
 simp only [zP, po]
 refine wK k1 (sK fun _ k2 => ?_)
 refine sK fun _ k3 => rL (xM (.slice none 0 0) rfl ?_)
 refine xG (.bool true) rfl (ex_slnil Tryz.underlying32 rfl rfl rfl rfl) ?_
 simp only [zP, po]
 refine wK k3 (cT rfl ?_)
 refine sK fun _ k4 => rL (xA (.slice none 0 0) rfl ?_)
 simp only [zP, po]
 refine wK k4 (rR ?_)
 refine tR (bR rfl rfl ?_)
 exact ⟨rfl, hv⟩
theorem s1mk97 : (Tryz.prog.info? 97).map (fun i => (i.zero, i.size, i.bytes)) = some (some (.agg #[.string ⟨([] : List UInt8).toArray⟩, .string ⟨([] : List UInt8).toArray⟩]), 2, 32) := by kernel_rfl
theorem s1el32 : Elem Tryz.prog 32 97 (.agg #[.string ⟨([] : List UInt8).toArray⟩, .string ⟨([] : List UInt8).toArray⟩]) 2 32 := elem_of Tryz.underlying32 s1mk97 (by rfl) (by decide)
set_option maxHeartbeats 2000000 in
theorem clonePairs1 (B : Base) (H : List Res) (w : World) (a : Addr) (n c : Nat) (xs : List Value) (hok : SliceOk (some a) n c) (hl : xs.length = n * 2) (h1 : ∀ u ∈ xs, u.oneCell' = true) (hn : n ≤ 1000000) (hr : RdV B [] (some a) xs) (hv : Inv B H w) :
  Calls Tryz.prog 63 #[.slice (some a) n c] w fun e w' => ∃ C ad' c', B.Le C ∧ e = .returned (.slice ad' n c') ∧ SliceOk ad' n c' ∧ RdV C [] ad' xs ∧ Inv C H w' := by
 refine cW Tryz.func63 rfl Tryz.ntmps63 ?_
 simp only [al]
 refine sK fun _ k1 => rL (xA (.slice none 0 0) rfl ?_)
 simp only [zP, po]
 refine wK k1 (sK fun _ k2 => ?_)
 refine sK fun _ k3 => rL (xM (.slice (some a) n c) rfl ?_)
 refine xG (.bool false) rfl (ex_slnil Tryz.underlying32 rfl rfl rfl rfl) ?_
 simp only [zP, po]
 refine wK k3 (cF rfl ?_)
 refine kS (tK k2 ?_)
 refine sK fun _ k4 => rL (sl_row0 (size := 2) tV (wn rfl) rfl hv (e := 97) (fun w => by kernel_rfl) (fun b5 w6 hv => ?_))
 refine xM (.slice (some a) n c) rfl (sl_append (news := xs) tV (wn rfl) rfl rfl rfl s1el32 hv hok hl ((hr.more (Base.Le.refl _) (fun _ h => by cases h)).src hv) (h1) (by unfold maxLen; omega) (by omega) (fun rv7 w10 hv => ?_))
 obtain ⟨ra8, rc9, rfl⟩ := row_slice hv.head
 simp only [zP, po]
 refine xA (.slice ra8 (0 + n) rc9) rfl ?_
 simp only [zP, po]
 refine wK k4 (rR ?_)
 refine bR rfl rfl ?_
 obtain ⟨C, hB, hv2, hr2, hok2, -⟩ := hv.rowBy
 rw [Nat.zero_add] at hok2 ⊢
 rw [List.nil_append] at hr2
 exact ⟨C, _, _, hB, rfl, hok2, hr2, hv2⟩
theorem clonePairs (B : Base) (H : List Res) (w : World) (v : Value) (n : Nat) (xs : List Value) (h : RowB B v n xs) (hl : xs.length = n * 2) (h1 : ∀ u ∈ xs, u.oneCell' = true) (hn : n ≤ 1000000) (hv : Inv B H w) :
  Calls Tryz.prog 63 #[v] w fun e w' => ∃ C v', B.Le C ∧ e = .returned v' ∧ RowB C v' n xs ∧ Inv C H w' := by
 obtain ⟨ad, c, rfl, hok, hr⟩ := h
 cases ad with
 | none =>
  have hc0 : c = 0 := hok.nil rfl
  have hn0 : n = 0 := by have := hok.le; omega
  subst hc0 hn0
  refine (clonePairs0 B H w hv).mono ?_
  rintro e w' ⟨rfl, hv⟩
  exact ⟨B, _, Base.Le.refl _, rfl, ⟨none, 0, rfl, hok, hr⟩, hv⟩
 | some a =>
  refine (clonePairs1 B H w a n c xs hok hl h1 hn hr hv).mono ?_
  rintro e w' ⟨C, ad', c', hB, rfl, hok', hr', hv'⟩
  exact ⟨C, _, hB, rfl, ⟨ad', c', rfl, hok', hr'⟩, hv'⟩
set_option maxHeartbeats 2000000 in
theorem cloneTexts0 (B : Base) (H : List Res) (w : World) (hv : Inv B H w) :
  Calls Tryz.prog 64 #[.slice none 0 0] w fun e w' => e = .returned (.slice none 0 0) ∧ Inv B H w' := by
 refine cW Tryz.func64 rfl Tryz.ntmps64 ?_
 simp only [al]
 refine sK fun _ k1 => rL (xA (.slice none 0 0) rfl ?_)
 simp only [zP, po]
 refine wK k1 (sK fun _ k2 => ?_)
 refine sK fun _ k3 => rL (xM (.slice none 0 0) rfl ?_)
 refine xG (.bool true) rfl (ex_slnil Tryz.underlying29 rfl rfl rfl rfl) ?_
 simp only [zP, po]
 refine wK k3 (cT rfl ?_)
 refine sK fun _ k4 => rL (xA (.slice none 0 0) rfl ?_)
 simp only [zP, po]
 refine wK k4 (rR ?_)
 refine tR (bR rfl rfl ?_)
 exact ⟨rfl, hv⟩
theorem s1mk9 : (Tryz.prog.info? 9).map (fun i => (i.zero, i.size, i.bytes)) = some (some (.string ⟨([] : List UInt8).toArray⟩), 1, 16) := by kernel_rfl
theorem s1el29 : Elem Tryz.prog 29 9 (.string ⟨([] : List UInt8).toArray⟩) 1 16 := elem_of Tryz.underlying29 s1mk9 (by rfl) (by decide)
set_option maxHeartbeats 2000000 in
theorem cloneTexts1 (B : Base) (H : List Res) (w : World) (a : Addr) (n c : Nat) (xs : List Value) (hok : SliceOk (some a) n c) (hl : xs.length = n * 1) (h1 : ∀ u ∈ xs, u.oneCell' = true) (hn : n ≤ 1000000) (hr : RdV B [] (some a) xs) (hv : Inv B H w) :
  Calls Tryz.prog 64 #[.slice (some a) n c] w fun e w' => ∃ C ad' c', B.Le C ∧ e = .returned (.slice ad' n c') ∧ SliceOk ad' n c' ∧ RdV C [] ad' xs ∧ Inv C H w' := by
 refine cW Tryz.func64 rfl Tryz.ntmps64 ?_
 simp only [al]
 refine sK fun _ k1 => rL (xA (.slice none 0 0) rfl ?_)
 simp only [zP, po]
 refine wK k1 (sK fun _ k2 => ?_)
 refine sK fun _ k3 => rL (xM (.slice (some a) n c) rfl ?_)
 refine xG (.bool false) rfl (ex_slnil Tryz.underlying29 rfl rfl rfl rfl) ?_
 simp only [zP, po]
 refine wK k3 (cF rfl ?_)
 refine kS (tK k2 ?_)
 refine sK fun _ k4 => rL (sl_row0 (size := 1) tV (wn rfl) rfl hv (e := 9) (fun w => by kernel_rfl) (fun b5 w6 hv => ?_))
 refine xM (.slice (some a) n c) rfl (sl_append (news := xs) tV (wn rfl) rfl rfl rfl s1el29 hv hok hl ((hr.more (Base.Le.refl _) (fun _ h => by cases h)).src hv) (h1) (by unfold maxLen; omega) (by omega) (fun rv7 w10 hv => ?_))
 obtain ⟨ra8, rc9, rfl⟩ := row_slice hv.head
 simp only [zP, po]
 refine xA (.slice ra8 (0 + n) rc9) rfl ?_
 simp only [zP, po]
 refine wK k4 (rR ?_)
 refine bR rfl rfl ?_
 obtain ⟨C, hB, hv2, hr2, hok2, -⟩ := hv.rowBy
 rw [Nat.zero_add] at hok2 ⊢
 rw [List.nil_append] at hr2
 exact ⟨C, _, _, hB, rfl, hok2, hr2, hv2⟩
theorem cloneTexts (B : Base) (H : List Res) (w : World) (v : Value) (n : Nat) (xs : List Value) (h : RowB B v n xs) (hl : xs.length = n * 1) (h1 : ∀ u ∈ xs, u.oneCell' = true) (hn : n ≤ 1000000) (hv : Inv B H w) :
  Calls Tryz.prog 64 #[v] w fun e w' => ∃ C v', B.Le C ∧ e = .returned v' ∧ RowB C v' n xs ∧ Inv C H w' := by
 obtain ⟨ad, c, rfl, hok, hr⟩ := h
 cases ad with
 | none =>
  have hc0 : c = 0 := hok.nil rfl
  have hn0 : n = 0 := by have := hok.le; omega
  subst hc0 hn0
  refine (cloneTexts0 B H w hv).mono ?_
  rintro e w' ⟨rfl, hv⟩
  exact ⟨B, _, Base.Le.refl _, rfl, ⟨none, 0, rfl, hok, hr⟩, hv⟩
 | some a =>
  refine (cloneTexts1 B H w a n c xs hok hl h1 hn hr hv).mono ?_
  rintro e w' ⟨C, ad', c', hB, rfl, hok', hr', hv'⟩
  exact ⟨C, _, hB, rfl, ⟨ad', c', rfl, hok', hr'⟩, hv'⟩
set_option maxHeartbeats 2000000 in
theorem cloneMems0 (B : Base) (H : List Res) (w : World) (hv : Inv B H w) :
  Calls Tryz.prog 65 #[.slice none 0 0] w fun e w' => e = .returned (.slice none 0 0) ∧ Inv B H w' := by
 refine cW Tryz.func65 rfl Tryz.ntmps65 ?_
 simp only [al]
 refine sK fun _ k1 => rL (xA (.slice none 0 0) rfl ?_)
 simp only [zP, po]
 refine wK k1 (sK fun _ k2 => ?_)
 refine sK fun _ k3 => rL (xM (.slice none 0 0) rfl ?_)
 refine xG (.bool true) rfl (ex_slnil Tryz.underlying33 rfl rfl rfl rfl) ?_
 simp only [zP, po]
 refine wK k3 (cT rfl ?_)
 refine sK fun _ k4 => rL (xA (.slice none 0 0) rfl ?_)
 simp only [zP, po]
 refine wK k4 (rR ?_)
 refine tR (bR rfl rfl ?_)
 exact ⟨rfl, hv⟩
theorem s1mk99 : (Tryz.prog.info? 99).map (fun i => (i.zero, i.size, i.bytes)) = some (some (.agg #[.int .i64 0, .string ⟨([] : List UInt8).toArray⟩]), 2, 24) := by kernel_rfl
theorem s1el33 : Elem Tryz.prog 33 99 (.agg #[.int .i64 0, .string ⟨([] : List UInt8).toArray⟩]) 2 24 := elem_of Tryz.underlying33 s1mk99 (by rfl) (by decide)
set_option maxHeartbeats 2000000 in
theorem cloneMems1 (B : Base) (H : List Res) (w : World) (a : Addr) (n c : Nat) (xs : List Value) (hok : SliceOk (some a) n c) (hl : xs.length = n * 2) (h1 : ∀ u ∈ xs, u.oneCell' = true) (hn : n ≤ 1000000) (hr : RdV B [] (some a) xs) (hv : Inv B H w) :
  Calls Tryz.prog 65 #[.slice (some a) n c] w fun e w' => ∃ C ad' c', B.Le C ∧ e = .returned (.slice ad' n c') ∧ SliceOk ad' n c' ∧ RdV C [] ad' xs ∧ Inv C H w' := by
 refine cW Tryz.func65 rfl Tryz.ntmps65 ?_
 simp only [al]
 refine sK fun _ k1 => rL (xA (.slice none 0 0) rfl ?_)
 simp only [zP, po]
 refine wK k1 (sK fun _ k2 => ?_)
 refine sK fun _ k3 => rL (xM (.slice (some a) n c) rfl ?_)
 refine xG (.bool false) rfl (ex_slnil Tryz.underlying33 rfl rfl rfl rfl) ?_
 simp only [zP, po]
 refine wK k3 (cF rfl ?_)
 refine kS (tK k2 ?_)
 refine sK fun _ k4 => rL (sl_row0 (size := 2) tV (wn rfl) rfl hv (e := 99) (fun w => by kernel_rfl) (fun b5 w6 hv => ?_))
 refine xM (.slice (some a) n c) rfl (sl_append (news := xs) tV (wn rfl) rfl rfl rfl s1el33 hv hok hl ((hr.more (Base.Le.refl _) (fun _ h => by cases h)).src hv) (h1) (by unfold maxLen; omega) (by omega) (fun rv7 w10 hv => ?_))
 obtain ⟨ra8, rc9, rfl⟩ := row_slice hv.head
 simp only [zP, po]
 refine xA (.slice ra8 (0 + n) rc9) rfl ?_
 simp only [zP, po]
 refine wK k4 (rR ?_)
 refine bR rfl rfl ?_
 obtain ⟨C, hB, hv2, hr2, hok2, -⟩ := hv.rowBy
 rw [Nat.zero_add] at hok2 ⊢
 rw [List.nil_append] at hr2
 exact ⟨C, _, _, hB, rfl, hok2, hr2, hv2⟩
theorem cloneMems (B : Base) (H : List Res) (w : World) (v : Value) (n : Nat) (xs : List Value) (h : RowB B v n xs) (hl : xs.length = n * 2) (h1 : ∀ u ∈ xs, u.oneCell' = true) (hn : n ≤ 1000000) (hv : Inv B H w) :
  Calls Tryz.prog 65 #[v] w fun e w' => ∃ C v', B.Le C ∧ e = .returned v' ∧ RowB C v' n xs ∧ Inv C H w' := by
 obtain ⟨ad, c, rfl, hok, hr⟩ := h
 cases ad with
 | none =>
  have hc0 : c = 0 := hok.nil rfl
  have hn0 : n = 0 := by have := hok.le; omega
  subst hc0 hn0
  refine (cloneMems0 B H w hv).mono ?_
  rintro e w' ⟨rfl, hv⟩
  exact ⟨B, _, Base.Le.refl _, rfl, ⟨none, 0, rfl, hok, hr⟩, hv⟩
 | some a =>
  refine (cloneMems1 B H w a n c xs hok hl h1 hn hr hv).mono ?_
  rintro e w' ⟨C, ad', c', hB, rfl, hok', hr', hv'⟩
  exact ⟨C, _, hB, rfl, ⟨ad', c', rfl, hok', hr'⟩, hv'⟩
theorem s1al35 (w : World) : (Instr.alloc 35 true (.tuple #[])).run Tryz.prog w = .ok (.pointer (some ⟨w.heap.size, 0, none⟩)) (w.alloc (.cells ([.int .i64 0, .string ⟨([] : List UInt8).toArray⟩, .slice none 0 0, .slice none 0 0, .slice none 0 0] : List Value).toArray 35)) := by kernel_rfl
theorem s1fa35_2 (w : World) (b o : Nat) : (Instr.fieldAt 35 (.pointer (some ⟨b, o, none⟩)) 2).run Tryz.prog w = .ok (.pointer (some ⟨b, o + 2, none⟩)) w := by kernel_rfl
theorem s1na32 (w : World) : (isAgg 32).run Tryz.prog w = .ok false w := by kernel_rfl
theorem s1callable63 : Callable Tryz.prog 63 := ⟨_, Tryz.func63, by kernel_rfl, by kernel_rfl⟩
theorem s1sz32 : (Tryz.prog.info? 32).map (·.size) = some 1 := by kernel_rfl
theorem s1fa35_3 (w : World) (b o : Nat) : (Instr.fieldAt 35 (.pointer (some ⟨b, o, none⟩)) 3).run Tryz.prog w = .ok (.pointer (some ⟨b, o + 3, none⟩)) w := by kernel_rfl
theorem s1na29 (w : World) : (isAgg 29).run Tryz.prog w = .ok false w := by kernel_rfl
theorem s1callable64 : Callable Tryz.prog 64 := ⟨_, Tryz.func64, by kernel_rfl, by kernel_rfl⟩
theorem s1sz29 : (Tryz.prog.info? 29).map (·.size) = some 1 := by kernel_rfl
theorem s1fa35_4 (w : World) (b o : Nat) : (Instr.fieldAt 35 (.pointer (some ⟨b, o, none⟩)) 4).run Tryz.prog w = .ok (.pointer (some ⟨b, o + 4, none⟩)) w := by kernel_rfl
theorem s1na33 (w : World) : (isAgg 33).run Tryz.prog w = .ok false w := by kernel_rfl
theorem s1callable65 : Callable Tryz.prog 65 := ⟨_, Tryz.func65, by kernel_rfl, by kernel_rfl⟩
theorem s1sz33 : (Tryz.prog.info? 33).map (·.size) = some 1 := by kernel_rfl
theorem s1wd35 : Wide Tryz.prog 35 5 := wide_of (fun w => by kernel_rfl) (by kernel_rfl)
theorem s1sz35 : (Tryz.prog.info? 35).map (·.size) = some 5 := by kernel_rfl
set_option maxHeartbeats 2000000 in
theorem valueClone (B : Base) (H : List Res) (w : World) (v : Val) (p t z : Value) (h : ValAt B v p t z) (hv : Inv B H w) :
  Calls Tryz.prog 40 #[.agg #[.int .i64 v.kind, .string ⟨v.text.toArray⟩, p, t, z]] w fun e w' => ∃ C p' t' z', B.Le C ∧ e = .returned (.agg #[.int .i64 v.kind, .string ⟨v.text.toArray⟩, p', t', z']) ∧ ValAt C v p' t' z' ∧ Inv C H w' := by
 refine cW Tryz.func40 rfl Tryz.ntmps40 ?_
 simp only [al]
 refine sK fun _ k1 => rL (sl_box (L := [.int .i64 v.kind, .string ⟨v.text.toArray⟩, p, t, z]) tV (wn rfl) rfl rfl hv (fun w => by kernel_rfl) (fun b2 w3 hv => ?_))
 refine sl_alloc tV (wn rfl) rfl hv s1al35 (fun b4 w5 hv => ?_)
 simp only [zP, po]
 refine wK k1 (sK fun _ k6 => ?_)
 refine rL (xF (.pointer (some ⟨b2, 2, none⟩)) rfl (s1fa35_2 _ _ _) ?_)
 refine xL _ rfl (run_load1 s1na32 (hv.load 1 2 rfl rfl)) (xC s1callable63 rfl ((clonePairs _ _ _ p _ _ (h.p.more (Base.Le.refl _)) (pairCells_len _) (pairCells_one _) h.pm hv).mono ?_) rfl)
 rintro e w9 ⟨C7, q8, hC7, rfl, hq8, hv⟩
 refine ⟨_, rfl, ?_⟩
 simp only [zP, po]
 refine xF (.pointer (some ⟨b2, 2, none⟩)) rfl (s1fa35_2 _ _ _) (xV 1 q8 rfl hv s1sz32 hq8.cells hq8.one (fun w10 hv => ?_))
 simp only [zS, zO, sp] at hv
 simp only [zP, po]
 refine wK k6 (sK fun _ k11 => ?_)
 refine rL (xF (.pointer (some ⟨b2, 3, none⟩)) rfl (s1fa35_3 _ _ _) ?_)
 refine xL _ rfl (run_load1 s1na29 (hv.load 1 3 rfl rfl)) (xC s1callable64 rfl ((cloneTexts _ _ _ t _ _ (h.t.more hC7) (textCells_len _) (textCells_one _) h.tm hv).mono ?_) rfl)
 rintro e w14 ⟨C12, q13, hC12, rfl, hq13, hv⟩
 refine ⟨_, rfl, ?_⟩
 simp only [zP, po]
 refine xF (.pointer (some ⟨b2, 3, none⟩)) rfl (s1fa35_3 _ _ _) (xV 1 q13 rfl hv s1sz29 hq13.cells hq13.one (fun w15 hv => ?_))
 simp only [zS, zO, sp] at hv
 simp only [zP, po]
 refine wK k11 (sK fun _ k16 => ?_)
 refine rL (xF (.pointer (some ⟨b2, 4, none⟩)) rfl (s1fa35_4 _ _ _) ?_)
 refine xL _ rfl (run_load1 s1na33 (hv.load 1 4 rfl rfl)) (xC s1callable65 rfl ((cloneMems _ _ _ z _ _ (h.z.more (hC7.trans hC12)) (memCells_len _) (memCells_one _) h.zm hv).mono ?_) rfl)
 rintro e w19 ⟨C17, q18, hC17, rfl, hq18, hv⟩
 refine ⟨_, rfl, ?_⟩
 simp only [zP, po]
 refine xF (.pointer (some ⟨b2, 4, none⟩)) rfl (s1fa35_4 _ _ _) (xV 1 q18 rfl hv s1sz33 hq18.cells hq18.one (fun w20 hv => ?_))
 simp only [zS, zO, sp] at hv
 simp only [zP, po]
 refine wK k16 (sK fun _ k21 => ?_)
 refine rL (xL (.agg #[.int .i64 v.kind, .string ⟨v.text.toArray⟩, q8, q13, q18]) rfl (run_load_mid (pre := []) (mid := [.int .i64 v.kind, .string ⟨v.text.toArray⟩, q8, q13, q18]) (post := []) s1wd35 (show Blk _ b2 ([] ++ [.int .i64 v.kind, .string ⟨v.text.toArray⟩, q8, q13, q18] ++ []) _ from hv.get 1 rfl) rfl) ?_)
 refine xS 0 rfl hv s1sz35 rfl (by exact ⟨rfl, rfl, hq8.one, hq13.one, hq18.one, trivial⟩) (fun w22 hv => ?_)
 simp only [zO, sp] at hv
 simp only [zP, po]
 refine wK k21 (rR ?_)
 refine bodyPost_ret (res_cell1 rfl rfl (run_load_mid (pre := []) (mid := [.int .i64 v.kind, .string ⟨v.text.toArray⟩, q8, q13, q18]) (post := []) s1wd35 (show Blk _ b4 ([] ++ [.int .i64 v.kind, .string ⟨v.text.toArray⟩, q8, q13, q18] ++ []) _ from hv.get 0 rfl) rfl)) rfl (⟨_, q8, q13, q18, ((hC7.trans hC12).trans hC17), rfl, ⟨hq8.more (hC12.trans hC17), hq13.more hC17, hq18.more (Base.Le.refl _), h.pm, h.tm, h.zm⟩, (hv.sub (List.Sublist.cons _ (List.Sublist.cons _ (List.Sublist.refl _))))⟩)
end Go.Proofs.YtkoghbmjbobfjaaGreat
/- sort.Search over a function value; chain.upto, chain.At, chain.Alive. -/
namespace Go.Proofs.YtkoghbmjbobfjaaGreat
open Go.RowKit Go.Pm
def aliveB (v : Ver) (clock : Int) : Bool := !v.gone && (decide (v.expire = 0) || decide (clock < v.expire))
theorem s2na3 (w : World) : (isAgg 3).run Tryz.prog w = .ok false w := by kernel_rfl
theorem s2fa45_1 (w : World) (b o : Nat) : (Instr.fieldAt 45 (.pointer (some ⟨b, o, none⟩)) 1).run Tryz.prog w = .ok (.pointer (some ⟨b, o + 1, none⟩)) w := by kernel_rfl
theorem s2na4 (w : World) : (isAgg 4).run Tryz.prog w = .ok false w := by kernel_rfl
set_option maxHeartbeats 2000000 in
theorem alive0 (B : Base) (H : List Res) (w : World) (v : Ver) (p t z : Value) (clock : Int) (hg : v.gone = true) (hv : Inv B H w) :
  Calls Tryz.prog 55 #[.agg #[.int .i64 v.stamp, .bool true, .int .i64 v.expire, .int .i64 v.val.kind, .string ⟨v.val.text.toArray⟩, p, t, z], .int .i64 clock] w fun e w' => e = .returned (.bool (aliveB v clock)) ∧ Inv B H w' := by
 refine cW Tryz.func55 rfl Tryz.ntmps55 ?_
 simp only [al]
 refine sK fun _ k1 => rL (sl_box (L := [.int .i64 v.stamp, .bool true, .int .i64 v.expire, .int .i64 v.val.kind, .string ⟨v.val.text.toArray⟩, p, t, z]) tV (wn rfl) rfl rfl hv (fun w => by kernel_rfl) (fun b2 w3 hv => ?_))
 refine xA (.bool false) rfl ?_
 simp only [zP, po]
 refine wK k1 (sK fun _ k4 => ?_)
 refine rL (xF (.pointer (some ⟨b2, 1, none⟩)) rfl (s2fa45_1 _ _ _) ?_)
 refine xL _ rfl (run_load1 s2na4 (hv.load 0 1 rfl rfl)) (xG (.bool false) rfl (ex_not rfl rfl rfl) ?_)
 simp only [zP, po]
 refine xM (.bool false) rfl ?_
 iterate 9 refine yN rfl ?_
 refine xK false (.bool false) rfl (xA (.bool false) rfl ?_)
 simp only [zP, po]
 refine wK k4 (rR ?_)
 refine bR rfl rfl (⟨congrArg (fun b => Ending.returned (Value.bool b)) (show false = aliveB v clock from by simp [aliveB, *]), (hv.sub (List.Sublist.cons _ (List.Sublist.refl _)))⟩)
theorem s2fa45_2 (w : World) (b o : Nat) : (Instr.fieldAt 45 (.pointer (some ⟨b, o, none⟩)) 2).run Tryz.prog w = .ok (.pointer (some ⟨b, o + 2, none⟩)) w := by kernel_rfl
set_option maxHeartbeats 2000000 in
theorem alive1 (B : Base) (H : List Res) (w : World) (v : Ver) (p t z : Value) (clock : Int) (hg : v.gone = false) (hv : Inv B H w) :
  Calls Tryz.prog 55 #[.agg #[.int .i64 v.stamp, .bool false, .int .i64 v.expire, .int .i64 v.val.kind, .string ⟨v.val.text.toArray⟩, p, t, z], .int .i64 clock] w fun e w' => e = .returned (.bool (aliveB v clock)) ∧ Inv B H w' := by
 refine cW Tryz.func55 rfl Tryz.ntmps55 ?_
 simp only [al]
 refine sK fun _ k1 => rL (sl_box (L := [.int .i64 v.stamp, .bool false, .int .i64 v.expire, .int .i64 v.val.kind, .string ⟨v.val.text.toArray⟩, p, t, z]) tV (wn rfl) rfl rfl hv (fun w => by kernel_rfl) (fun b2 w3 hv => ?_))
 refine xA (.bool false) rfl ?_
 simp only [zP, po]
 refine wK k1 (sK fun _ k4 => ?_)
 refine rL (xF (.pointer (some ⟨b2, 1, none⟩)) rfl (s2fa45_1 _ _ _) ?_)
 refine xL _ rfl (run_load1 s2na4 (hv.load 0 1 rfl rfl)) (xG (.bool true) rfl (ex_not rfl rfl rfl) ?_)
 simp only [zP, po]
 refine xM (.bool true) rfl (xF (.pointer (some ⟨b2, 2, none⟩)) rfl (s2fa45_2 _ _ _) ?_)
 refine xL _ rfl (run_load1 s2na3 (hv.load 0 2 rfl rfl)) ?_
 simp only [zP, po]
 by_cases hb5 : v.expire = 0
 ·refine xG (.bool true) rfl (ex_eql rfl rfl rfl (decide_eq_true hb5)) (xM (.bool true) rfl ?_)
  iterate 4 refine yN rfl ?_
  refine xK true (.bool true) rfl ?_
  simp only [zP, po]
  refine xK true (.bool true) rfl (xA (.bool true) rfl ?_)
  simp only [zP, po]
  refine wK k4 (rR ?_)
  refine bR rfl rfl (⟨congrArg (fun b => Ending.returned (Value.bool b)) (show true = aliveB v clock from by simp [aliveB, *]), (hv.sub (List.Sublist.cons _ (List.Sublist.refl _)))⟩)
 refine xG (.bool false) rfl (ex_eql rfl rfl rfl (decide_eq_false hb5)) (xM (.bool false) rfl ?_)
 refine xF (.pointer (some ⟨b2, 2, none⟩)) rfl (s2fa45_2 _ _ _) ?_
 simp only [zP, po]
 refine xL _ rfl (run_load1 s2na3 (hv.load 0 2 rfl rfl)) (xM (.int .i64 clock) rfl ?_)
 by_cases hb6 : v.expire > clock
 ·refine xG (.bool true) rfl (ex_gtr rfl rfl rfl (decide_eq_true hb6)) ?_
  simp only [zP, po]
  refine xK false (.bool true) rfl (xK true (.bool true) rfl ?_)
  refine xA (.bool true) rfl ?_
  simp only [zP, po]
  refine wK k4 (rR ?_)
  refine bR rfl rfl (⟨congrArg (fun b => Ending.returned (Value.bool b)) (show true = aliveB v clock from by simp [aliveB, *]), (hv.sub (List.Sublist.cons _ (List.Sublist.refl _)))⟩)
 refine xG (.bool false) rfl (ex_gtr rfl rfl rfl (decide_eq_false hb6)) ?_
 simp only [zP, po]
 refine xK false (.bool false) rfl (xK true (.bool false) rfl ?_)
 refine xA (.bool false) rfl ?_
 simp only [zP, po]
 refine wK k4 (rR ?_)
 refine bR rfl rfl (⟨congrArg (fun b => Ending.returned (Value.bool b)) (show false = aliveB v clock from by simp [aliveB, *]), (hv.sub (List.Sublist.cons _ (List.Sublist.refl _)))⟩)
theorem chainAlive (B : Base) (H : List Res) (w : World) (v : Ver) (p t z : Value) (clock : Int) (hv : Inv B H w) : Calls Tryz.prog 55 #[.agg (verCells v p t z).toArray, .int .i64 clock] w fun e w' => e = .returned (.bool (aliveB v clock)) ∧ Inv B H w' := by
 cases hg : v.gone with
 | true => have := alive0 B H w v p t z clock hg hv; rw [← hg] at this; exact this
 | false => have := alive1 B H w v p t z clock hg hv; rw [← hg] at this; exact this
end Go.Proofs.YtkoghbmjbobfjaaGreat
/- index: find, Get, Len. -/
namespace Go.Proofs.YtkoghbmjbobfjaaGreat
open Go.RowKit Go.Pm
end Go.Proofs.YtkoghbmjbobfjaaGreat
/- slices.Insert of one element, of entries and of blocks; slices.Clone of entries. -/
namespace Go.Proofs.YtkoghbmjbobfjaaGreat
open Go.RowKit Go.Pm
end Go.Proofs.YtkoghbmjbobfjaaGreat
/- index.insert. -/
namespace Go.Proofs.YtkoghbmjbobfjaaGreat
open Go.RowKit Go.Pm
end Go.Proofs.YtkoghbmjbobfjaaGreat
/- index.insert on the whole index; index.Set. -/
namespace Go.Proofs.YtkoghbmjbobfjaaGreat
open Go.RowKit Go.Pm
end Go.Proofs.YtkoghbmjbobfjaaGreat
/- index.Set, and Get, of an index of one's own. -/
namespace Go.Proofs.YtkoghbmjbobfjaaGreat
open Go.RowKit Go.Pm
end Go.Proofs.YtkoghbmjbobfjaaGreat
/- store.twice. -/
namespace Go.Proofs.YtkoghbmjbobfjaaGreat
open Go.RowKit Go.Pm
end Go.Proofs.YtkoghbmjbobfjaaGreat
/- slices.ContainsFunc; which values are right: texts, lists, sets, hashes. -/
namespace Go.Proofs.YtkoghbmjbobfjaaGreat
open Go.RowKit Go.Pm
theorem s9es29 (w : World) : (sizeOf (Tryz.prog.elem 29)).run Tryz.prog w = .ok 1 w := by kernel_rfl
theorem s9na9 (w : World) : (isAgg 9).run Tryz.prog w = .ok false w := by kernel_rfl
set_option maxHeartbeats 2000000 in
theorem indexFuncText (B : Base) (H : List Res) (w : World) (f : FuncId) (cb : Array Value) (ad : Option Addr) (c : Nat) (l : List (List UInt8)) (pr : (List UInt8) → Bool) (hr : RdV B [] ad (textCells l)) (hm : l.length ≤ 1000000) (hcal : Callable Tryz.prog f) (hf : ∀ x ∈ l, ∀ w, Inv B H w → Calls Tryz.prog f (#[.string ⟨x.toArray⟩] ++ cb) w fun e w' => e = .returned (.bool (pr x)) ∧ Inv B H w') (hv : Inv B H w) :
  Calls Tryz.prog 82 #[.slice ad l.length c, .func (.func f) #[] cb] w fun e w' => ∃ r : Int, e = .returned (.int .i64 r) ∧ (0 ≤ r ↔ l.any pr = true) ∧ Inv B H w' := by
 refine cW Tryz.func82 rfl Tryz.ntmps82 ?_
 simp only [al]
 refine sK fun _ k1 => rL (xA (.int .i64 0) rfl ?_)
 simp only [zP, po]
 refine wK k1 (sK fun _ k2 => ?_)
 refine sK fun _ k3 => rL (xM (.slice ad l.length c) rfl ?_)
 refine xG (.int .i64 (l.length : Int)) rfl (ex_len0 Tryz.underlying29 rfl rfl) (xM (.int .i64 0) rfl ?_)
 simp only [zP, po]
 refine wK k3 (bB ?_)
 gi_loopw [8] (fun x8 wr => ∃ (i : Nat), x8 = .int .i64 (i : Int) ∧ i ≤ l.length ∧ (∀ j x, j < i → l[j]? = some x → pr x = false) ∧ Inv B H wr) (fun x8 _ => l.length - (intOf x8).toNat)
 case atStart => exact ⟨0, rfl, Nat.zero_le _, fun j x h => by omega, hv⟩
 case round =>
  obtain ⟨i, rfl, hi, hno, hv⟩ := hrel
  refine sK fun _ k5 => rL ?_
  by_cases hb6 : (i : Int) < (l.length : Int)
  ·refine xG (.bool true) rfl (ex_lss rfl rfl rfl (decide_eq_true hb6)) ?_
   simp only [zP, po]
   refine wK k5 (sK fun _ k7 => ?_)
   refine cT rfl (kS ?_)
   refine tK k7 (sK fun _ k8 => ?_)
   refine bB (sK fun _ k9 => ?_)
   refine rL (xM (.int .i64 (i : Int)) rfl ?_)
   refine xA (.int .i64 (i : Int)) rfl ?_
   simp only [zP, po]
   refine wK k9 (sK fun _ k10 => ?_)
   obtain ⟨x, hx⟩ : ∃ x, l[i]? = some x := ⟨_, List.getElem?_eq_getElem (show i < l.length by omega)⟩
   obtain ⟨bb, bo, had, hrdx⟩ := text_reads hr hx
   subst had
   refine rL (xM (.func (.func f) #[] cb) rfl ?_)
   refine xM (.slice (some ⟨bb, bo, none⟩) l.length c) rfl (xM (.int .i64 (i : Int)) rfl ?_)
   simp only [zP, po]
   refine xG (.pointer (some ⟨bb, bo + i, none⟩)) rfl (ex_index rfl rfl rfl (run_idx1 (k := i) Tryz.underlying29 s9es29 (by omega))) (xL _ rfl (run_load1 s9na9 (hrdx _ _ _ (Base.Le.refl _) no_res hv 0 _ rfl)) ?_)
   refine wpi_callV hcal tV wideC rfl (wn rfl) rfl rfl (args := #[.string ⟨x.toArray⟩]) (by simp only [List.map_toArray, List.map_cons, List.map_nil]; rfl) ((hf x (List.mem_of_getElem? hx) _ hv).mono ?_)
   rintro e w11 ⟨rfl, hv⟩
   refine ⟨_, rfl, ?_⟩
   simp only [zP, po]
   refine wK k10 (wpIn_cond_split (t := pr x) rfl (fun hc12 => ?_) (fun hc12 => ?_))
   ·refine sK fun _ k13 => rL (xM (.int .i64 (i : Int)) rfl ?_)
    refine xA (.int .i64 (i : Int)) rfl ?_
    simp only [zP, po]
    refine wK k13 (rR ?_)
    refine bE (tR ?_)
    refine tR (bE ?_)
    refine tR (bR rfl rfl ?_)
    exact ⟨_, rfl, ⟨fun _ => any_of hx (by simpa using hc12), fun _ => by omega⟩, hv⟩
   refine kS (bN ?_)
   refine tK k8 (rL ?_)
   refine xG (.int .i64 ((i + 1 : Nat) : Int)) rfl (ex_add rfl rfl rfl (by rw [i64_in (by omega)]; omega)) (xM (.int .i64 ((i + 1 : Nat) : Int)) rfl ?_)
   refine wL ?_
   simp only [zP, po]
   refine then_normal ?_
   go_roundw
   case rel => exact ⟨i + 1, rfl, by omega, fun j x' hj hx' => (by
      rcases Nat.lt_or_ge j i with h | h
      ·exact hno j x' h hx'
      obtain rfl : j = i := by omega
      rw [hx] at hx'; cases hx'
      simpa using hc12), hv⟩
   case measure => show l.length - (((i + 1 : Nat) : Int)).toNat < l.length - ((i : Int)).toNat; omega
  refine xG (.bool false) rfl (ex_lss rfl rfl rfl (decide_eq_false hb6)) ?_
  simp only [zP, po]
  refine wK k5 (sK fun _ k14 => ?_)
  refine cF rfl (xE ?_)
  refine tX (tX ?_)
  refine bH (tK k2 ?_)
  refine sK fun _ k15 => rL (xA (.int .i64 (-1)) rfl ?_)
  simp only [zP, po]
  refine wK k15 (rR ?_)
  refine bR rfl rfl ?_
  obtain rfl : i = l.length := by omega
  exact ⟨_, rfl, ⟨fun h => by omega, fun h => by rw [any_none (fun i x hx => hno i x (List.getElem?_eq_some_iff.1 hx).1 hx)] at h; cases h⟩, hv⟩
theorem s9callable82 : Callable Tryz.prog 82 := ⟨_, Tryz.func82, by kernel_rfl, by kernel_rfl⟩
set_option maxHeartbeats 2000000 in
theorem containsFuncText (B : Base) (H : List Res) (w : World) (f : FuncId) (cb : Array Value) (ad : Option Addr) (c : Nat) (l : List (List UInt8)) (pr : (List UInt8) → Bool) (hr : RdV B [] ad (textCells l)) (hm : l.length ≤ 1000000) (hcal : Callable Tryz.prog f) (hf : ∀ x ∈ l, ∀ w, Inv B H w → Calls Tryz.prog f (#[.string ⟨x.toArray⟩] ++ cb) w fun e w' => e = .returned (.bool (pr x)) ∧ Inv B H w') (hv : Inv B H w) :
  Calls Tryz.prog 73 #[.slice ad l.length c, .func (.func f) #[] cb] w fun e w' => e = .returned (.bool (l.any pr)) ∧ Inv B H w' := by
 refine cW Tryz.func73 rfl Tryz.ntmps73 ?_
 simp only [al]
 refine sK fun _ k1 => rL (xA (.bool false) rfl ?_)
 simp only [zP, po]
 refine wK k1 (sK fun _ k2 => ?_)
 refine rL (xM (.slice ad l.length c) rfl ?_)
 refine xM (.func (.func f) #[] cb) rfl (xC s9callable82 rfl ((indexFuncText B H _ f cb ad c l pr hr hm hcal hf hv).mono ?_) rfl)
 rintro e w3 ⟨r, rfl, hra, hv⟩
 refine ⟨_, rfl, ?_⟩
 simp only [zP, po]
 refine xG (.bool (decide (r ≥ 0))) rfl (ex_geq rfl rfl rfl rfl) (xA (.bool (decide (r ≥ 0))) rfl ?_)
 simp only [zP, po]
 refine wK k2 (rR ?_)
 refine bR rfl rfl (⟨congrArg (fun b => Ending.returned (Value.bool b)) (by rw [Bool.eq_iff_iff, decide_eq_true_iff]; exact hra), hv⟩)
theorem s9es33 (w : World) : (sizeOf (Tryz.prog.elem 33)).run Tryz.prog w = .ok 2 w := by kernel_rfl
theorem s9wd99 : Wide Tryz.prog 99 2 := wide_of (fun w => by kernel_rfl) (by kernel_rfl)
set_option maxHeartbeats 2000000 in
theorem indexFuncMem (B : Base) (H : List Res) (w : World) (f : FuncId) (cb : Array Value) (ad : Option Addr) (c : Nat) (l : List (Int × List UInt8)) (pr : (Int × List UInt8) → Bool) (hr : RdV B [] ad (memCells l)) (hm : l.length ≤ 1000000) (hcal : Callable Tryz.prog f) (hf : ∀ x ∈ l, ∀ w, Inv B H w → Calls Tryz.prog f (#[.agg #[.int .i64 x.1, .string ⟨x.2.toArray⟩]] ++ cb) w fun e w' => e = .returned (.bool (pr x)) ∧ Inv B H w') (hv : Inv B H w) :
  Calls Tryz.prog 112 #[.slice ad l.length c, .func (.func f) #[] cb] w fun e w' => ∃ r : Int, e = .returned (.int .i64 r) ∧ (0 ≤ r ↔ l.any pr = true) ∧ Inv B H w' := by
 refine cW Tryz.func112 rfl Tryz.ntmps112 ?_
 simp only [al]
 refine sK fun _ k1 => rL (xA (.int .i64 0) rfl ?_)
 simp only [zP, po]
 refine wK k1 (sK fun _ k2 => ?_)
 refine sK fun _ k3 => rL (xM (.slice ad l.length c) rfl ?_)
 refine xG (.int .i64 (l.length : Int)) rfl (ex_len0 Tryz.underlying33 rfl rfl) (xM (.int .i64 0) rfl ?_)
 simp only [zP, po]
 refine wK k3 (bB ?_)
 gi_loopw [8] (fun x8 wr => ∃ (i : Nat), x8 = .int .i64 (i : Int) ∧ i ≤ l.length ∧ (∀ j x, j < i → l[j]? = some x → pr x = false) ∧ Inv B H wr) (fun x8 _ => l.length - (intOf x8).toNat)
 case atStart => exact ⟨0, rfl, Nat.zero_le _, fun j x h => by omega, hv⟩
 case round =>
  obtain ⟨i, rfl, hi, hno, hv⟩ := hrel
  refine sK fun _ k5 => rL ?_
  by_cases hb6 : (i : Int) < (l.length : Int)
  ·refine xG (.bool true) rfl (ex_lss rfl rfl rfl (decide_eq_true hb6)) ?_
   simp only [zP, po]
   refine wK k5 (sK fun _ k7 => ?_)
   refine cT rfl (kS ?_)
   refine tK k7 (sK fun _ k8 => ?_)
   refine bB (sK fun _ k9 => ?_)
   refine rL (xM (.int .i64 (i : Int)) rfl ?_)
   refine xA (.int .i64 (i : Int)) rfl ?_
   simp only [zP, po]
   refine wK k9 (sK fun _ k10 => ?_)
   obtain ⟨x, hx⟩ : ∃ x, l[i]? = some x := ⟨_, List.getElem?_eq_getElem (show i < l.length by omega)⟩
   obtain ⟨bb, bo, had, hrdx⟩ := mem_reads hr hx
   subst had
   refine rL (xM (.func (.func f) #[] cb) rfl ?_)
   refine xM (.slice (some ⟨bb, bo, none⟩) l.length c) rfl (xM (.int .i64 (i : Int)) rfl ?_)
   simp only [zP, po]
   refine xG (.pointer (some ⟨bb, bo + i * 2, none⟩)) rfl (ex_index rfl rfl rfl (run_idx (k := i) Tryz.underlying33 s9es33 (by omega))) (xL (.agg #[.int .i64 x.1, .string ⟨x.2.toArray⟩]) rfl (run_loadR (cs := [.int .i64 x.1, .string ⟨x.2.toArray⟩]) s9wd99 (Reads.mid (pre := []) (mid := [.int .i64 x.1, .string ⟨x.2.toArray⟩]) (post := []) hrdx _ _ _ (Base.Le.refl _) no_res hv)) ?_)
   refine wpi_callV hcal tV wideC rfl (wn rfl) rfl rfl (args := #[.agg #[.int .i64 x.1, .string ⟨x.2.toArray⟩]]) (by simp only [List.map_toArray, List.map_cons, List.map_nil]; rfl) ((hf x (List.mem_of_getElem? hx) _ hv).mono ?_)
   rintro e w11 ⟨rfl, hv⟩
   refine ⟨_, rfl, ?_⟩
   simp only [zP, po]
   refine wK k10 (wpIn_cond_split (t := pr x) rfl (fun hc12 => ?_) (fun hc12 => ?_))
   ·refine sK fun _ k13 => rL (xM (.int .i64 (i : Int)) rfl ?_)
    refine xA (.int .i64 (i : Int)) rfl ?_
    simp only [zP, po]
    refine wK k13 (rR ?_)
    refine bE (tR ?_)
    refine tR (bE ?_)
    refine tR (bR rfl rfl ?_)
    exact ⟨_, rfl, ⟨fun _ => any_of hx (by simpa using hc12), fun _ => by omega⟩, hv⟩
   refine kS (bN ?_)
   refine tK k8 (rL ?_)
   refine xG (.int .i64 ((i + 1 : Nat) : Int)) rfl (ex_add rfl rfl rfl (by rw [i64_in (by omega)]; omega)) (xM (.int .i64 ((i + 1 : Nat) : Int)) rfl ?_)
   refine wL ?_
   simp only [zP, po]
   refine then_normal ?_
   go_roundw
   case rel => exact ⟨i + 1, rfl, by omega, fun j x' hj hx' => (by
      rcases Nat.lt_or_ge j i with h | h
      ·exact hno j x' h hx'
      obtain rfl : j = i := by omega
      rw [hx] at hx'; cases hx'
      simpa using hc12), hv⟩
   case measure => show l.length - (((i + 1 : Nat) : Int)).toNat < l.length - ((i : Int)).toNat; omega
  refine xG (.bool false) rfl (ex_lss rfl rfl rfl (decide_eq_false hb6)) ?_
  simp only [zP, po]
  refine wK k5 (sK fun _ k14 => ?_)
  refine cF rfl (xE ?_)
  refine tX (tX ?_)
  refine bH (tK k2 ?_)
  refine sK fun _ k15 => rL (xA (.int .i64 (-1)) rfl ?_)
  simp only [zP, po]
  refine wK k15 (rR ?_)
  refine bR rfl rfl ?_
  obtain rfl : i = l.length := by omega
  exact ⟨_, rfl, ⟨fun h => by omega, fun h => by rw [any_none (fun i x hx => hno i x (List.getElem?_eq_some_iff.1 hx).1 hx)] at h; cases h⟩, hv⟩
theorem s9callable112 : Callable Tryz.prog 112 := ⟨_, Tryz.func112, by kernel_rfl, by kernel_rfl⟩
set_option maxHeartbeats 2000000 in
theorem containsFuncMem (B : Base) (H : List Res) (w : World) (f : FuncId) (cb : Array Value) (ad : Option Addr) (c : Nat) (l : List (Int × List UInt8)) (pr : (Int × List UInt8) → Bool) (hr : RdV B [] ad (memCells l)) (hm : l.length ≤ 1000000) (hcal : Callable Tryz.prog f) (hf : ∀ x ∈ l, ∀ w, Inv B H w → Calls Tryz.prog f (#[.agg #[.int .i64 x.1, .string ⟨x.2.toArray⟩]] ++ cb) w fun e w' => e = .returned (.bool (pr x)) ∧ Inv B H w') (hv : Inv B H w) :
  Calls Tryz.prog 93 #[.slice ad l.length c, .func (.func f) #[] cb] w fun e w' => e = .returned (.bool (l.any pr)) ∧ Inv B H w' := by
 refine cW Tryz.func93 rfl Tryz.ntmps93 ?_
 simp only [al]
 refine sK fun _ k1 => rL (xA (.bool false) rfl ?_)
 simp only [zP, po]
 refine wK k1 (sK fun _ k2 => ?_)
 refine rL (xM (.slice ad l.length c) rfl ?_)
 refine xM (.func (.func f) #[] cb) rfl (xC s9callable112 rfl ((indexFuncMem B H _ f cb ad c l pr hr hm hcal hf hv).mono ?_) rfl)
 rintro e w3 ⟨r, rfl, hra, hv⟩
 refine ⟨_, rfl, ?_⟩
 simp only [zP, po]
 refine xG (.bool (decide (r ≥ 0))) rfl (ex_geq rfl rfl rfl rfl) (xA (.bool (decide (r ≥ 0))) rfl ?_)
 simp only [zP, po]
 refine wK k2 (rR ?_)
 refine bR rfl rfl (⟨congrArg (fun b => Ending.returned (Value.bool b)) (by rw [Bool.eq_iff_iff, decide_eq_true_iff]; exact hra), hv⟩)
set_option maxHeartbeats 2000000 in
theorem listLong (B : Base) (H : List Res) (w : World) (s : List UInt8) (hv : Inv B H w) :
  Calls Tryz.prog 91 #[.string ⟨s.toArray⟩] w fun e w' => e = .returned (.bool (decide (s.length > 4096))) ∧ Inv B H w' := by
 refine cW Tryz.func91 rfl Tryz.ntmps91 ?_
 simp only [al]
 refine sK fun _ k1 => rL (xA (.bool false) rfl ?_)
 simp only [zP, po]
 refine wK k1 (sK fun _ k2 => ?_)
 refine rL (xM (.string ⟨s.toArray⟩) rfl ?_)
 refine xG (.int .i64 (s.length : Int)) rfl (ex_lenStr Tryz.underlying9 rfl rfl) (xG (.bool (decide ((s.length : Int) > 4096))) rfl (ex_gtr rfl rfl rfl rfl) ?_)
 simp only [zP, po]
 refine xA (.bool (decide ((s.length : Int) > 4096))) rfl ?_
 simp only [zP, po]
 refine wK k2 (rR ?_)
 refine bR rfl rfl (⟨congrArg (fun b => Ending.returned (Value.bool b)) (decide_eq_decide.2 (by omega)), hv⟩)
set_option maxHeartbeats 2000000 in
theorem setLong (B : Base) (H : List Res) (w : World) (s : List UInt8) (hv : Inv B H w) :
  Calls Tryz.prog 92 #[.string ⟨s.toArray⟩] w fun e w' => e = .returned (.bool (decide (s.length > 4096))) ∧ Inv B H w' := by
 refine cW Tryz.func92 rfl Tryz.ntmps92 ?_
 simp only [al]
 refine sK fun _ k1 => rL (xA (.bool false) rfl ?_)
 simp only [zP, po]
 refine wK k1 (sK fun _ k2 => ?_)
 refine rL (xM (.string ⟨s.toArray⟩) rfl ?_)
 refine xG (.int .i64 (s.length : Int)) rfl (ex_lenStr Tryz.underlying9 rfl rfl) (xG (.bool (decide ((s.length : Int) > 4096))) rfl (ex_gtr rfl rfl rfl rfl) ?_)
 simp only [zP, po]
 refine xA (.bool (decide ((s.length : Int) > 4096))) rfl ?_
 simp only [zP, po]
 refine wK k2 (rR ?_)
 refine bR rfl rfl (⟨congrArg (fun b => Ending.returned (Value.bool b)) (decide_eq_decide.2 (by omega)), hv⟩)
theorem s9fa99_1 (w : World) (b o : Nat) : (Instr.fieldAt 99 (.pointer (some ⟨b, o, none⟩)) 1).run Tryz.prog w = .ok (.pointer (some ⟨b, o + 1, none⟩)) w := by kernel_rfl
set_option maxHeartbeats 2000000 in
theorem zsetLong (B : Base) (H : List Res) (w : World) (n : Int) (s : List UInt8) (hv : Inv B H w) :
  Calls Tryz.prog 94 #[.agg #[.int .i64 n, .string ⟨s.toArray⟩]] w fun e w' => e = .returned (.bool (decide (s.length > 4096))) ∧ Inv B H w' := by
 refine cW Tryz.func94 rfl Tryz.ntmps94 ?_
 simp only [al]
 refine sK fun _ k1 => rL (sl_box (L := [.int .i64 n, .string ⟨s.toArray⟩]) tV (wn rfl) rfl rfl hv (fun w => by kernel_rfl) (fun b2 w3 hv => ?_))
 refine xA (.bool false) rfl ?_
 simp only [zP, po]
 refine wK k1 (sK fun _ k4 => ?_)
 refine rL (xF (.pointer (some ⟨b2, 1, none⟩)) rfl (s9fa99_1 _ _ _) ?_)
 refine xL _ rfl (run_load1 s9na9 (hv.load 0 1 rfl rfl)) (xG (.int .i64 (s.length : Int)) rfl (ex_lenStr Tryz.underlying9 rfl rfl) ?_)
 simp only [zP, po]
 refine xG (.bool (decide ((s.length : Int) > 4096))) rfl (ex_gtr rfl rfl rfl rfl) (xA (.bool (decide ((s.length : Int) > 4096))) rfl ?_)
 simp only [zP, po]
 refine wK k4 (rR ?_)
 refine bR rfl rfl (⟨congrArg (fun b => Ending.returned (Value.bool b)) (decide_eq_decide.2 (by omega)), (hv.sub (List.Sublist.cons _ (List.Sublist.refl _)))⟩)
def listRight (l : List (List UInt8)) : Bool := decide (l.length ≤ 512) && !l.any (fun s : List UInt8 => decide (s.length > 4096))
theorem s9callable91 : Callable Tryz.prog 91 := ⟨_, Tryz.func91, by kernel_rfl, by kernel_rfl⟩
theorem s9callable73 : Callable Tryz.prog 73 := ⟨_, Tryz.func73, by kernel_rfl, by kernel_rfl⟩
set_option maxHeartbeats 2000000 in
theorem listRightC (B : Base) (H : List Res) (w : World) (ad : Option Addr) (c : Nat) (l : List (List UInt8)) (hr : RdV B [] ad (textCells l)) (hm : l.length ≤ 1000000) (hv : Inv B H w) :
  Calls Tryz.prog 75 #[.slice ad l.length c] w fun e w' => e = .returned (.bool (listRight l)) ∧ Inv B H w' := by
 refine cW Tryz.func75 rfl Tryz.ntmps75 ?_
 simp only [al]
 refine sK fun _ k1 => rL (xA (.bool false) rfl ?_)
 simp only [zP, po]
 refine wK k1 (sK fun _ k2 => ?_)
 refine rL (xM (.slice ad l.length c) rfl ?_)
 refine xG (.int .i64 (l.length : Int)) rfl (ex_len0 Tryz.underlying29 rfl rfl) ?_
 by_cases hb3 : (l.length : Int) ≤ 512
 ·refine xG (.bool true) rfl (ex_leq rfl rfl rfl (decide_eq_true hb3)) ?_
  simp only [zP, po]
  refine xM (.bool true) rfl (xM (.slice ad l.length c) rfl ?_)
  refine xC s9callable73 rfl ((containsFuncText B _ _ 91 #[] ad c l (fun s : List UInt8 => decide (s.length > 4096)) hr hm s9callable91 (fun x _ w hv => listLong B _ w x hv) hv).mono ?_) rfl
  rintro e w4 ⟨rfl, hv⟩
  refine ⟨_, rfl, ?_⟩
  simp only [zP, po]
  refine xG (.bool (!(l.any (fun s : List UInt8 => decide (s.length > 4096))))) rfl (ex_not rfl rfl rfl) (xK true (.bool (!(l.any (fun s : List UInt8 => decide (s.length > 4096))))) rfl ?_)
  refine xA (.bool (!(l.any (fun s : List UInt8 => decide (s.length > 4096))))) rfl ?_
  simp only [zP, po]
  refine wK k2 (rR ?_)
  refine bR rfl rfl (⟨congrArg (fun b => Ending.returned (Value.bool b)) (by unfold listRight; first | rw [decide_eq_true (by omega : l.length ≤ 512)]; rfl | (rw [decide_eq_false (by omega : ¬ l.length ≤ 512)]; rfl)), hv⟩)
 refine xG (.bool false) rfl (ex_leq rfl rfl rfl (decide_eq_false hb3)) ?_
 simp only [zP, po]
 refine xM (.bool false) rfl ?_
 iterate 3 refine yN rfl ?_
 refine xK false (.bool false) rfl (xA (.bool false) rfl ?_)
 simp only [zP, po]
 refine wK k2 (rR ?_)
 refine bR rfl rfl (⟨congrArg (fun b => Ending.returned (Value.bool b)) (by unfold listRight; first | rw [decide_eq_true (by omega : l.length ≤ 512)]; rfl | (rw [decide_eq_false (by omega : ¬ l.length ≤ 512)]; rfl)), hv⟩)
end Go.Proofs.YtkoghbmjbobfjaaGreat
/- Transactions: may. -/
namespace Go.Proofs.YtkoghbmjbobfjaaGreat
open Go.RowKit Go.Pm
theorem x1es86 (w : World) : (sizeOf (Tryz.prog.elem 86)).run Tryz.prog w = .ok 1 w := by kernel_rfl
theorem x1na25 (w : World) : (isAgg 25).run Tryz.prog w = .ok false w := by kernel_rfl
set_option maxHeartbeats 2000000 in
theorem indexTx (B : Base) (H : List Res) (w : World) (t : Nat) (va : Option Addr) (vc : Nat) (hv : Inv B (Res.row 25 1 (.slice va 1 vc) 1 [.pointer (some ⟨t, 0, none⟩)] :: H) w) :
  Calls Tryz.prog 80 #[.slice va 1 vc, .pointer (some ⟨t, 0, none⟩)] w fun e w' => e = .returned (.int .i64 0) ∧ Inv B (Res.row 25 1 (.slice va 1 vc) 1 [.pointer (some ⟨t, 0, none⟩)] :: H) w' := by
 refine cW Tryz.func80 rfl Tryz.ntmps80 ?_
 simp only [al]
 refine sK fun _ k1 => rL (xA (.int .i64 0) rfl ?_)
 simp only [zP, po]
 refine wK k1 (sK fun _ k2 => ?_)
 refine sK fun _ k3 => rL (xM (.slice va 1 vc) rfl ?_)
 refine xG (.int .i64 1) rfl (ex_len0 Tryz.underlying86 rfl rfl) (xM (.int .i64 0) rfl ?_)
 simp only [zP, po]
 refine wK k3 (bB ?_)
 gi_loopw [8] (fun x8 wr => x8 = .int .i64 0 ∧ Inv B (Res.row 25 1 (.slice va 1 vc) 1 [.pointer (some ⟨t, 0, none⟩)] :: H) wr) (fun x8 _ => 0)
 case atStart => exact ⟨rfl, hv⟩
 case round =>
  obtain ⟨rfl, hv⟩ := hrel
  refine sK fun _ k5 => rL (xG (.bool true) rfl (ex_lss rfl rfl rfl (by decide)) ?_)
  simp only [zP, po]
  refine wK k5 (sK fun _ k6 => ?_)
  refine cT rfl (kS ?_)
  refine tK k6 (sK fun _ k7 => ?_)
  refine bB (sK fun _ k8 => ?_)
  refine rL (xM (.int .i64 0) rfl ?_)
  refine xA (.int .i64 0) rfl ?_
  simp only [zP, po]
  refine wK k8 (sK fun _ k9 => ?_)
  obtain ⟨b, rfl⟩ := row_some hv.head (by omega)
  refine rL (xM (.pointer (some ⟨t, 0, none⟩)) rfl ?_)
  refine xM (.slice (some ⟨b, 0, none⟩) 1 vc) rfl (xM (.int .i64 0) rfl ?_)
  simp only [zP, po]
  refine xG (.pointer (some ⟨b, 0 + 0, none⟩)) rfl (ex_index rfl rfl rfl (run_idx1 (k := 0) Tryz.underlying86 x1es86 (by omega))) (xL _ rfl (run_load1 x1na25 (row_load (hv.get 0 rfl) rfl)) ?_)
  refine xG (.bool true) rfl (ex_psame Tryz.underlying25 (by kernel_rfl) rfl rfl rfl) ?_
  simp only [zP, po]
  refine wK k9 (cT rfl ?_)
  refine sK fun _ k10 => rL (xM (.int .i64 0) rfl ?_)
  refine xA (.int .i64 0) rfl ?_
  simp only [zP, po]
  refine wK k10 (rR ?_)
  refine bE (tR ?_)
  refine tR (bE ?_)
  refine tR (bR rfl rfl ?_)
  exact ⟨rfl, hv⟩
theorem x1callable80 : Callable Tryz.prog 80 := ⟨_, Tryz.func80, by kernel_rfl, by kernel_rfl⟩
set_option maxHeartbeats 2000000 in
theorem containsTx (B : Base) (H : List Res) (w : World) (t : Nat) (va : Option Addr) (vc : Nat) (hv : Inv B (Res.row 25 1 (.slice va 1 vc) 1 [.pointer (some ⟨t, 0, none⟩)] :: H) w) :
  Calls Tryz.prog 72 #[.slice va 1 vc, .pointer (some ⟨t, 0, none⟩)] w fun e w' => e = .returned (.bool true) ∧ Inv B (Res.row 25 1 (.slice va 1 vc) 1 [.pointer (some ⟨t, 0, none⟩)] :: H) w' := by
 refine cW Tryz.func72 rfl Tryz.ntmps72 ?_
 simp only [al]
 refine sK fun _ k1 => rL (xA (.bool false) rfl ?_)
 simp only [zP, po]
 refine wK k1 (sK fun _ k2 => ?_)
 refine rL (xM (.slice va 1 vc) rfl ?_)
 refine xM (.pointer (some ⟨t, 0, none⟩)) rfl (xC x1callable80 rfl ((indexTx B H _ t va vc hv).mono ?_) rfl)
 rintro e w3 ⟨rfl, hv⟩
 refine ⟨_, rfl, ?_⟩
 simp only [zP, po]
 refine xG (.bool true) rfl (ex_geq rfl rfl rfl (by decide)) (xA (.bool true) rfl ?_)
 simp only [zP, po]
 refine wK k2 (rR ?_)
 refine bR rfl rfl (⟨rfl, hv⟩)
set_option maxHeartbeats 2000000 in
theorem mayLong (B : Base) (H : List Res) (w : World) (s : List UInt8) (hv : Inv B H w) :
  Calls Tryz.prog 71 #[.string ⟨s.toArray⟩] w fun e w' => e = .returned (.bool (decide (s.length > 256))) ∧ Inv B H w' := by
 refine cW Tryz.func71 rfl Tryz.ntmps71 ?_
 simp only [al]
 refine sK fun _ k1 => rL (xA (.bool false) rfl ?_)
 simp only [zP, po]
 refine wK k1 (sK fun _ k2 => ?_)
 refine rL (xM (.string ⟨s.toArray⟩) rfl ?_)
 refine xG (.int .i64 (s.length : Int)) rfl (ex_lenStr Tryz.underlying9 rfl rfl) (xG (.bool (decide ((s.length : Int) > 256))) rfl (ex_gtr rfl rfl rfl rfl) ?_)
 simp only [zP, po]
 refine xA (.bool (decide ((s.length : Int) > 256))) rfl ?_
 simp only [zP, po]
 refine wK k2 (rR ?_)
 refine bR rfl rfl (⟨congrArg (fun b => Ending.returned (Value.bool b)) (decide_eq_decide.2 (by omega)), hv⟩)
theorem x1fa120_3 (w : World) (b o : Nat) : (Instr.fieldAt 120 (.pointer (some ⟨b, o, none⟩)) 3).run Tryz.prog w = .ok (.pointer (some ⟨b, o + 3, none⟩)) w := by kernel_rfl
theorem x1fa120_0 (w : World) (b o : Nat) : (Instr.fieldAt 120 (.pointer (some ⟨b, o, none⟩)) 0).run Tryz.prog w = .ok (.pointer (some ⟨b, o + 0, none⟩)) w := by kernel_rfl
theorem x1na65 (w : World) : (isAgg 65).run Tryz.prog w = .ok false w := by kernel_rfl
theorem x1fa88_3 (w : World) (b o : Nat) : (Instr.fieldAt 88 (.pointer (some ⟨b, o, none⟩)) 3).run Tryz.prog w = .ok (.pointer (some ⟨b, o + 3, none⟩)) w := by kernel_rfl
theorem x1na86 (w : World) : (isAgg 86).run Tryz.prog w = .ok false w := by kernel_rfl
theorem x1callable72 : Callable Tryz.prog 72 := ⟨_, Tryz.func72, by kernel_rfl, by kernel_rfl⟩
theorem x1callable71 : Callable Tryz.prog 71 := ⟨_, Tryz.func71, by kernel_rfl, by kernel_rfl⟩
set_option maxHeartbeats 2000000 in
theorem txnMay (B : Base) (H : List Res) (w : World) (t m s wb : Nat) (va : Option Addr) (vc : Nat) (sv : Value) (clk : Int) (ka : Option Addr) (kc : Nat) (ks : List (List UInt8)) (hr : RdV B [] ka (textCells ks)) (hm : ks.length ≤ 1000000) (hv : Inv B (Res.cell t [.pointer (some ⟨m, 0, none⟩), .int .i64 0, .int .i64 clk, .bool false, .map (some wb)] 120 :: Res.cell m [.pointer (some ⟨s, 0, none⟩), sv, .int .i64 clk, .slice va 1 vc] 88 :: Res.row 25 1 (.slice va 1 vc) 1 [.pointer (some ⟨t, 0, none⟩)] :: H) w) :
  Calls Tryz.prog 52 #[.pointer (some ⟨t, 0, none⟩), .slice ka ks.length kc] w fun e w' => ∃ ec : Int, e = .returned (.int .i64 ec) ∧ ((ec = 0 ∧ ks.any (fun s : List UInt8 => decide (s.length > 256)) = false) ∨ (ec = 2 ∧ ks.any (fun s : List UInt8 => decide (s.length > 256)) = true)) ∧ Inv B (Res.cell t [.pointer (some ⟨m, 0, none⟩), .int .i64 0, .int .i64 clk, .bool false, .map (some wb)] 120 :: Res.cell m [.pointer (some ⟨s, 0, none⟩), sv, .int .i64 clk, .slice va 1 vc] 88 :: Res.row 25 1 (.slice va 1 vc) 1 [.pointer (some ⟨t, 0, none⟩)] :: H) w' := by
 refine cW Tryz.func52 rfl Tryz.ntmps52 ?_
 simp only [al]
 refine sK fun _ k1 => rL (xA (.int .i64 0) rfl ?_)
 simp only [zP, po]
 refine wK k1 (sK fun _ k2 => ?_)
 refine sK fun _ k3 => rL (xM (.pointer (some ⟨t, 0, none⟩)) rfl ?_)
 refine xG (.pointer (some ⟨t, 0, none⟩)) rfl (ex_nil rfl rfl) (xF (.pointer (some ⟨t, 3, none⟩)) rfl (x1fa120_3 _ _ _) ?_)
 simp only [zP, po]
 refine xL _ rfl (run_load1 s2na4 (hv.load 0 3 rfl rfl)) ?_
 simp only [zP, po]
 refine wK k3 (cF rfl ?_)
 refine kS (tK k2 ?_)
 refine sK fun _ k4 => rL (xA (.func (.func 71) #[] #[]) rfl ?_)
 simp only [zP, po]
 refine wK k4 (sK fun _ k5 => ?_)
 refine sK fun _ k6 => rL (xM (.pointer (some ⟨t, 0, none⟩)) rfl ?_)
 refine xG (.pointer (some ⟨t, 0, none⟩)) rfl (ex_nil rfl rfl) (xF (.pointer (some ⟨t, 0, none⟩)) rfl (x1fa120_0 _ _ _) ?_)
 simp only [zP, po]
 refine xL _ rfl (run_load1 x1na65 (hv.load 0 0 rfl rfl)) (xG (.bool false) rfl (ex_pisnil Tryz.underlying65 rfl rfl rfl rfl) ?_)
 refine xM (.bool false) rfl ?_
 simp only [zP, po]
 refine xM (.pointer (some ⟨t, 0, none⟩)) rfl (xG (.pointer (some ⟨t, 0, none⟩)) rfl (ex_nil rfl rfl) ?_)
 refine xF (.pointer (some ⟨t, 0, none⟩)) rfl (x1fa120_0 _ _ _) ?_
 simp only [zP, po]
 refine xL _ rfl (run_load1 x1na65 (hv.load 0 0 rfl rfl)) (xG (.pointer (some ⟨m, 0, none⟩)) rfl (ex_nil rfl rfl) ?_)
 refine xF (.pointer (some ⟨m, 3, none⟩)) rfl (x1fa88_3 _ _ _) ?_
 simp only [zP, po]
 refine xL _ rfl (run_load1 x1na86 (hv.load 1 3 rfl rfl)) (xM (.pointer (some ⟨t, 0, none⟩)) rfl ?_)
 replace hv := hv.front 1 rfl
 simp only [List.eraseIdx_cons_succ, List.eraseIdx_cons_zero] at hv
 replace hv := hv.front 1 rfl
 simp only [List.eraseIdx_cons_succ, List.eraseIdx_cons_zero] at hv
 replace hv := hv.front 2 rfl
 simp only [List.eraseIdx_cons_succ, List.eraseIdx_cons_zero] at hv
 refine xC x1callable72 rfl ((containsTx B _ _ t va vc hv).mono ?_) rfl
 rintro e w7 ⟨rfl, hv⟩
 refine ⟨_, rfl, ?_⟩
 simp only [zP, po]
 refine xG (.bool false) rfl (ex_not rfl rfl rfl) (xK false (.bool false) rfl ?_)
 refine xM (.bool false) rfl ?_
 simp only [zP, po]
 refine xM (.slice ka ks.length kc) rfl (xM (.func (.func 71) #[] #[]) rfl ?_)
 refine xC s9callable73 rfl ((containsFuncText B _ _ 71 #[] ka kc ks (fun s : List UInt8 => decide (s.length > 256)) hr hm x1callable71 (fun x _ w hv => mayLong B _ w x hv) hv).mono ?_) rfl
 rintro e w8 ⟨rfl, hv⟩
 refine ⟨_, rfl, ?_⟩
 simp only [zP, po]
 refine xK false (.bool (ks.any (fun s : List UInt8 => decide (s.length > 256)))) rfl ?_
 simp only [zP, po]
 refine wK k6 (wpIn_cond_split (t := ks.any (fun s : List UInt8 => decide (s.length > 256))) rfl (fun hc9 => ?_) (fun hc9 => ?_))
 ·refine sK fun _ k10 => rL (xA (.int .i64 2) rfl ?_)
  simp only [zP, po]
  refine wK k10 (rR ?_)
  refine tR (bR rfl rfl ?_)
  exact ⟨_, rfl, .inr ⟨rfl, hc9⟩, ((hv.front 2 rfl).front 2 rfl)⟩
 refine kS (tK k5 ?_)
 refine sK fun _ k11 => rL (xA (.int .i64 0) rfl ?_)
 simp only [zP, po]
 refine wK k11 (rR ?_)
 refine bR rfl rfl (⟨_, rfl, .inl ⟨rfl, hc9⟩, ((hv.front 2 rfl).front 2 rfl)⟩)
end Go.Proofs.YtkoghbmjbobfjaaGreat
/- Which sets and hashes are right. -/
namespace Go.Proofs.YtkoghbmjbobfjaaGreat
open Go.RowKit Go.Pm
theorem calls_bool {P : Program} {f : FuncId} {args : Array Value} {w : World} {R : World → Prop} {b b' : Bool} (h : Calls P f args w fun e w' => e = .returned (.bool b) ∧ R w') (hb : b = b') : Calls P f args w fun e w' => e = .returned (.bool b') ∧ R w' := hb ▸ h
def SetAt (l : List (List UInt8)) (i : Nat) : Prop := ∀ x, l[i]? = some x → x.length ≤ 4096 ∧ ∀ (j : Nat) y, i = j + 1 → l[j]? = some y → Op.bytesLess y x = true
def SetOk (l : List (List UInt8)) : Prop := l.length ≤ 512 ∧ ∀ i, SetAt l i
def HashAt (l : List (List UInt8 × List UInt8)) (i : Nat) : Prop := ∀ x, l[i]? = some x → (x.1.length ≤ 4096 ∧ x.2.length ≤ 4096) ∧ ∀ (j : Nat) y, i = j + 1 → l[j]? = some y → Op.bytesLess y.1 x.1 = true
def HashOk (l : List (List UInt8 × List UInt8)) : Prop := l.length ≤ 512 ∧ ∀ i, HashAt l i
theorem s10callable92 : Callable Tryz.prog 92 := ⟨_, Tryz.func92, by kernel_rfl, by kernel_rfl⟩
set_option maxHeartbeats 2000000 in
theorem setRightC (B : Base) (H : List Res) (w : World) (ad : Option Addr) (c : Nat) (l : List (List UInt8)) (hr : RdV B [] ad (textCells l)) (hm : l.length ≤ 1000000) (hv : Inv B H w) :
  Calls Tryz.prog 76 #[.slice ad l.length c] w fun e w' => ∃ b, e = .returned (.bool b) ∧ (b = true ↔ SetOk l) ∧ Inv B H w' := by
 refine cW Tryz.func76 rfl Tryz.ntmps76 ?_
 simp only [al]
 refine sK fun _ k1 => rL (xA (.bool false) rfl ?_)
 simp only [zP, po]
 refine wK k1 (sK fun _ k2 => ?_)
 refine sK fun _ k3 => rL (xM (.slice ad l.length c) rfl ?_)
 refine xG (.int .i64 (l.length : Int)) rfl (ex_len0 Tryz.underlying29 rfl rfl) ?_
 by_cases hb4 : (l.length : Int) > 512
 ·refine xG (.bool true) rfl (ex_gtr rfl rfl rfl (decide_eq_true hb4)) ?_
  simp only [zP, po]
  refine wK k3 (cT rfl ?_)
  refine sK fun _ k5 => rL (xA (.bool false) rfl ?_)
  simp only [zP, po]
  refine wK k5 (rR ?_)
  refine tR (bR rfl rfl ?_)
  exact ⟨false, rfl, ⟨fun h => (by cases h), fun h => by have := h.1; omega⟩, hv⟩
 refine xG (.bool false) rfl (ex_gtr rfl rfl rfl (decide_eq_false hb4)) ?_
 simp only [zP, po]
 refine wK k3 (cF rfl ?_)
 refine kS (tK k2 ?_)
 refine sK fun _ k6 => sK fun _ k7 => rL (xM (.slice ad l.length c) rfl ?_)
 refine xG (.int .i64 (l.length : Int)) rfl (ex_len0 Tryz.underlying29 rfl rfl) (xM (.int .i64 0) rfl ?_)
 simp only [zP, po]
 refine wK k7 (bB ?_)
 gi_loopw [10] (fun x10 wr => ∃ (i : Nat), x10 = .int .i64 (i : Int) ∧ i ≤ l.length ∧ (∀ k, k < i → SetAt l k) ∧ Inv B H wr) (fun x10 _ => l.length - (intOf x10).toNat)
 case atStart => exact ⟨0, rfl, Nat.zero_le _, fun k h => by omega, hv⟩
 case round =>
  obtain ⟨i, rfl, hi, hall, hv⟩ := hrel
  refine sK fun _ k9 => rL ?_
  by_cases hb10 : (i : Int) < (l.length : Int)
  ·refine xG (.bool true) rfl (ex_lss rfl rfl rfl (decide_eq_true hb10)) ?_
   simp only [zP, po]
   refine wK k9 (sK fun _ k11 => ?_)
   refine cT rfl (kS ?_)
   refine tK k11 (sK fun _ k12 => ?_)
   refine bB (sK fun _ k13 => ?_)
   obtain ⟨x, hx⟩ : ∃ x, l[i]? = some x := ⟨_, List.getElem?_eq_getElem (show i < l.length by omega)⟩
   obtain ⟨bb, bo, had, hrdx⟩ := text_reads hr hx
   subst had
   refine rL (xM (.int .i64 (i : Int)) rfl ?_)
   refine xG (.pointer (some ⟨bb, bo + i, none⟩)) rfl (ex_index rfl rfl rfl (run_idx1 (k := i) Tryz.underlying29 s9es29 (by omega))) (xL _ rfl (run_load1 s9na9 (hrdx _ _ _ (Base.Le.refl _) no_res hv 0 _ rfl)) ?_)
   simp only [zP, po]
   refine xA (.int .i64 (i : Int)) rfl (xA (.string ⟨x.toArray⟩) rfl ?_)
   simp only [zP, po]
   refine wK k13 (sK fun _ k14 => ?_)
   refine rL (xM (.string ⟨x.toArray⟩) rfl ?_)
   by_cases hq15 : x.length > 4096
   ·refine xC s10callable92 rfl ((calls_bool (setLong B _ _ x hv) (decide_eq_true hq15)).mono ?_) rfl
    rintro e w16 ⟨rfl, hv⟩
    refine ⟨_, rfl, ?_⟩
    refine xM (.bool true) rfl ?_
    simp only [zP, po]
    refine yP rfl (yP rfl ?_)
    refine yP rfl ?_
    simp only [zP, po]
    refine yP rfl (yP rfl ?_)
    refine yP rfl ?_
    simp only [zP, po]
    refine yP rfl (yP rfl ?_)
    refine yP rfl ?_
    simp only [zP, po]
    refine yP rfl (yP rfl ?_)
    refine xK true (.bool true) rfl ?_
    simp only [zP, po]
    refine wK k14 (cT rfl ?_)
    refine sK fun _ k17 => rL (xA (.bool false) rfl ?_)
    simp only [zP, po]
    refine wK k17 (rR ?_)
    refine bE (tR ?_)
    refine tR (bE ?_)
    refine tR (bR rfl rfl ?_)
    exact ⟨false, rfl, ⟨fun h => (by cases h), fun h => by have := (h.2 i x hx).1; first | omega | exact absurd this hq15⟩, hv⟩
   refine xC s10callable92 rfl ((calls_bool (setLong B _ _ x hv) (decide_eq_false hq15)).mono ?_) rfl
   rintro e w18 ⟨rfl, hv⟩
   refine ⟨_, rfl, ?_⟩
   refine xM (.bool false) rfl ?_
   simp only [zP, po]
   refine xM (.int .i64 (i : Int)) rfl ?_
   by_cases hb19 : (i : Int) > 0
   ·refine xG (.bool true) rfl (ex_gtr rfl rfl rfl (decide_eq_true hb19)) ?_
    obtain ⟨j, hj⟩ : ∃ j : Nat, i = j + 1 := ⟨i - 1, by omega⟩
    obtain ⟨y, hy⟩ : ∃ x, l[j]? = some x := ⟨_, List.getElem?_eq_getElem (show j < l.length by omega)⟩
    obtain ⟨b9, o9, had9, hrdy⟩ := text_reads hr hy
    cases had9
    refine xM (.bool true) rfl ?_
    simp only [zP, po]
    refine xM (.slice (some ⟨bb, bo, none⟩) l.length c) rfl (xM (.int .i64 (i : Int)) rfl ?_)
    refine xG (.int .i64 (j : Int)) rfl (ex_sub rfl rfl rfl (by rw [i64_in (by omega)]; omega)) ?_
    simp only [zP, po]
    refine xG (.pointer (some ⟨bb, bo + j, none⟩)) rfl (ex_index rfl rfl rfl (run_idx1 (k := j) Tryz.underlying29 s9es29 (by omega))) (xL _ rfl (run_load1 s9na9 (hrdy _ _ _ (Base.Le.refl _) no_res hv 0 _ rfl)) ?_)
    refine xM (.string ⟨x.toArray⟩) rfl ?_
    simp only [zP, po]
    refine xG (.bool (!Op.bytesLess y x)) rfl (ex_sgeq rfl rfl rfl rfl) (xK true (.bool (!Op.bytesLess y x)) rfl ?_)
    refine xK false (.bool (!Op.bytesLess y x)) rfl ?_
    simp only [zP, po]
    refine wK k14 (wpIn_cond_split (t := !Op.bytesLess y x) rfl (fun hc20 => ?_) (fun hc20 => ?_))
    ·refine sK fun _ k21 => rL (xA (.bool false) rfl ?_)
     simp only [zP, po]
     refine wK k21 (rR ?_)
     refine bE (tR ?_)
     refine tR (bE ?_)
     refine tR (bR rfl rfl ?_)
     exact ⟨false, rfl, ⟨fun h => (by cases h), fun h => by have := (h.2 i x hx).2 j y (by omega) hy; rw [this] at hc20; simp at hc20⟩, hv⟩
    refine kS (bN ?_)
    refine tK k12 (rL ?_)
    refine xG (.int .i64 ((i + 1 : Nat) : Int)) rfl (ex_add rfl rfl rfl (by rw [i64_in (by omega)]; omega)) (xM (.int .i64 ((i + 1 : Nat) : Int)) rfl ?_)
    refine wL ?_
    simp only [zP, po]
    refine then_normal ?_
    go_roundw
    case rel => exact ⟨i + 1, rfl, by omega, fun k hk => (by
       rcases Nat.lt_or_ge k i with h | h
       ·exact hall k h
       obtain rfl : k = i := by omega
       intro x' hx'
       rw [hx] at hx'; cases hx'
       refine ⟨by omega, fun j' y' hj' hy' => ?_⟩
       obtain rfl : j' = j := by omega
       rw [hy] at hy'; cases hy'; simpa using hc20), hv⟩
    case measure => show l.length - (((i + 1 : Nat) : Int)).toNat < l.length - ((i : Int)).toNat; omega
   refine xG (.bool false) rfl (ex_gtr rfl rfl rfl (decide_eq_false hb19)) (xM (.bool false) rfl ?_)
   simp only [zP, po]
   refine yP rfl (yP rfl ?_)
   refine yP rfl ?_
   simp only [zP, po]
   refine yP rfl (yP rfl ?_)
   refine yP rfl ?_
   simp only [zP, po]
   refine yP rfl (xK false (.bool false) rfl ?_)
   refine xK false (.bool false) rfl ?_
   simp only [zP, po]
   refine wK k14 (cF rfl ?_)
   refine kS (bN ?_)
   refine tK k12 (rL ?_)
   refine xG (.int .i64 ((i + 1 : Nat) : Int)) rfl (ex_add rfl rfl rfl (by rw [i64_in (by omega)]; omega)) (xM (.int .i64 ((i + 1 : Nat) : Int)) rfl ?_)
   refine wL ?_
   simp only [zP, po]
   refine then_normal ?_
   go_roundw
   case rel => exact ⟨i + 1, rfl, by omega, fun k hk => (by
      rcases Nat.lt_or_ge k i with h | h
      ·exact hall k h
      obtain rfl : k = i := by omega
      intro x' hx'
      rw [hx] at hx'; cases hx'
      refine ⟨by omega, fun j' y' hj' hy' => ?_⟩
      omega), hv⟩
   case measure => show l.length - (((i + 1 : Nat) : Int)).toNat < l.length - ((i : Int)).toNat; omega
  refine xG (.bool false) rfl (ex_lss rfl rfl rfl (decide_eq_false hb10)) ?_
  simp only [zP, po]
  refine wK k9 (sK fun _ k22 => ?_)
  refine cF rfl (xE ?_)
  refine tX (tX ?_)
  refine bH (tK k6 ?_)
  refine sK fun _ k23 => rL (xA (.bool true) rfl ?_)
  simp only [zP, po]
  refine wK k23 (rR ?_)
  refine bR rfl rfl ?_
  obtain rfl : i = l.length := by omega
  exact ⟨true, rfl, ⟨fun _ => ⟨by omega, fun k x hx => hall k (List.getElem?_eq_some_iff.1 hx).1 x hx⟩, fun _ => rfl⟩, hv⟩
theorem s10fa97_0 (w : World) (b o : Nat) : (Instr.fieldAt 97 (.pointer (some ⟨b, o, none⟩)) 0).run Tryz.prog w = .ok (.pointer (some ⟨b, o + 0, none⟩)) w := by kernel_rfl
theorem s10fa97_1 (w : World) (b o : Nat) : (Instr.fieldAt 97 (.pointer (some ⟨b, o, none⟩)) 1).run Tryz.prog w = .ok (.pointer (some ⟨b, o + 1, none⟩)) w := by kernel_rfl
set_option maxHeartbeats 2000000 in
theorem hashFits (B : Base) (H : List Res) (w : World) (x : List UInt8 × List UInt8) (hv : Inv B H w) :
  Calls Tryz.prog 90 #[.agg #[.string ⟨x.1.toArray⟩, .string ⟨x.2.toArray⟩]] w fun e w' => e = .returned (.bool (decide (x.1.length ≤ 4096 ∧ x.2.length ≤ 4096))) ∧ Inv B H w' := by
 refine cW Tryz.func90 rfl Tryz.ntmps90 ?_
 simp only [al]
 refine sK fun _ k1 => rL (sl_box (L := [.string ⟨x.1.toArray⟩, .string ⟨x.2.toArray⟩]) tV (wn rfl) rfl rfl hv (fun w => by kernel_rfl) (fun b2 w3 hv => ?_))
 refine xA (.bool false) rfl ?_
 simp only [zP, po]
 refine wK k1 (sK fun _ k4 => ?_)
 refine rL (xF (.pointer (some ⟨b2, 0, none⟩)) rfl (s10fa97_0 _ _ _) ?_)
 refine xL _ rfl (run_load1 s9na9 (hv.load 0 0 rfl rfl)) (xG (.int .i64 (x.1.length : Int)) rfl (ex_lenStr Tryz.underlying9 rfl rfl) ?_)
 simp only [zP, po]
 by_cases hb5 : (x.1.length : Int) ≤ 4096
 ·refine xG (.bool true) rfl (ex_leq rfl rfl rfl (decide_eq_true hb5)) (xM (.bool true) rfl ?_)
  refine xF (.pointer (some ⟨b2, 1, none⟩)) rfl (s10fa97_1 _ _ _) ?_
  simp only [zP, po]
  refine xL _ rfl (run_load1 s9na9 (hv.load 0 1 rfl rfl)) (xG (.int .i64 (x.2.length : Int)) rfl (ex_lenStr Tryz.underlying9 rfl rfl) ?_)
  by_cases hb6 : (x.2.length : Int) ≤ 4096
  ·refine xG (.bool true) rfl (ex_leq rfl rfl rfl (decide_eq_true hb6)) ?_
   simp only [zP, po]
   refine xK true (.bool true) rfl (xA (.bool true) rfl ?_)
   simp only [zP, po]
   refine wK k4 (rR ?_)
   refine bR rfl rfl (⟨congrArg (fun b => Ending.returned (Value.bool b)) (by symm; first | exact decide_eq_true (by constructor <;> omega) | exact decide_eq_false (by omega)), (hv.sub (List.Sublist.cons _ (List.Sublist.refl _)))⟩)
  refine xG (.bool false) rfl (ex_leq rfl rfl rfl (decide_eq_false hb6)) ?_
  simp only [zP, po]
  refine xK true (.bool false) rfl (xA (.bool false) rfl ?_)
  simp only [zP, po]
  refine wK k4 (rR ?_)
  refine bR rfl rfl (⟨congrArg (fun b => Ending.returned (Value.bool b)) (by symm; first | exact decide_eq_true (by constructor <;> omega) | exact decide_eq_false (by omega)), (hv.sub (List.Sublist.cons _ (List.Sublist.refl _)))⟩)
 refine xG (.bool false) rfl (ex_leq rfl rfl rfl (decide_eq_false hb5)) (xM (.bool false) rfl ?_)
 iterate 4 refine yN rfl ?_
 refine xK false (.bool false) rfl ?_
 simp only [zP, po]
 refine xA (.bool false) rfl ?_
 simp only [zP, po]
 refine wK k4 (rR ?_)
 refine bR rfl rfl (⟨congrArg (fun b => Ending.returned (Value.bool b)) (by symm; first | exact decide_eq_true (by constructor <;> omega) | exact decide_eq_false (by omega)), (hv.sub (List.Sublist.cons _ (List.Sublist.refl _)))⟩)
theorem s10es32 (w : World) : (sizeOf (Tryz.prog.elem 32)).run Tryz.prog w = .ok 2 w := by kernel_rfl
theorem s10wd97 : Wide Tryz.prog 97 2 := wide_of (fun w => by kernel_rfl) (by kernel_rfl)
theorem s10al97 (w : World) : (Instr.alloc 97 true (.tuple #[])).run Tryz.prog w = .ok (.pointer (some ⟨w.heap.size, 0, none⟩)) (w.alloc (.cells ([.string ⟨([] : List UInt8).toArray⟩, .string ⟨([] : List UInt8).toArray⟩] : List Value).toArray 97)) := by kernel_rfl
theorem s10sz97 : (Tryz.prog.info? 97).map (·.size) = some 2 := by kernel_rfl
theorem s10callable90 : Callable Tryz.prog 90 := ⟨_, Tryz.func90, by kernel_rfl, by kernel_rfl⟩
set_option maxHeartbeats 2000000 in
theorem hashRightC (B : Base) (H : List Res) (w : World) (ad : Option Addr) (c : Nat) (l : List (List UInt8 × List UInt8)) (hr : RdV B [] ad (pairCells l)) (hm : l.length ≤ 1000000) (hv : Inv B H w) :
  Calls Tryz.prog 74 #[.slice ad l.length c] w fun e w' => ∃ b, e = .returned (.bool b) ∧ (b = true ↔ HashOk l) ∧ Inv B H w' := by
 refine cW Tryz.func74 rfl Tryz.ntmps74 ?_
 simp only [al]
 refine sK fun _ k1 => rL (xA (.bool false) rfl ?_)
 simp only [zP, po]
 refine wK k1 (sK fun _ k2 => ?_)
 refine sK fun _ k3 => rL (xM (.slice ad l.length c) rfl ?_)
 refine xG (.int .i64 (l.length : Int)) rfl (ex_len0 Tryz.underlying32 rfl rfl) ?_
 by_cases hb4 : (l.length : Int) > 512
 ·refine xG (.bool true) rfl (ex_gtr rfl rfl rfl (decide_eq_true hb4)) ?_
  simp only [zP, po]
  refine wK k3 (cT rfl ?_)
  refine sK fun _ k5 => rL (xA (.bool false) rfl ?_)
  simp only [zP, po]
  refine wK k5 (rR ?_)
  refine tR (bR rfl rfl ?_)
  exact ⟨false, rfl, ⟨fun h => (by cases h), fun h => by have := h.1; omega⟩, hv⟩
 refine xG (.bool false) rfl (ex_gtr rfl rfl rfl (decide_eq_false hb4)) ?_
 simp only [zP, po]
 refine wK k3 (cF rfl ?_)
 refine kS (tK k2 ?_)
 refine sK fun _ k6 => sK fun _ k7 => rL (xM (.slice ad l.length c) rfl ?_)
 refine xG (.int .i64 (l.length : Int)) rfl (ex_len0 Tryz.underlying32 rfl rfl) (xM (.int .i64 0) rfl ?_)
 simp only [zP, po]
 refine wK k7 (bB ?_)
 gi_loopw [10] (fun x10 wr => ∃ (i : Nat), x10 = .int .i64 (i : Int) ∧ i ≤ l.length ∧ (∀ k, k < i → HashAt l k) ∧ Inv B H wr) (fun x10 _ => l.length - (intOf x10).toNat)
 case atStart => exact ⟨0, rfl, Nat.zero_le _, fun k h => by omega, hv⟩
 case round =>
  obtain ⟨i, rfl, hi, hall, hv⟩ := hrel
  refine sK fun _ k9 => rL ?_
  by_cases hb10 : (i : Int) < (l.length : Int)
  ·refine xG (.bool true) rfl (ex_lss rfl rfl rfl (decide_eq_true hb10)) ?_
   simp only [zP, po]
   refine wK k9 (sK fun _ k11 => ?_)
   refine cT rfl (kS ?_)
   refine tK k11 (sK fun _ k12 => ?_)
   refine bB (sK fun _ k13 => ?_)
   obtain ⟨x, hx⟩ : ∃ x, l[i]? = some x := ⟨_, List.getElem?_eq_getElem (show i < l.length by omega)⟩
   obtain ⟨bb, bo, had, hrdx⟩ := pair_reads hr hx
   subst had
   refine rL (xM (.int .i64 (i : Int)) rfl ?_)
   refine xG (.pointer (some ⟨bb, bo + i * 2, none⟩)) rfl (ex_index rfl rfl rfl (run_idx (k := i) Tryz.underlying32 s10es32 (by omega))) (xL (.agg #[.string ⟨x.1.toArray⟩, .string ⟨x.2.toArray⟩]) rfl (run_loadR (cs := [.string ⟨x.1.toArray⟩, .string ⟨x.2.toArray⟩]) s10wd97 (Reads.mid (pre := []) (mid := [.string ⟨x.1.toArray⟩, .string ⟨x.2.toArray⟩]) (post := []) hrdx _ _ _ (Base.Le.refl _) no_res hv)) ?_)
   simp only [zP, po]
   refine sl_alloc tV (wn rfl) rfl hv s10al97 (fun b14 w15 hv => ?_)
   refine xA (.int .i64 (i : Int)) rfl (xS 0 rfl hv s10sz97 rfl (by exact ⟨rfl, rfl, trivial⟩) (fun w16 hv => ?_))
   simp only [zO, sp] at hv
   simp only [zP, po]
   refine wK k13 (sK fun _ k17 => ?_)
   refine rW mixed [1] [0,1,2,3,4,5,6,7,8,9,10,11,12,13,14,15,16,17] 34 rfl (by kernel_rfl) hv ?_
   simp only [qm, opAt]
   refine dL (.agg #[.string ⟨x.1.toArray⟩, .string ⟨x.2.toArray⟩]) rfl (fun hv => ex_load rfl rfl (run_load_mid (pre := []) (mid := [.string ⟨x.1.toArray⟩, .string ⟨x.2.toArray⟩]) (post := []) s10wd97 (show Blk _ b14 ([] ++ [.string ⟨x.1.toArray⟩, .string ⟨x.2.toArray⟩] ++ []) _ from hv.get 0 rfl) rfl)) (dS rfl fun w18 hv => ?_)
   by_cases hq19 : x.1.length ≤ 4096 ∧ x.2.length ≤ 4096
   ·refine mC s10callable90 rfl ((calls_bool (hashFits B _ _ x hv) (decide_eq_true hq19)).mono ?_) rfl
    rintro e w20 ⟨rfl, hv⟩
    refine ⟨_, rfl, dW hv ?_⟩
    refine dG (.bool false) rfl (ex_not rfl rfl rfl) ?_
    simp only [zP, po]
    refine dM (.bool false) rfl (dM (.int .i64 (i : Int)) rfl ?_)
    by_cases hb21 : (i : Int) > 0
    ·obtain ⟨j, hj⟩ : ∃ j : Nat, i = j + 1 := ⟨i - 1, by omega⟩
     obtain ⟨y, hy⟩ : ∃ x, l[j]? = some x := ⟨_, List.getElem?_eq_getElem (show j < l.length by omega)⟩
     obtain ⟨b9, o9, had9, hrdy⟩ := pair_reads hr hy
     cases had9
     skip
     refine dG (.bool true) rfl (ex_gtr rfl rfl rfl (decide_eq_true hb21)) ?_
     simp only [zP, po]
     refine dM (.bool true) rfl (dM (.slice (some ⟨bb, bo, none⟩) l.length c) rfl ?_)
     refine dM (.int .i64 (i : Int)) rfl ?_
     simp only [zP, po]
     refine dG (.int .i64 (j : Int)) rfl (ex_sub rfl rfl rfl (by rw [i64_in (by omega)]; omega)) (dG (.pointer (some ⟨bb, bo + j * 2, none⟩)) rfl (ex_index rfl rfl rfl (run_idx (k := j) Tryz.underlying32 s10es32 (by omega))) ?_)
     refine dG (.pointer (some ⟨bb, bo + j * 2, none⟩)) rfl (ex_field rfl rfl (s10fa97_0 _ _ _)) ?_
     simp only [zP, po]
     refine dL _ rfl (fun hv => ex_load rfl rfl (run_load1 s9na9 (hrdy _ _ _ (Base.Le.refl _) no_res hv 0 _ rfl))) (dG (.pointer (some ⟨b14, 0, none⟩)) rfl (ex_field rfl rfl (s10fa97_0 _ _ _)) ?_)
     refine dL _ rfl (fun hv => ex_load rfl rfl (run_load1 s9na9 (hv.load 0 0 rfl rfl))) ?_
     simp only [zP, po]
     refine dG (.bool (!Op.bytesLess y.1 x.1)) rfl (ex_sgeq rfl rfl rfl rfl) (dK true (.bool (!Op.bytesLess y.1 x.1)) rfl ?_)
     refine dK false (.bool (!Op.bytesLess y.1 x.1)) rfl (dE fun w22 hv => ?_)
     simp only [zP, po]
     refine tK k17 (wpIn_cond_split (t := !Op.bytesLess y.1 x.1) rfl (fun hc23 => ?_) (fun hc23 => ?_))
     ·refine sK fun _ k24 => rL (xA (.bool false) rfl ?_)
      simp only [zP, po]
      refine wK k24 (rR ?_)
      refine bE (tR ?_)
      refine tR (bE ?_)
      refine tR (bR rfl rfl ?_)
      exact ⟨false, rfl, ⟨fun h => (by cases h), fun h => by have := (h.2 i x hx).2 j y (by omega) hy; rw [this] at hc23; simp at hc23⟩, (hv.sub (List.Sublist.cons _ (List.Sublist.refl _)))⟩
     refine kS (bN ?_)
     refine tK k12 (rL ?_)
     refine xG (.int .i64 ((i + 1 : Nat) : Int)) rfl (ex_add rfl rfl rfl (by rw [i64_in (by omega)]; omega)) (xM (.int .i64 ((i + 1 : Nat) : Int)) rfl ?_)
     refine wL ?_
     simp only [zP, po]
     refine then_normal ?_
     go_roundw
     case rel => exact ⟨i + 1, rfl, by omega, fun k hk => (by
        rcases Nat.lt_or_ge k i with h | h
        ·exact hall k h
        obtain rfl : k = i := by omega
        intro x' hx'
        rw [hx] at hx'; cases hx'
        refine ⟨by exact hq19, fun j' y' hj' hy' => ?_⟩
        obtain rfl : j' = j := by omega
        rw [hy] at hy'; cases hy'; simpa using hc23), (hv.sub (List.Sublist.cons _ (List.Sublist.refl _)))⟩
     case measure => show l.length - (((i + 1 : Nat) : Int)).toNat < l.length - ((i : Int)).toNat; omega
    refine dG (.bool false) rfl (ex_gtr rfl rfl rfl (decide_eq_false hb21)) ?_
    simp only [zP, po]
    refine dM (.bool false) rfl (dP rfl ?_)
    refine dP rfl ?_
    simp only [zP, po]
    refine dP rfl (dP rfl ?_)
    refine dP rfl ?_
    simp only [zP, po]
    refine dP rfl (dP rfl ?_)
    refine dP rfl ?_
    simp only [zP, po]
    refine dP rfl (dK false (.bool false) rfl ?_)
    refine dK false (.bool false) rfl (dE fun w25 hv => ?_)
    simp only [zP, po]
    refine tK k17 (cF rfl ?_)
    refine kS (bN ?_)
    refine tK k12 (rL ?_)
    refine xG (.int .i64 ((i + 1 : Nat) : Int)) rfl (ex_add rfl rfl rfl (by rw [i64_in (by omega)]; omega)) (xM (.int .i64 ((i + 1 : Nat) : Int)) rfl ?_)
    refine wL ?_
    simp only [zP, po]
    refine then_normal ?_
    go_roundw
    case rel => exact ⟨i + 1, rfl, by omega, fun k hk => (by
       rcases Nat.lt_or_ge k i with h | h
       ·exact hall k h
       obtain rfl : k = i := by omega
       intro x' hx'
       rw [hx] at hx'; cases hx'
       refine ⟨by exact hq19, fun j' y' hj' hy' => ?_⟩
       omega), (hv.sub (List.Sublist.cons _ (List.Sublist.refl _)))⟩
    case measure => show l.length - (((i + 1 : Nat) : Int)).toNat < l.length - ((i : Int)).toNat; omega
   refine mC s10callable90 rfl ((calls_bool (hashFits B _ _ x hv) (decide_eq_false hq19)).mono ?_) rfl
   rintro e w26 ⟨rfl, hv⟩
   refine ⟨_, rfl, dW hv ?_⟩
   refine dG (.bool true) rfl (ex_not rfl rfl rfl) ?_
   simp only [zP, po]
   refine dM (.bool true) rfl (dP rfl ?_)
   refine dP rfl ?_
   simp only [zP, po]
   refine dP rfl (dP rfl ?_)
   refine dP rfl ?_
   simp only [zP, po]
   refine dP rfl (dP rfl ?_)
   refine dP rfl ?_
   simp only [zP, po]
   refine dP rfl (dP rfl ?_)
   refine dP rfl ?_
   simp only [zP, po]
   refine dP rfl (dP rfl ?_)
   refine dK true (.bool true) rfl (dE fun w27 hv => ?_)
   simp only [zP, po]
   refine tK k17 (cT rfl ?_)
   refine sK fun _ k28 => rL (xA (.bool false) rfl ?_)
   simp only [zP, po]
   refine wK k28 (rR ?_)
   refine bE (tR ?_)
   refine tR (bE ?_)
   refine tR (bR rfl rfl ?_)
   exact ⟨false, rfl, ⟨fun h => (by cases h), fun h => by have := (h.2 i x hx).1; first | omega | exact absurd this hq19⟩, (hv.sub (List.Sublist.cons _ (List.Sublist.refl _)))⟩
  refine xG (.bool false) rfl (ex_lss rfl rfl rfl (decide_eq_false hb10)) ?_
  simp only [zP, po]
  refine wK k9 (sK fun _ k29 => ?_)
  refine cF rfl (xE ?_)
  refine tX (tX ?_)
  refine bH (tK k6 ?_)
  refine sK fun _ k30 => rL (xA (.bool true) rfl ?_)
  simp only [zP, po]
  refine wK k30 (rR ?_)
  refine bR rfl rfl ?_
  obtain rfl : i = l.length := by omega
  exact ⟨true, rfl, ⟨fun _ => ⟨by omega, fun k x hx => hall k (List.getElem?_eq_some_iff.1 hx).1 x hx⟩, fun _ => rfl⟩, hv⟩
end Go.Proofs.YtkoghbmjbobfjaaGreat
/- zset.compare, zset.Right. -/
namespace Go.Proofs.YtkoghbmjbobfjaaGreat
open Go.RowKit Go.Pm
def cmpI (a b : Int) : Int := if a < b then -1 else if a > b then 1 else 0
def cmpS (a b : List UInt8) : Int := if Op.bytesLess a b = true then -1 else if Op.bytesLess b a = true then 1 else 0
def orI (a b : Int) : Int := if a ≠ 0 then a else b
def cmpM (a b : Int × List UInt8) : Int := orI (cmpI a.1 b.1) (cmpS a.2 b.2)
set_option maxHeartbeats 2000000 in
theorem nanI (B : Base) (H : List Res) (w : World) (n : Int) (hv : Inv B H w) :
  Calls Tryz.prog 129 #[.int .i64 n] w fun e w' => e = .returned (.bool false) ∧ Inv B H w' := by
 refine cW Tryz.func129 rfl Tryz.ntmps129 ?_
 simp only [al]
 refine sK fun _ k1 => rL (xA (.bool false) rfl ?_)
 simp only [zP, po]
 refine wK k1 (sK fun _ k2 => ?_)
 refine rL (xM (.int .i64 n) rfl ?_)
 refine xM (.int .i64 n) rfl (xG (.bool false) rfl (ex_neq rfl rfl rfl (decide_eq_false (by simp))) ?_)
 simp only [zP, po]
 refine xA (.bool false) rfl ?_
 simp only [zP, po]
 refine wK k2 (rR ?_)
 refine bR rfl rfl (⟨rfl, hv⟩)
set_option maxHeartbeats 2000000 in
theorem nanS (B : Base) (H : List Res) (w : World) (s : List UInt8) (hv : Inv B H w) :
  Calls Tryz.prog 130 #[.string ⟨s.toArray⟩] w fun e w' => e = .returned (.bool false) ∧ Inv B H w' := by
 refine cW Tryz.func130 rfl Tryz.ntmps130 ?_
 simp only [al]
 refine sK fun _ k1 => rL (xA (.bool false) rfl ?_)
 simp only [zP, po]
 refine wK k1 (sK fun _ k2 => ?_)
 refine rL (xM (.string ⟨s.toArray⟩) rfl ?_)
 refine xM (.string ⟨s.toArray⟩) rfl (xG (.bool false) rfl (ex_sneq rfl rfl rfl (decide_eq_false (by simp))) ?_)
 simp only [zP, po]
 refine xA (.bool false) rfl ?_
 simp only [zP, po]
 refine wK k2 (rR ?_)
 refine bR rfl rfl (⟨rfl, hv⟩)
theorem s11callable129 : Callable Tryz.prog 129 := ⟨_, Tryz.func129, by kernel_rfl, by kernel_rfl⟩
set_option maxHeartbeats 2000000 in
theorem cmpInt (B : Base) (H : List Res) (w : World) (a b : Int) (hv : Inv B H w) :
  Calls Tryz.prog 114 #[.int .i64 a, .int .i64 b] w fun e w' => e = .returned (.int .i64 (cmpI a b)) ∧ Inv B H w' := by
 refine cW Tryz.func114 rfl Tryz.ntmps114 ?_
 simp only [al]
 refine sK fun _ k1 => rL (xA (.int .i64 0) rfl ?_)
 simp only [zP, po]
 refine wK k1 (sK fun _ k2 => ?_)
 refine rL (xM (.int .i64 a) rfl ?_)
 refine xC s11callable129 rfl ((nanI B _ _ _ hv).mono ?_) rfl
 rintro e w3 ⟨rfl, hv⟩
 refine ⟨_, rfl, ?_⟩
 refine xA (.bool false) rfl ?_
 simp only [zP, po]
 refine wK k2 (sK fun _ k4 => ?_)
 refine rL (xM (.int .i64 b) rfl ?_)
 refine xC s11callable129 rfl ((nanI B _ _ _ hv).mono ?_) rfl
 rintro e w5 ⟨rfl, hv⟩
 refine ⟨_, rfl, ?_⟩
 refine xA (.bool false) rfl ?_
 simp only [zP, po]
 refine wK k4 (sK fun _ k6 => ?_)
 refine sK fun _ k7 => rL (xM (.bool false) rfl ?_)
 simp only [zP, po]
 refine wK k7 (cF rfl ?_)
 refine kS (tK k6 ?_)
 refine sK fun _ k8 => sK fun _ k9 => rL (xM (.bool false) rfl ?_)
 simp only [zP, po]
 refine wK k9 (cF rfl ?_)
 refine kS (tK k8 ?_)
 refine sK fun _ k10 => sK fun _ k11 => rL (xM (.int .i64 a) rfl ?_)
 refine xM (.int .i64 b) rfl ?_
 by_cases hb12 : a < b
 ·refine xG (.bool true) rfl (ex_lss rfl rfl rfl (decide_eq_true hb12)) ?_
  simp only [zP, po]
  refine wK k11 (cT rfl ?_)
  refine sK fun _ k13 => rL (xA (.int .i64 (-1)) rfl ?_)
  simp only [zP, po]
  refine wK k13 (rR ?_)
  refine tR (bR rfl rfl ?_)
  exact ⟨congrArg (fun b => Ending.returned (Value.int .i64 b)) (by unfold cmpI; simp [*]), hv⟩
 refine xG (.bool false) rfl (ex_lss rfl rfl rfl (decide_eq_false hb12)) ?_
 simp only [zP, po]
 refine wK k11 (cF rfl ?_)
 refine kS (tK k10 ?_)
 refine sK fun _ k14 => sK fun _ k15 => rL (xM (.int .i64 a) rfl ?_)
 refine xM (.int .i64 b) rfl ?_
 by_cases hb16 : a > b
 ·refine xG (.bool true) rfl (ex_gtr rfl rfl rfl (decide_eq_true hb16)) ?_
  simp only [zP, po]
  refine wK k15 (cT rfl ?_)
  refine sK fun _ k17 => rL (xA (.int .i64 1) rfl ?_)
  simp only [zP, po]
  refine wK k17 (rR ?_)
  refine tR (bR rfl rfl ?_)
  exact ⟨congrArg (fun b => Ending.returned (Value.int .i64 b)) (by unfold cmpI; simp [*]), hv⟩
 refine xG (.bool false) rfl (ex_gtr rfl rfl rfl (decide_eq_false hb16)) ?_
 simp only [zP, po]
 refine wK k15 (cF rfl ?_)
 refine kS (tK k14 ?_)
 refine sK fun _ k18 => rL (xA (.int .i64 0) rfl ?_)
 simp only [zP, po]
 refine wK k18 (rR ?_)
 refine bR rfl rfl (⟨congrArg (fun b => Ending.returned (Value.int .i64 b)) (by unfold cmpI; simp [*]), hv⟩)
theorem s11callable130 : Callable Tryz.prog 130 := ⟨_, Tryz.func130, by kernel_rfl, by kernel_rfl⟩
set_option maxHeartbeats 2000000 in
theorem cmpStr (B : Base) (H : List Res) (w : World) (a b : (List UInt8)) (hv : Inv B H w) :
  Calls Tryz.prog 115 #[.string ⟨a.toArray⟩, .string ⟨b.toArray⟩] w fun e w' => e = .returned (.int .i64 (cmpS a b)) ∧ Inv B H w' := by
 refine cW Tryz.func115 rfl Tryz.ntmps115 ?_
 simp only [al]
 refine sK fun _ k1 => rL (xA (.int .i64 0) rfl ?_)
 simp only [zP, po]
 refine wK k1 (sK fun _ k2 => ?_)
 refine rL (xM (.string ⟨a.toArray⟩) rfl ?_)
 refine xC s11callable130 rfl ((nanS B _ _ _ hv).mono ?_) rfl
 rintro e w3 ⟨rfl, hv⟩
 refine ⟨_, rfl, ?_⟩
 refine xA (.bool false) rfl ?_
 simp only [zP, po]
 refine wK k2 (sK fun _ k4 => ?_)
 refine rL (xM (.string ⟨b.toArray⟩) rfl ?_)
 refine xC s11callable130 rfl ((nanS B _ _ _ hv).mono ?_) rfl
 rintro e w5 ⟨rfl, hv⟩
 refine ⟨_, rfl, ?_⟩
 refine xA (.bool false) rfl ?_
 simp only [zP, po]
 refine wK k4 (sK fun _ k6 => ?_)
 refine sK fun _ k7 => rL (xM (.bool false) rfl ?_)
 simp only [zP, po]
 refine wK k7 (cF rfl ?_)
 refine kS (tK k6 ?_)
 refine sK fun _ k8 => sK fun _ k9 => rL (xM (.bool false) rfl ?_)
 simp only [zP, po]
 refine wK k9 (cF rfl ?_)
 refine kS (tK k8 ?_)
 refine sK fun _ k10 => sK fun _ k11 => rL (xM (.string ⟨a.toArray⟩) rfl ?_)
 refine xM (.string ⟨b.toArray⟩) rfl (xG (.bool (Op.bytesLess a b)) rfl (ex_slss rfl rfl rfl rfl) ?_)
 simp only [zP, po]
 refine wK k11 (wpIn_cond_split (t := Op.bytesLess a b) rfl (fun hc12 => ?_) (fun hc12 => ?_))
 ·refine sK fun _ k13 => rL (xA (.int .i64 (-1)) rfl ?_)
  simp only [zP, po]
  refine wK k13 (rR ?_)
  refine tR (bR rfl rfl ?_)
  exact ⟨congrArg (fun b => Ending.returned (Value.int .i64 b)) (by unfold cmpS; simp [*]), hv⟩
 refine kS (tK k10 ?_)
 refine sK fun _ k14 => sK fun _ k15 => rL (xM (.string ⟨a.toArray⟩) rfl ?_)
 refine xM (.string ⟨b.toArray⟩) rfl (xG (.bool (Op.bytesLess b a)) rfl (ex_sgtr rfl rfl rfl rfl) ?_)
 simp only [zP, po]
 refine wK k15 (wpIn_cond_split (t := Op.bytesLess b a) rfl (fun hc16 => ?_) (fun hc16 => ?_))
 ·refine sK fun _ k17 => rL (xA (.int .i64 1) rfl ?_)
  simp only [zP, po]
  refine wK k17 (rR ?_)
  refine tR (bR rfl rfl ?_)
  exact ⟨congrArg (fun b => Ending.returned (Value.int .i64 b)) (by unfold cmpS; simp [*]), hv⟩
 refine kS (tK k14 ?_)
 refine sK fun _ k18 => rL (xA (.int .i64 0) rfl ?_)
 simp only [zP, po]
 refine wK k18 (rR ?_)
 refine bR rfl rfl (⟨congrArg (fun b => Ending.returned (Value.int .i64 b)) (by unfold cmpS; simp [*]), hv⟩)
theorem s11es195 (w : World) : (sizeOf (Tryz.prog.elem 195)).run Tryz.prog w = .ok 1 w := by kernel_rfl
set_option maxHeartbeats 2000000 in
theorem cmpOr (B : Base) (H : List Res) (w : World) (ad : Option Addr) (a b : Int) (R : List Res) (hRH : ∀ r ∈ R, r ∈ H) (hr : RdW B R ad [.int .i64 a, .int .i64 b]) (hv : Inv B H w) :
  Calls Tryz.prog 113 #[.slice ad 2 2] w fun e w' => e = .returned (.int .i64 (orI a b)) ∧ Inv B H w' := by
 refine cW Tryz.func113 rfl Tryz.ntmps113 ?_
 simp only [al]
 refine sK fun _ k1 => rL (xA (.int .i64 0) rfl ?_)
 simp only [zP, po]
 refine wK k1 (sK fun _ k2 => ?_)
 refine rL (xA (.int .i64 0) rfl ?_)
 simp only [zP, po]
 refine wK k2 (sK fun _ k3 => ?_)
 refine sK fun _ k4 => rL (xM (.slice ad 2 2) rfl ?_)
 refine xG (.int .i64 2) rfl (ex_len0 Tryz.underlying195 rfl rfl) (xM (.int .i64 0) rfl ?_)
 simp only [zP, po]
 refine wK k4 (bB ?_)
 gi_loopw [8] (fun x8 wr => ∃ (i : Nat), x8 = .int .i64 (i : Int) ∧ i ≤ 2 ∧ (0 < i → a = 0) ∧ (1 < i → b = 0) ∧ Inv B H wr) (fun x8 _ => 2 - (intOf x8).toNat)
 case atStart => exact ⟨0, rfl, Nat.zero_le _, fun h => by omega, fun h => by omega, hv⟩
 case round =>
  obtain ⟨i, rfl, hi, ha0, hb0, hv⟩ := hrel
  refine sK fun _ k6 => rL ?_
  by_cases hb7 : (i : Int) < 2
  ·refine xG (.bool true) rfl (ex_lss rfl rfl rfl (decide_eq_true hb7)) ?_
   simp only [zP, po]
   refine wK k6 (sK fun _ k8 => ?_)
   refine cT rfl (kS ?_)
   refine tK k8 (sK fun _ k9 => ?_)
   refine bB (sK fun _ k10 => ?_)
   obtain ⟨x, hx⟩ : ∃ x : Int, ([a, b] : List Int)[i]? = some x := ⟨_, List.getElem?_eq_getElem (by simp; omega)⟩
   have hxv : ([.int .i64 a, .int .i64 b] : List Value)[i]? = some (.int .i64 x) := by
    rcases (show i = 0 ∨ i = 1 by omega) with h | h <;> subst h <;> simp at hx ⊢ <;> exact hx
   obtain ⟨bb, bo, had, hrd⟩ := row1_reads hr hxv
   subst had
   refine rL (xG (.pointer (some ⟨bb, bo + i, none⟩)) rfl (ex_index rfl rfl rfl (run_idx1 (k := i) Tryz.underlying195 s11es195 (by omega))) ?_)
   refine xL _ rfl (run_load1 s2na3 (hrd _ _ _ (Base.Le.refl _) (fun r9 hr9 => (hRH r9 hr9)) hv 0 _ rfl)) (xA (.int .i64 x) rfl ?_)
   simp only [zP, po]
   refine wK k10 (sK fun _ k11 => ?_)
   refine rL (xM (.int .i64 x) rfl ?_)
   refine xM (.int .i64 0) rfl ?_
   by_cases hb12 : x ≠ 0
   ·refine xG (.bool true) rfl (ex_neq rfl rfl rfl (decide_eq_true hb12)) ?_
    simp only [zP, po]
    refine wK k11 (cT rfl ?_)
    refine sK fun _ k13 => rL (xM (.int .i64 x) rfl ?_)
    refine xA (.int .i64 x) rfl ?_
    simp only [zP, po]
    refine wK k13 (rR ?_)
    refine bE (tR ?_)
    refine tR (bE ?_)
    refine tR (bR rfl rfl ?_)
    exact ⟨congrArg (fun b => Ending.returned (Value.int .i64 b)) (by unfold orI; rcases (show i = 0 ∨ i = 1 by omega) with h | h <;> subst h <;> simp at hx <;> subst hx <;> (try rw [if_neg (by have := ha0 (by omega); omega)]) <;> (try rw [if_pos (by omega)])), hv⟩
   refine xG (.bool false) rfl (ex_neq rfl rfl rfl (decide_eq_false hb12)) ?_
   simp only [zP, po]
   refine wK k11 (cF rfl ?_)
   refine kS (bN ?_)
   refine tK k9 (rL ?_)
   refine xG (.int .i64 ((i + 1 : Nat) : Int)) rfl (ex_add rfl rfl rfl (by rw [i64_in (by omega)]; omega)) (xM (.int .i64 ((i + 1 : Nat) : Int)) rfl ?_)
   refine wL ?_
   simp only [zP, po]
   refine then_normal ?_
   go_roundw
   case rel => exact ⟨i + 1, rfl, by omega, fun _ => by rcases (show i = 0 ∨ i = 1 by omega) with h | h <;> subst h <;> simp at hx <;> omega, fun _ => by rcases (show i = 0 ∨ i = 1 by omega) with h | h <;> subst h <;> simp at hx <;> omega, hv⟩
   case measure => show 2 - (((i + 1 : Nat) : Int)).toNat < 2 - ((i : Int)).toNat; omega
  refine xG (.bool false) rfl (ex_lss rfl rfl rfl (decide_eq_false hb7)) ?_
  simp only [zP, po]
  refine wK k6 (sK fun _ k14 => ?_)
  refine cF rfl (xE ?_)
  refine tX (tX ?_)
  refine bH (tK k3 ?_)
  refine sK fun _ k15 => rL (xM (.int .i64 0) rfl ?_)
  refine xA (.int .i64 0) rfl ?_
  simp only [zP, po]
  refine wK k15 (rR ?_)
  refine bR rfl rfl (⟨congrArg (fun b => Ending.returned (Value.int .i64 b)) (by unfold orI; rw [if_neg (by have := ha0 (by omega); omega)]; have := hb0 (by omega); omega), hv⟩)
theorem s11fa99_0 (w : World) (b o : Nat) : (Instr.fieldAt 99 (.pointer (some ⟨b, o, none⟩)) 0).run Tryz.prog w = .ok (.pointer (some ⟨b, o + 0, none⟩)) w := by kernel_rfl
theorem s11callable114 : Callable Tryz.prog 114 := ⟨_, Tryz.func114, by kernel_rfl, by kernel_rfl⟩
theorem s11callable115 : Callable Tryz.prog 115 := ⟨_, Tryz.func115, by kernel_rfl, by kernel_rfl⟩
theorem s11callable113 : Callable Tryz.prog 113 := ⟨_, Tryz.func113, by kernel_rfl, by kernel_rfl⟩
set_option maxHeartbeats 2000000 in
theorem zsetCompare (B : Base) (H : List Res) (w : World) (x y : Int × List UInt8) (hv : Inv B H w) :
  Calls Tryz.prog 95 #[.agg #[.int .i64 x.1, .string ⟨x.2.toArray⟩], .agg #[.int .i64 y.1, .string ⟨y.2.toArray⟩]] w fun e w' => e = .returned (.int .i64 (cmpM x y)) ∧ Inv B H w' := by
 refine cW Tryz.func95 rfl Tryz.ntmps95 ?_
 simp only [al]
 refine sK fun _ k1 => rL (sl_box (L := [.int .i64 x.1, .string ⟨x.2.toArray⟩]) tV (wn rfl) rfl rfl hv (fun w => by kernel_rfl) (fun b2 w3 hv => ?_))
 refine sl_box (L := [.int .i64 y.1, .string ⟨y.2.toArray⟩]) tV (wn rfl) rfl rfl hv (fun w => by kernel_rfl) (fun b4 w5 hv => ?_)
 refine xA (.int .i64 0) rfl ?_
 simp only [zP, po]
 refine wK k1 (sK fun _ k6 => ?_)
 refine rW mixed [4, 9, 10, 11] [0,1,2,3,5,6,7,8,4,9,10,11,12] 17 rfl (by kernel_rfl) hv ?_
 simp only [qm, opAt]
 refine dG (.pointer (some ⟨b2, 0, none⟩)) rfl (ex_field rfl rfl (s11fa99_0 _ _ _)) (dL _ rfl (fun hv => ex_load rfl rfl (run_load1 s2na3 (hv.load 1 0 rfl rfl))) ?_)
 refine dG (.pointer (some ⟨b4, 0, none⟩)) rfl (ex_field rfl rfl (s11fa99_0 _ _ _)) ?_
 simp only [zP, po]
 refine dL _ rfl (fun hv => ex_load rfl rfl (run_load1 s2na3 (hv.load 0 0 rfl rfl))) (dG (.pointer (some ⟨b2, 1, none⟩)) rfl (ex_field rfl rfl (s9fa99_1 _ _ _)) ?_)
 refine dF _ rfl (fun hv => ex_load rfl rfl (run_load1 s9na9 (hv.load 1 1 rfl rfl))) fun f7 hf7 => ?_
 simp only [zP, po]
 refine dG (.pointer (some ⟨b4, 1, none⟩)) rfl (ex_field rfl rfl (s9fa99_1 _ _ _)) (dF _ rfl (fun hv => ex_load rfl rfl (run_load1 s9na9 (hv.load 0 1 rfl rfl))) fun f8 hf8 => ?_)
 refine dS rfl fun w9 hv => mC s11callable114 rfl ((cmpInt B _ _ _ _ hv).mono ?_) rfl
 rintro e w10 ⟨rfl, hv⟩
 refine ⟨_, rfl, dV hv (fC (fun ww hv => hf8 ww (ex_load rfl rfl (run_load1 s9na9 (hv.load 0 1 rfl rfl)))) (fC (fun ww hv => hf7 ww (ex_load rfl rfl (run_load1 s9na9 (hv.load 1 1 rfl rfl)))) fN)) ?_⟩
 simp only [zP, po]
 refine dS rfl fun w11 hv => mC s11callable115 rfl ((cmpStr B _ _ _ _ hv).mono ?_) rfl
 rintro e w12 ⟨rfl, hv⟩
 refine ⟨_, rfl, dV hv (fK rfl (fK rfl fN)) ?_⟩
 refine dS rfl fun w13 hv => mem_row2 (v1 := .int .i64 (cmpI x.1 y.1)) (v2 := .int .i64 (cmpS x.2 y.2)) (e := 3) rfl rfl rfl rfl hv (fun w => by kernel_rfl) (fun b14 w15 hv => ?_)
 refine dV hv (fK rfl (fK rfl fN)) (dS rfl fun w16 hv => ?_)
 refine mC s11callable113 rfl ((cmpOr B _ _ _ (cmpI x.1 y.1) (cmpS x.2 y.2) [_] (fun r hr => by rw [List.mem_singleton.1 hr]; exact List.mem_of_getElem? (i := 0) rfl) rdW_cell hv).mono ?_) rfl
 rintro e w17 ⟨rfl, hv⟩
 refine ⟨_, rfl, dV hv (fK rfl (fK rfl fN)) ?_⟩
 simp only [zP, po]
 refine dA (.int .i64 (cmpM x y)) rfl (dE fun w18 hv => ?_)
 simp only [zP, po]
 refine tK k6 (rR ?_)
 refine bR rfl rfl (⟨rfl, (hv.sub (List.Sublist.cons _ (List.Sublist.cons _ (List.Sublist.cons _ (List.Sublist.refl _)))))⟩)
def memName (m : Int × List UInt8) : List UInt8 := m.2
def ZsetAt (l : List (Int × List UInt8)) (i : Nat) : Prop := ∀ x, l[i]? = some x → ∀ (j : Nat) y, i = j + 1 → l[j]? = some y → cmpM y x < 0
def ZsetOk (l : List (Int × List UInt8)) : Prop := l.length ≤ 512 ∧ l.any (fun m => decide (m.2.length > 4096)) = false ∧ (∀ i, ZsetAt l i) ∧ (l.map memName).Nodup
theorem s11callable94 : Callable Tryz.prog 94 := ⟨_, Tryz.func94, by kernel_rfl, by kernel_rfl⟩
theorem s11callable93 : Callable Tryz.prog 93 := ⟨_, Tryz.func93, by kernel_rfl, by kernel_rfl⟩
theorem s11al99 (w : World) : (Instr.alloc 99 true (.tuple #[])).run Tryz.prog w = .ok (.pointer (some ⟨w.heap.size, 0, none⟩)) (w.alloc (.cells ([.int .i64 0, .string ⟨([] : List UInt8).toArray⟩] : List Value).toArray 99)) := by kernel_rfl
theorem s11sz99 : (Tryz.prog.info? 99).map (·.size) = some 2 := by kernel_rfl
theorem s11callable95 : Callable Tryz.prog 95 := ⟨_, Tryz.func95, by kernel_rfl, by kernel_rfl⟩
set_option maxHeartbeats 2000000 in
theorem zsetRightC (B : Base) (H : List Res) (w : World) (ad : Option Addr) (c : Nat) (l : List (Int × List UInt8)) (hr : RdV B [] ad (memCells l)) (hm : l.length ≤ 1000000) (hv : Inv B H w) :
  Calls Tryz.prog 77 #[.slice ad l.length c] w fun e w' => ∃ b, e = .returned (.bool b) ∧ (b = true ↔ ZsetOk l) ∧ Inv B H w' := by
 refine cW Tryz.func77 rfl Tryz.ntmps77 ?_
 simp only [al]
 refine sK fun _ k1 => rL (xA (.bool false) rfl ?_)
 simp only [zP, po]
 refine wK k1 (sK fun _ k2 => ?_)
 refine sK fun _ k3 => rL (xM (.slice ad l.length c) rfl ?_)
 refine xG (.int .i64 (l.length : Int)) rfl (ex_len0 Tryz.underlying33 rfl rfl) ?_
 by_cases hb4 : (l.length : Int) > 512
 ·refine xG (.bool true) rfl (ex_gtr rfl rfl rfl (decide_eq_true hb4)) ?_
  simp only [zP, po]
  refine xM (.bool true) rfl ?_
  iterate 2 refine yN rfl ?_
  refine xK true (.bool true) rfl ?_
  simp only [zP, po]
  refine wK k3 (cT rfl ?_)
  refine sK fun _ k5 => rL (xA (.bool false) rfl ?_)
  simp only [zP, po]
  refine wK k5 (rR ?_)
  refine tR (bR rfl rfl ?_)
  exact ⟨false, rfl, ⟨fun h => (by cases h), fun h => by have := h.1; omega⟩, hv⟩
 refine xG (.bool false) rfl (ex_gtr rfl rfl rfl (decide_eq_false hb4)) ?_
 simp only [zP, po]
 refine xM (.bool false) rfl (xM (.slice ad l.length c) rfl ?_)
 refine xC s11callable93 rfl ((containsFuncMem B _ _ 94 #[] ad c l (fun m : Int × List UInt8 => decide (m.2.length > 4096)) hr hm s11callable94 (fun x _ w hv => zsetLong B _ w x.1 x.2 hv) hv).mono ?_) rfl
 rintro e w6 ⟨rfl, hv⟩
 refine ⟨_, rfl, ?_⟩
 simp only [zP, po]
 refine xK false (.bool (l.any (fun m : Int × List UInt8 => decide (m.2.length > 4096)))) rfl ?_
 simp only [zP, po]
 refine wK k3 (wpIn_cond_split (t := l.any (fun m : Int × List UInt8 => decide (m.2.length > 4096))) rfl (fun hc7 => ?_) (fun hc7 => ?_))
 ·refine sK fun _ k8 => rL (xA (.bool false) rfl ?_)
  simp only [zP, po]
  refine wK k8 (rR ?_)
  refine tR (bR rfl rfl ?_)
  exact ⟨false, rfl, ⟨fun h => (by cases h), fun h => by have := h.2.1; rw [hc7] at this; cases this⟩, hv⟩
 refine kS (tK k2 ?_)
 refine sK fun _ k9 => rL (xM (.slice ad l.length c) rfl ?_)
 refine xG (.int .i64 (l.length : Int)) rfl (ex_len0 Tryz.underlying33 rfl rfl) (sl_makeMap (m := (l.length : Int)) tV (wn rfl) rfl rfl Tryz.underlying166 hv (fun mp10 w11 hv => ?_))
 simp only [zP, po]
 refine xA (.map (some mp10)) rfl ?_
 simp only [zP, po]
 refine wK k9 (sK fun _ k12 => ?_)
 refine sK fun _ k13 => rL (xM (.slice ad l.length c) rfl ?_)
 refine xG (.int .i64 (l.length : Int)) rfl (ex_len0 Tryz.underlying33 rfl rfl) (xM (.int .i64 0) rfl ?_)
 simp only [zP, po]
 refine wK k13 (bB ?_)
 gi_loopw [18] (fun x18 wr => ∃ (i : Nat), x18 = .int .i64 (i : Int) ∧ i ≤ l.length ∧ (∀ k, k < i → ZsetAt l k) ∧ Inv B (Res.keys mp10 (keysOf ((l.take i).map memName)) (i : Int) :: H) wr) (fun x18 _ => l.length - (intOf x18).toNat)
 case atStart => exact ⟨0, rfl, Nat.zero_le _, fun k h => by omega, hv⟩
 case round =>
  obtain ⟨i, rfl, hi, hall, hv⟩ := hrel
  refine sK fun _ k15 => rL ?_
  by_cases hb16 : (i : Int) < (l.length : Int)
  ·refine xG (.bool true) rfl (ex_lss rfl rfl rfl (decide_eq_true hb16)) ?_
   simp only [zP, po]
   refine wK k15 (sK fun _ k17 => ?_)
   refine cT rfl (kS ?_)
   refine tK k17 (sK fun _ k18 => ?_)
   refine bB (sK fun _ k19 => ?_)
   obtain ⟨x, hx⟩ : ∃ x, l[i]? = some x := ⟨_, List.getElem?_eq_getElem (show i < l.length by omega)⟩
   obtain ⟨bb, bo, had, hrdx⟩ := mem_reads hr hx
   subst had
   refine rL (xM (.int .i64 (i : Int)) rfl ?_)
   refine xG (.pointer (some ⟨bb, bo + i * 2, none⟩)) rfl (ex_index rfl rfl rfl (run_idx (k := i) Tryz.underlying33 s9es33 (by omega))) (xL (.agg #[.int .i64 x.1, .string ⟨x.2.toArray⟩]) rfl (run_loadR (cs := [.int .i64 x.1, .string ⟨x.2.toArray⟩]) s9wd99 (Reads.mid (pre := []) (mid := [.int .i64 x.1, .string ⟨x.2.toArray⟩]) (post := []) hrdx _ _ _ (Base.Le.refl _) no_res hv)) ?_)
   simp only [zP, po]
   refine sl_alloc tV (wn rfl) rfl hv s11al99 (fun b20 w21 hv => ?_)
   refine xA (.int .i64 (i : Int)) rfl (xS 0 rfl hv s11sz99 rfl (by exact ⟨rfl, rfl, trivial⟩) (fun w22 hv => ?_))
   simp only [zO, sp] at hv
   simp only [zP, po]
   refine wK k19 (sK fun _ k23 => ?_)
   refine sK fun _ k24 => rW mixed [9] [0,1,2,3,4,5,6,7,8,9,10,11] 45 rfl (by kernel_rfl) hv ?_
   simp only [qm, opAt]
   refine dM (.int .i64 (i : Int)) rfl ?_
   by_cases hb25 : (i : Int) > 0
   ·obtain ⟨j, hj⟩ : ∃ j : Nat, i = j + 1 := ⟨i - 1, by omega⟩
    obtain ⟨y, hy⟩ : ∃ x, l[j]? = some x := ⟨_, List.getElem?_eq_getElem (show j < l.length by omega)⟩
    obtain ⟨b9, o9, had9, hrdy⟩ := mem_reads hr hy
    cases had9
    skip
    refine dG (.bool true) rfl (ex_gtr rfl rfl rfl (decide_eq_true hb25)) (dM (.bool true) rfl ?_)
    simp only [zP, po]
    refine dM (.slice (some ⟨bb, bo, none⟩) l.length c) rfl (dM (.int .i64 (i : Int)) rfl ?_)
    refine dG (.int .i64 (j : Int)) rfl (ex_sub rfl rfl rfl (by rw [i64_in (by omega)]; omega)) ?_
    simp only [zP, po]
    refine dG (.pointer (some ⟨bb, bo + j * 2, none⟩)) rfl (ex_index rfl rfl rfl (run_idx (k := j) Tryz.underlying33 s9es33 (by omega))) (dL (.agg #[.int .i64 y.1, .string ⟨y.2.toArray⟩]) rfl (fun hv => ex_load rfl rfl (run_loadR (cs := [.int .i64 y.1, .string ⟨y.2.toArray⟩]) s9wd99 (Reads.mid (pre := []) (mid := [.int .i64 y.1, .string ⟨y.2.toArray⟩]) (post := []) hrdy _ _ _ (Base.Le.refl _) no_res hv))) ?_)
    refine dL (.agg #[.int .i64 x.1, .string ⟨x.2.toArray⟩]) rfl (fun hv => ex_load rfl rfl (run_load_mid (pre := []) (mid := [.int .i64 x.1, .string ⟨x.2.toArray⟩]) (post := []) s9wd99 (show Blk _ b20 ([] ++ [.int .i64 x.1, .string ⟨x.2.toArray⟩] ++ []) _ from hv.get 0 rfl) rfl)) ?_
    simp only [zP, po]
    refine dS rfl fun w26 hv => mC s11callable95 rfl ((zsetCompare B _ _ y x hv).mono ?_) rfl
    rintro e w27 ⟨rfl, hv⟩
    refine ⟨_, rfl, dW hv ?_⟩
    by_cases hb28 : (cmpM y x) ≥ 0
    ·refine dG (.bool true) rfl (ex_geq rfl rfl rfl (decide_eq_true hb28)) (dK true (.bool true) rfl ?_)
     refine dE fun w29 hv => ?_
     simp only [zP, po]
     refine tK k24 (cT rfl ?_)
     refine sK fun _ k30 => rL (xA (.bool false) rfl ?_)
     simp only [zP, po]
     refine wK k30 (rR ?_)
     refine tR (bE ?_)
     refine tR (tR ?_)
     refine bE (tR ?_)
     refine bR rfl rfl (⟨false, rfl, ⟨fun h => (by cases h), fun h => by have := h.2.2.1 i x hx j y (by omega) hy; omega⟩, (hv.sub (List.Sublist.cons _ (List.Sublist.cons _ (List.Sublist.refl _))))⟩)
    refine dG (.bool false) rfl (ex_geq rfl rfl rfl (decide_eq_false hb28)) (dK true (.bool false) rfl ?_)
    refine dE fun w31 hv => ?_
    simp only [zP, po]
    refine tK k24 (cF rfl ?_)
    refine kS (tK k23 ?_)
    refine rL (xM (.map (some mp10)) rfl ?_)
    refine xF (.pointer (some ⟨b20, 1, none⟩)) rfl (s9fa99_1 _ _ _) (xL _ rfl (run_load1 s9na9 (hv.load 0 1 rfl rfl)) ?_)
    simp only [zP, po]
    refine xM (.int .i64 (i : Int)) rfl ?_
    replace hv := hv.front 1 rfl
    simp only [List.eraseIdx_cons_succ, List.eraseIdx_cons_zero] at hv
    refine sl_updStr (k := x.2) (m' := ((i + 1 : Nat) : Int)) tV (wn rfl) rfl rfl rfl rfl Tryz.underlying166 Tryz.underlying9 hv (by omega) (by omega) (fun w32 hv => ?_)
    refine wL ?_
    simp only [zP, po]
    refine bN (tK k18 ?_)
    refine rL (xG (.int .i64 ((i + 1 : Nat) : Int)) rfl (ex_add rfl rfl rfl (by rw [i64_in (by omega)]; omega)) ?_)
    refine xM (.int .i64 ((i + 1 : Nat) : Int)) rfl (wL ?_)
    simp only [zP, po]
    refine then_normal ?_
    go_roundw
    case rel => exact ⟨i + 1, rfl, by omega, fun k hk => (by
       rcases Nat.lt_or_ge k i with h | h
       ·exact hall k h
       obtain rfl : k = i := by omega
       intro x' hx'
       rw [hx] at hx'; cases hx'
       intro j' y' hj' hy'
       obtain rfl : j' = j := by omega
       rw [hy] at hy'; cases hy'; omega), by rw [take_next hx, List.map_append, List.map_cons, List.map_nil, keysOf_snoc]; exact (hv.sub (List.Sublist.cons_cons _ (List.Sublist.cons _ (List.Sublist.refl _))))⟩
    case measure => show l.length - (((i + 1 : Nat) : Int)).toNat < l.length - ((i : Int)).toNat; omega
   refine dG (.bool false) rfl (ex_gtr rfl rfl rfl (decide_eq_false hb25)) (dM (.bool false) rfl ?_)
   simp only [zP, po]
   refine dP rfl (dP rfl ?_)
   refine dP rfl ?_
   simp only [zP, po]
   refine dP rfl (dP rfl ?_)
   refine dP rfl ?_
   simp only [zP, po]
   refine dP rfl (dP rfl ?_)
   refine dK false (.bool false) rfl (dE fun w33 hv => ?_)
   simp only [zP, po]
   refine tK k24 (cF rfl ?_)
   refine kS (tK k23 ?_)
   refine rL (xM (.map (some mp10)) rfl ?_)
   refine xF (.pointer (some ⟨b20, 1, none⟩)) rfl (s9fa99_1 _ _ _) (xL _ rfl (run_load1 s9na9 (hv.load 0 1 rfl rfl)) ?_)
   simp only [zP, po]
   refine xM (.int .i64 (i : Int)) rfl ?_
   replace hv := hv.front 1 rfl
   simp only [List.eraseIdx_cons_succ, List.eraseIdx_cons_zero] at hv
   refine sl_updStr (k := x.2) (m' := ((i + 1 : Nat) : Int)) tV (wn rfl) rfl rfl rfl rfl Tryz.underlying166 Tryz.underlying9 hv (by omega) (by omega) (fun w34 hv => ?_)
   refine wL ?_
   simp only [zP, po]
   refine bN (tK k18 ?_)
   refine rL (xG (.int .i64 ((i + 1 : Nat) : Int)) rfl (ex_add rfl rfl rfl (by rw [i64_in (by omega)]; omega)) ?_)
   refine xM (.int .i64 ((i + 1 : Nat) : Int)) rfl (wL ?_)
   simp only [zP, po]
   refine then_normal ?_
   go_roundw
   case rel => exact ⟨i + 1, rfl, by omega, fun k hk => (by
      rcases Nat.lt_or_ge k i with h | h
      ·exact hall k h
      obtain rfl : k = i := by omega
      intro x' hx'
      rw [hx] at hx'; cases hx'
      intro j' y' hj' hy'
      omega), by rw [take_next hx, List.map_append, List.map_cons, List.map_nil, keysOf_snoc]; exact (hv.sub (List.Sublist.cons_cons _ (List.Sublist.cons _ (List.Sublist.refl _))))⟩
   case measure => show l.length - (((i + 1 : Nat) : Int)).toNat < l.length - ((i : Int)).toNat; omega
  refine xG (.bool false) rfl (ex_lss rfl rfl rfl (decide_eq_false hb16)) ?_
  simp only [zP, po]
  refine wK k15 (sK fun _ k35 => ?_)
  refine cF rfl (xE ?_)
  refine tX (tX ?_)
  refine bH (tK k12 ?_)
  refine sK fun _ k36 => rL (xM (.map (some mp10)) rfl ?_)
  refine xG (.int .i64 ((keysOf ((l.take i).map memName)).length : Int)) rfl (ex_lenMap 0 Tryz.underlying166 rfl rfl hv rfl) (xM (.slice ad l.length c) rfl ?_)
  simp only [zP, po]
  refine xG (.int .i64 (l.length : Int)) rfl (ex_len0 Tryz.underlying33 rfl rfl) (xG (.bool (decide (((keysOf ((l.take i).map memName)).length : Int) = (l.length : Int)))) rfl (ex_eql rfl rfl rfl rfl) ?_)
  refine xA (.bool (decide (((keysOf ((l.take i).map memName)).length : Int) = (l.length : Int)))) rfl ?_
  simp only [zP, po]
  refine wK k36 (rR ?_)
  refine bR rfl rfl ?_
  obtain rfl : i = l.length := by omega
  have h9 := keysOf_len (l.map memName)
  rw [List.length_map] at h9
  refine ⟨_, rfl, ?_, (hv.sub (List.Sublist.cons _ (List.Sublist.refl _)))⟩
  rw [List.take_length, decide_eq_true_iff]
  constructor
  ·intro h
   exact ⟨by omega, by simpa using hc7, fun k x hx => hall k (List.getElem?_eq_some_iff.1 hx).1 x hx, h9.2.1 (by omega)⟩
  intro h
  have := h9.2.2 h.2.2.2
  omega
end Go.Proofs.YtkoghbmjbobfjaaGreat
