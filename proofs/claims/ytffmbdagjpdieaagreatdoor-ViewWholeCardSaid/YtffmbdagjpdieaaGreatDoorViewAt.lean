/- ViewWhole: what view.Pages answers to a place and a number of digits. -/
import Derived.Test.YtffmbdagjpdieaaGreatDoorViewRun
namespace Go.Proofs.YtffmbdagjpdieaaGreatDoor
open Go.Eng Go.Pm Go.RowKit
def COUNT : List UInt8 := [67, 79, 85, 78, 84]
theorem conc_lit {α : At} {μ : Mu} (n : Nat) (h : beOf 5 n = COUNT) : conc α μ (.s [.l 5 n]) = some (.string ⟨COUNT.toArray⟩) := by
  simp only [conc, bytesP, h, List.append_nil]
theorem conc_atom {α : At} {μ : Mu} {j : Nat} {l : List UInt8} (h : α j = l) : conc α μ (.s [.a j]) = some (.string ⟨l.toArray⟩) := by
  simp only [conc, bytesP, List.append_nil, h]
theorem count_be : beOf 5 289093799508 = COUNT := by kernel_rfl
theorem vwRow_conc {α : At} {μ : Mu} {s c : List UInt8} (h0 : α 0 = s) (h1 : α 1 = c) : concL α μ vwRow = some [.string ⟨s.toArray⟩, .string ⟨COUNT.toArray⟩, .string ⟨c.toArray⟩] := by
  unfold vwRow
  exact concL_mk (conc_atom h0) (concL_mk (conc_lit _ count_be) (concL_mk (conc_atom h1) (by simp only [concL])))
def vwLen (k a c : Nat) (j : Nat) : Nat := match j with
  | 2 => k
  | 3 => a
  | 4 => c
  | 6 => k - a
  | _ => 0
def vwAt (k a c g : Nat) (o : Obj) : At where
  txt j := if j = 0 then Lib.itoa a else if j = 1 then Lib.itoa c else List.replicate (vwLen k a c j) 0
  win _ := (g, 0, 1, 1)
  wc j := if j = 50 then [.i .u64 1] else []
  spot _ := none
  blk j := if j = 50 then some o else none
theorem vwAt_len {k a c g : Nat} {o : Obj} {j : Nat} (h : 2 ≤ j) : (vwAt k a c g o j).length = vwLen k a c j := by
  show (if j = 0 then _ else if j = 1 then _ else List.replicate _ _).length = _
  rw [if_neg (by omega), if_neg (by omega), List.length_replicate]
theorem vwBnd_ok {k a c g : Nat} {o : Obj} (hk : k ≤ 199) (ha : a ≤ k) (hc : 1 ≤ c ∧ c ≤ 9) (j : Nat) : (vwBnd j).1 ≤ (vwAt k a c g o j).length ∧ (vwAt k a c g o j).length ≤ (vwBnd j).2 := by
  match j with
  | 0 => exact itoa_length a (by omega) (by omega)
  | 1 => exact itoa_length c (by omega) (by omega)
  | 2 | 3 | 4 | 5 | 6 =>
    rw [vwAt_len (by decide)]
    simp only [vwLen]
    first | exact ⟨Nat.zero_le _, show _ ≤ 199 by omega⟩ | exact hc
  | j + 7 =>
    have e : vwBnd (j + 7) = (0, 300) := by
      have h1 : Nat.blt (j + 7) 2 = false := Bool.eq_false_iff.2 fun h => by have := Nat.le_of_ble_eq_true h; omega
      have h2 : Nat.beq (j + 7) 4 = false := Bool.eq_false_iff.2 fun h => by have := Nat.eq_of_beq_eq_true h; omega
      have h3 : Nat.blt (j + 7) 7 = false := Bool.eq_false_iff.2 fun h => by have := Nat.le_of_ble_eq_true h; omega
      simp [vwBnd, h1, h2, h3]
    rw [e, vwAt_len (by omega)]
    exact ⟨Nat.zero_le _, Nat.zero_le _⟩
theorem isTxt_eq {v : V} {j : Nat} (h : isTxt v = some j) : v = .s [.a j] := by
  unfold isTxt at h
  split at h
  · cases h; rfl
  · cases h
theorem vwNum_ok {k a c g : Nat} {o : Obj} {j : Nat} {v : V} (hk : k ≤ 199) (ha : a ≤ k) (hc : 1 ≤ c ∧ c ≤ 9) (h : vwNum j = some v) : ∃ n : Nat, n ≤ 199 ∧ vwAt k a c g o j = Lib.itoa n ∧ ∀ μ, conc (vwAt k a c g o) μ v = some (.int .i64 n) := by
  have q : ∀ (j n : Nat), 2 ≤ j → vwLen k a c j = n → ∀ μ, conc (vwAt k a c g o) μ (qv [j]) = some (.int .i64 n) := fun j n hj hn μ => by
    simp only [conc, qv, lenP, Int.add_zero]
    rw [vwAt_len hj, hn]
    congr 2
    omega
  unfold vwNum at h
  cases h1 : Nat.beq j 0 with
  | true =>
    rw [h1] at h
    simp only [cond_true, Option.some.injEq] at h
    subst h
    rw [Nat.eq_of_beq_eq_true h1]
    exact ⟨a, by omega, rfl, q 3 a (by decide) rfl⟩
  | false =>
    rw [h1] at h
    simp only [cond_false] at h
    cases h2 : Nat.beq j 1 with
    | true =>
      rw [h2] at h
      simp only [cond_true, Option.some.injEq] at h
      subst h
      rw [Nat.eq_of_beq_eq_true h2]
      exact ⟨c, by omega, rfl, q 4 c (by decide) rfl⟩
    | false => rw [h2] at h; cases h
theorem vwOrn_ok {k a c : Nat} (hk : k ≤ 199) (ha : a ≤ k) (hc : 1 ≤ c ∧ c ≤ 9) {g : Nat} {o : Obj} {cs : Array Value} (hg : Tryz.prog.globalNamed "internal/strconv.uint64pow10" = some g) (hcs : cs = (Lib.pow10Tab.map fun z => Value.int .u64 z).toArray) (ho : ∃ e fr, o = .cells cs e fr)
    (f : FuncId) (args : List V) (v : V) (σ : St) (h : vwOrn f args = some v) : CallN Tryz.prog (vwAt k a c g o) f args σ σ v := by
  unfold vwOrn at h
  split at h
  · rename_i x
    cases h2 : Nat.beq f 23 with
    | true =>
      rw [h2] at h
      simp only [cond_true] at h
      obtain rfl := Nat.eq_of_beq_eq_true h2
      split at h
      · rename_i j hj
        split at h
        · rename_i v' hv'
          cases h
          obtain ⟨n, hn, e1, c1⟩ := vwNum_ok (g := g) (o := o) hk ha hc hv'
          obtain rfl := isTxt_eq hj
          refine callN_of fun μ C w M N vals hpre hx => ⟨.tuple #[.int .i64 n, .bool true], by simp [conc, concL, c1 μ], ?_⟩
          obtain rfl : vals = [.string ⟨(Lib.itoa n).toArray⟩] := by
            simp only [concL, conc, bytesP, e1, List.append_nil] at hx
            simpa using hx.symm
          have hf := hpre.sim.full 50 o (by simp [vwAt]) (by simp [vwAt])
          have ht : Lib.TabIs Tryz.prog w "internal/strconv.uint64pow10" .u64 Lib.pow10Tab := by
            obtain ⟨e, fr, rfl⟩ := ho
            unfold Lib.TabIs World.var?
            rw [hg, Option.bind_some, show w.heap[g]? = _ from hf, hcs]
          refine (numParse (Base.of w) [] (formatsInt _ _ w ⟨fun _ _ h => h, Nat.le_refl _, rfl, rfl, rfl⟩ ht) (parsesInt _ _) w n (by omega) (by omega) (Inv.start w)).mono ?_
          rintro e w' ⟨he, hi⟩
          exact ⟨he, ext_of hi⟩
        · cases h
      · cases h
    | false => rw [h2] at h; cases h
  · cases h
def nxV (n : List Nat) : V := match n with
  | [] => .i .i64 0
  | _ => qv n
theorem gaveP_ok {r : Res (St × V)} {t n : List Nat} (h : gaveP r t n = true) : ∃ σ z, r = .ok (σ, .u [.g [qv [3], qv t, z, .s [.l 1 42]], .i .i64 0]) ∧ σ.w.testBit 0 = false ∧ z = nxV n := by
  unfold gaveP at h
  split at h
  · rename_i σ x y z
    simp only [Bool.and_eq_true, Bool.not_eq_true'] at h
    obtain ⟨⟨⟨h1, h2⟩, h3⟩, h4⟩ := h
    refine ⟨σ, z, by rw [vEq_eq h2, vEq_eq h3], h1, ?_⟩
    cases n with
    | nil => exact vEq_eq h4
    | cons a n => exact vEq_eq h4
  · cases h
theorem vwPages (W : World) (B : Base) (H : List Pm.Res) (w : World) (k a c b i : Nat) (hk : k ≤ 199) (ha : a ≤ k) (hc : 1 ≤ c ∧ c ≤ 9) (ht : Lib.TabIs Tryz.prog W "internal/strconv.uint64pow10" .u64 Lib.pow10Tab) (hB : (Base.of W).Le B)
    (hi : H[i]? = some (Pm.Res.cell b [.string ⟨(Lib.itoa a).toArray⟩, .string ⟨COUNT.toArray⟩, .string ⟨(Lib.itoa c).toArray⟩] 9)) (hv : Inv B H w) :
    Calls Tryz.prog 5 #[.int .i64 (k : Int), .slice (some ⟨b, 0, none⟩) 3 3] w fun e w' => ∃ to nx : Nat, e = .returned (.tuple #[.agg #[.int .i64 (a : Int), .int .i64 (to : Int), .int .i64 (nx : Int), .string ⟨([42] : List UInt8).toArray⟩], .int .i64 0]) ∧ a ≤ to ∧ to ≤ k ∧ (to < k → nx = to ∧ a < to) ∧ (to = k → nx = 0) ∧ Inv B H w' := by
  have hfol : Tryz.prog.follows .rangeFuncRecover = true := by kernel_rfl
  have hmix : Tryz.prog.follows .mixedOrders = true := by kernel_rfl
  have htw := tab_below ht (hv.below hB)
  have ht' := ht
  unfold Lib.TabIs World.var? at htw ht'
  cases hg : Tryz.prog.globalNamed "internal/strconv.uint64pow10" with
  | none => rw [hg] at ht'; cases ht'
  | some g =>
    rw [hg] at htw ht'
    simp only [Option.bind_some] at htw ht'
    have hgb : g ≠ b := fun e => by
      have h1 := hv.out _ (List.mem_of_getElem? hi) b (by simp)
      rw [← e] at h1
      cases h2 : W.heap[g]? with
      | none => rw [h2] at ht'; cases ht'
      | some o2 =>
        have h3 := hB.blk g o2 h2
        rw [h1] at h3; cases h3
    cases ho : w.heap[g]? with
    | none => rw [ho] at htw; cases htw
    | some o =>
      rw [ho] at htw
      cases o with
      | cells cs e fr =>
        simp only [Option.some.injEq] at htw
        have run : ∀ {F : Facts} {t n : List Nat} {fuel : Nat}, (∀ e' ∈ F, FactOk (vwAt k a c g (.cells cs e fr)) e') → gaveP ((evF (vwPr F) fuel).call 5 vwArgs (rowSt vwRow 9)) t n = true →
            Calls Tryz.prog 5 #[.int .i64 (k : Int), .slice (some ⟨b, 0, none⟩) 3 3] w fun e' w' => ∃ x μ', e' = .returned x ∧ conc (vwAt k a c g (.cells cs e fr)) μ' (.u [.g [qv [3], qv t, nxV n, .s [.l 1 42]], .i .i64 0]) = some x ∧ Ext w w' := fun {F t n fuel} hF hr => by
          obtain ⟨σ', z, h, h0, rfl⟩ := gaveP_ok hr
          rw [evF_eq] at h
          have hα : AtOk (vwPr F) (vwAt k a c g (.cells cs e fr)) := ⟨fun j => vwBnd_ok hk ha hc j, fun j n' cs' hw => (by cases hw), fun g n' cs' hw => (by cases hw), fun op a b r hr P o A w t x y u μ X Y h1 h2 h3 h4 h5 => ftacts_ok hF (fun e' he' => by cases he') hr P o A w t x y u μ X Y h1 h2 h3 h4 h5⟩
          have hI := (ev_ok hα (prAllOk _ _ _ _ _ _) (fun _ _ _ _ _ ho => (stay_no ho).elim) (fun f args σ σ' v ho' => by obtain ⟨hq, he⟩ := stay_some ho'; subst he; exact vwOrn_ok hk ha hc hg htw ⟨e, fr, rfl⟩ f args v _ hq) hfol hmix fuel).call 5 vwArgs (rowSt vwRow 9) σ' _ h
          refine row1_calls (b := b) (n := 3) (Lc := [.string ⟨(Lib.itoa a).toArray⟩, .string ⟨COUNT.toArray⟩, .string ⟨(Lib.itoa c).toArray⟩]) (vals := [.int .i64 (k : Int), .slice (some ⟨b, 0, none⟩) 3 3]) hI h0 (hv.get i hi) ?_ rfl ?_ (fun j i v hv' => ?_) (fun j o h1 h2 => ?_) (fun j hj => fun e' => hgb ?_)
          · exact vwRow_conc rfl rfl
          · simp only [concL, conc, vwArgs, qv, lenP, Int.add_zero]
            rw [vwAt_len (by decide)]
            simp [vwLen, rowMu]
          · simp only [vwAt] at hv'
            by_cases hj : j = 50
            · rw [if_pos hj] at hv'
              cases i with
              | zero =>
                simp only [List.getElem?_cons_zero, Option.some.injEq] at hv'
                subst hv'
                refine ⟨.int .u64 1, by simp only [conc], ?_⟩
                show w.cell? ⟨g, 0 + 0, none⟩ = some _
                simp only [World.cell?, ho, htw]
                rfl
              | succ i => simp at hv'
            · rw [if_neg hj] at hv'; simp at hv'
          · simp only [vwAt] at h1
            by_cases hj : j = 50
            · rw [if_pos hj] at h1
              cases h1
              exact ho
            · rw [if_neg hj] at h1; cases h1
          · exact e'.symm
        have l2 : (vwAt k a c g (.cells cs e fr) 2).length = k := vwAt_len (by decide)
        have l3 : (vwAt k a c g (.cells cs e fr) 3).length = a := vwAt_len (by decide)
        have l4 : (vwAt k a c g (.cells cs e fr) 4).length = c := vwAt_len (by decide)
        have l6 : (vwAt k a c g (.cells cs e fr) 6).length = k - a := vwAt_len (by decide)
        rcases Nat.lt_trichotomy (a + c) k with hlt | heq | hgt
        · refine (run (vwA_ok l2 l3 l4 l6 hlt hk) vwRunA).mono ?_
          rintro e' w' ⟨x, μ', rfl, h1, h2⟩
          refine ⟨a + c, a + c, ?_, by omega, by omega, fun _ => ⟨rfl, by omega⟩, fun h => by omega, hv.ext h2⟩
          simp [conc, concL, nxV, qv, lenP, l3, l4, bytesP] at h1
          rw [← h1]
          rfl
        · refine (run (vwB_ok l2 l3 l4 l6 heq hk) vwRunB).mono ?_
          rintro e' w' ⟨x, μ', rfl, h1, h2⟩
          refine ⟨a + c, 0, ?_, by omega, by omega, fun _ => by omega, fun h => rfl, hv.ext h2⟩
          simp [conc, concL, nxV, qv, lenP, l3, l4, bytesP] at h1
          rw [← h1]
          rfl
        · refine (run (vwC_ok l2 l3 l4 l6 hgt ha hk) vwRunC).mono ?_
          rintro e' w' ⟨x, μ', rfl, h1, h2⟩
          refine ⟨k, 0, ?_, by omega, by omega, fun _ => by omega, fun h => rfl, hv.ext h2⟩
          simp [conc, concL, nxV, qv, lenP, l3, l6, bytesP] at h1
          rw [← h1, show (a : Int) + ((k - a : Nat) : Int) = (k : Int) by omega]
          rfl
      | _ => cases htw
end Go.Proofs.YtffmbdagjpdieaaGreatDoor
