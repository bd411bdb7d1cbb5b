/- LogStale: what its walk needs. -/
import Derived.Test.YtkannfkjnohdlaaMgI
import Derived.Test.YtkannfkjnohdlaaMgJ
import Derived.Test.YtkannfkjnohdlaaRows
import Derived.Test.YtkannfkjnohdlaaMgA
import Derived.Test.YtkannfkjnohdlaaMgG
import Derived.JoinedAt
namespace Go.Pm
open Go.RowKit
section
variable {P : Program} {ops : Array Oper} {Q : Exit → Act → World → Prop} {J : List Value → World → Prop} {a : Act} {w : World} {vals : List Value} {o : Oper} {B : Base} {H : List Res} {t e : TypeId} {x y : Operand}
/-- make, of elements of one cell, in a region that draws its order -/
theorem mem_make1 {len cap bytes : Nat} {z : Value} (hg : Region.wanted o (yielded ops a.tmps) = true) (ho : o.op = .makeSlice t x y) (hx : a.eval x = .int .i64 len) (hy : a.eval y = .int .i64 cap) (ht : P.underlying t = some (.slice e)) (hi : (P.info? e).map (fun i => (i.zero, i.size, i.bytes)) = some (some z, 1, bytes)) (hz1 : z.cells = #[z])
    (hlc : len ≤ cap) (hcm : cap ≤ maxLen) (hby : cap * bytes ≤ 140737488355328) (hv : Inv B H w) (h : ∀ b w', Inv B (Res.cell b (List.replicate cap z) e :: H) w' → J (vals ++ [.slice (some ⟨b, 0, none⟩) len cap]) w') : StepMem P ops J Q o a w vals := by
  obtain ⟨i, hi, hh⟩ := Option.map_eq_some_iff.1 hi
  simp only [Prod.mk.injEq] at hh
  unfold maxLen at hcm
  have hb : cap * i.bytes ≤ 140737488355328 := by rw [hh.2.2]; exact hby
  have hr := run_make (P := P) w t e i z ht hi hh.1 .i64 .i64 len cap (by omega) (by omega) (by rw [Int.mul_comm, ← Int.natCast_mul]; omega) (by omega)
  have hA : madeCells z.cells (cap * i.size) = (List.replicate cap z).toArray := by
    rw [← madeCells_one hz1, Array.toArray_toList, hh.2.1, Nat.mul_one]
  simp only [Int.toNat_natCast, hA] at hr
  exact Ex.mem (ex_make ho hx hy hr) hg (h _ _ (hv.alloc (List.replicate cap z) e))
end
end Go.Pm
namespace Go.Proofs.Ytkannfkjnohdlaa
open Go.RowKit Go.Pm
theorem write_free {D : Disk} (h : D.left = -1) (a : Nat) (l : List UInt8) : (D.write a l).left = -1 := by
  show (if 0 < D.left then D.left - 1 else D.left) = -1
  rw [h]; decide
theorem sync_free {D : Disk} (h : D.left = -1) : D.sync.left = -1 := by
  show (if 0 < D.left then D.left - 1 else D.left) = -1
  rw [h]; decide
theorem head_free {D : Disk} (h : D.left = -1) (a : Nat) (hd : List UInt8) : (putHead D a hd).1 = 0 ∧ (putHead D a hd).2.left = -1 := by
  unfold putHead
  rw [if_neg (by rw [h]; decide), if_neg (by rw [write_free h]; decide)]
  exact ⟨rfl, sync_free (write_free h _ _)⟩
theorem put_free {D : Disk} (h : D.left = -1) (a : Nat) (l hd : List UInt8) : (putAll' D a l hd).1 = 0 ∧ (putAll' D a l hd).2.left = -1 := by
  unfold putAll'
  split
  · exact head_free h _ _
  rw [if_neg (by rw [h]; decide), if_neg (by rw [write_free h]; decide)]
  exact head_free (sync_free (write_free h _ _)) _ _
/-- a log of 40 sectors on a disk that doesn't fail -/
structure Going (D : Disk) (used last after : Nat) (sure : List (List UInt8)) : Prop where
  st : LState D 40 used last after false sure []
  left : D.left = -1
theorem going_zero : Going (Disk.zero 40) 0 0 0 [] := ⟨lstate_zero 40, rfl⟩
theorem Going.reset {D : Disk} {used last after : Nat} {sure : List (List UInt8)} (h : Going D used last after sure) : Going D 0 last last [] := ⟨h.st.reset, h.left⟩
theorem Going.len {D : Disk} {used last after : Nat} {sure : List (List UInt8)} (h : Going D used last after sure) : D.dur.length = 40 := h.st.head.len
theorem Going.pend {D : Disk} {used last after : Nat} {sure : List (List UInt8)} (h : Going D used last after sure) : D.pend = [] := (h.st.rest rfl).1
theorem secs_one (c : UInt8) : secs [c].length = 2 := by rw [List.length_singleton]; decide
def gE (used : Nat) (l : List UInt8) : Int := if used + secs l.length > 40 then 22 else 0
def gU (used : Nat) (l : List UInt8) : Nat := if used + secs l.length > 40 then used else used + secs l.length
def gL (used last : Nat) (l : List UInt8) : Nat := if used + secs l.length > 40 then last else last + 1
def gD (D : Disk) (used last : Nat) (l : List UInt8) : Disk := if used + secs l.length > 40 then D else (putAll' D used (logText l) (logHdr (last + 1) l)).2
theorem gL_le (used last : Nat) (l : List UInt8) : gL used last l ≤ last + 1 := by unfold gL; split <;> omega
theorem Going.put {D : Disk} {used last after : Nat} {sure : List (List UInt8)} (h : Going D used last after sure) {l : List UInt8} (hl : l.length ≤ 1048576) (hst : last + 1 ≤ 1000000000) (hf : used + secs l.length ≤ 40) :
    Going (putAll' D used (logText l) (logHdr (last + 1) l)).2 (used + secs l.length) (last + 1) after (sure ++ [l]) := by
  refine ⟨?_, (put_free h.left _ _ _).2⟩
  rcases h.st.append hf hl (by omega) with ⟨-, h2⟩ | ⟨h1, -⟩
  · exact h2
  · rw [(put_free h.left _ _ _).1] at h1
    cases h1
theorem Going.app {D : Disk} {used last after : Nat} {sure : List (List UInt8)} (h : Going D used last after sure) {l : List UInt8} (hl : l.length ≤ 1048576) (hst : last + 1 ≤ 1000000000) : ∃ sure2, Going (gD D used last l) (gU used l) (gL used last l) after sure2 := by
  unfold gD gU gL
  split
  · exact ⟨_, h⟩
  · exact ⟨_, h.put hl hst (by omega)⟩
section
variable (B : Base) (H : List Res) (w : World) (q p used last after g : Nat) (D : Disk) (F : List Nat) (sure : List (List UInt8))
theorem staleAppend (l : List UInt8) (hG : Going D used last after sure) (hst : last + 1 ≤ 1000000000) (hl : l.length ≤ 1048576) (hv : Inv B (Res.cell g (l.map B8) 5 :: Res.cell q (lgCells p 40 used last false) 111 :: diskR p D F :: H) w) :
    Calls Try.prog 40 #[.pointer (some ⟨q, 0, none⟩), .int .i64 ((last + 1 : Nat) : Int), .slice (some ⟨g, 0, none⟩) l.length l.length] w fun e w' => ∃ F', e = .returned (.int .i64 (gE used l)) ∧ Inv B (Res.cell q (lgCells p 40 (gU used l) (gL used last l) false) 111 :: diskR p (gD D used last l) F' :: H) w' := by
  have hout : B.I g = none := hv.out _ (List.mem_cons_self) g (by simp)
  have hf := hv.freeze
  have hr : RdV (B.add g (.cells (l.map B8).toArray 5)) [] (some ⟨g, 0, none⟩) (l.map B8) := fun i hi => ⟨g, 0, rfl, .inl ⟨_, _, _, Base.add_self, by simp at hi ⊢; simp [hi]⟩⟩
  have hkf := hG.st.head.fit
  by_cases hfull : used + secs l.length > 40
  · refine (appendFull _ _ _ q p 40 used last D _ _ _ l hst hkf (by rw [hG.len]; omega) (by rw [hG.len]; omega) (by rw [hG.pend]; decide) hl (ok_full (by omega)) hr hf hfull).mono ?_
    rintro e w' ⟨rfl, hv⟩
    refine ⟨F, by rw [gE, if_pos hfull], ?_⟩
    rw [gU, gL, gD, if_pos hfull, if_pos hfull, if_pos hfull]
    exact hv.weak (Base.add_le hout)
  · refine (appendDone _ _ _ q p 40 used last D _ _ _ l hst hkf (by rw [hG.len]; omega) (by rw [hG.len]; omega) (by rw [hG.pend]; decide) hl (ok_full (by omega)) hr hf (by omega) (put_free hG.left _ _ _).1).mono ?_
    rintro e w' ⟨F', rfl, hv⟩
    refine ⟨F', by rw [gE, if_neg hfull], ?_⟩
    rw [gU, gL, gD, if_neg hfull, if_neg hfull, if_neg hfull]
    exact hv.weak (Base.add_le hout)
theorem staleAppend0 (k : Nat) (hG : Going D used last after sure) (hst : last + 1 ≤ 1000000000) (hl : k ≤ 1048576) (hv : Inv B (Res.cell g (List.replicate k (Value.int .u8 0)) 5 :: Res.cell q (lgCells p 40 used last false) 111 :: diskR p D F :: H) w) :
    Calls Try.prog 40 #[.pointer (some ⟨q, 0, none⟩), .int .i64 ((last + 1 : Nat) : Int), .slice (some ⟨g, 0, none⟩) k k] w fun e w' => ∃ F', e = .returned (.int .i64 (gE used (List.replicate k 0))) ∧ Inv B (Res.cell q (lgCells p 40 (gU used (List.replicate k 0)) (gL used last (List.replicate k 0)) false) 111 :: diskR p (gD D used last (List.replicate k 0)) F' :: H) w' := by
  have h := staleAppend B H w q p used last after g D F sure (List.replicate k 0) hG hst (by rw [List.length_replicate]; exact hl) (by rw [List.map_replicate]; exact hv)
  rw [List.length_replicate] at h
  exact h
theorem staleAppend1 (c : UInt8) (hG : Going D used last after sure) (hst : last + 1 ≤ 1000000000) (hf : used + 2 ≤ 40) (hv : Inv B (Res.cell g [.int .u8 (c.toNat : Int)] 5 :: Res.cell q (lgCells p 40 used last false) 111 :: diskR p D F :: H) w) :
    Calls Try.prog 40 #[.pointer (some ⟨q, 0, none⟩), .int .i64 ((last + 1 : Nat) : Int), .slice (some ⟨g, 0, none⟩) 1 1] w fun e w' => ∃ F', e = .returned (.int .i64 0) ∧ Inv B (Res.cell q (lgCells p 40 (used + 2) (last + 1) false) 111 :: diskR p (putAll' D used (logText [c]) (logHdr (last + 1) [c])).2 F' :: H) w' := by
  have h := staleAppend B H w q p used last after g D F sure [c] hG hst (by rw [List.length_singleton]; omega) hv
  have h2 := secs_one c
  have hn : ¬ used + secs [c].length > 40 := by omega
  rw [gE, gU, gL, gD, if_neg hn, if_neg hn, if_neg hn, if_neg hn, h2] at h
  exact h
end
theorem byte_k (l : List UInt8) (i : Nat) (h : i < l.length) : ∃ k : Nat, k ≤ 255 ∧ (l.map B8)[i]? = some (.int .u8 (k : Int)) :=
  ⟨l[i].toNat, by have := l[i].toNat_lt; omega, by simp [h]⟩
theorem byte_c (l : List UInt8) (i : Nat) (h : i < l.length) : ∃ c : UInt8, l[i]? = some c ∧ (l.map B8)[i]? = some (.int .u8 (c.toNat : Int)) ∧ c.toNat ≤ 255 :=
  ⟨l[i], by simp [h], by simp [h], by have := l[i].toNat_lt; omega⟩
theorem ones_next {l : List UInt8} {i : Nat} {c : UInt8} (h : l[i]? = some c) : (l.take (i + 1)).map (fun c => [c]) = (l.take i).map (fun c => [c]) ++ [[c]] := by
  obtain ⟨hi, rfl⟩ := List.getElem?_eq_some_iff.1 h
  rw [List.take_succ_eq_append_getElem hi, List.map_append]
  rfl
theorem ones_get {C : Base} {l : List UInt8} {st : Nat} {xs : List Value} (h : EntsAt C st (l.map fun c => [c]) xs) {i : Nat} {c : UInt8} (hc : l[i]? = some c) :
    ∃ ad cp, xs[i * 2]? = some (.int .i64 ((st + i + 1 : Nat) : Int)) ∧ xs[i * 2 + 1]? = some (.slice ad 1 cp) ∧ RdV C [] ad [.int .u8 (c.toNat : Int)] := by
  obtain ⟨hi, rfl⟩ := List.getElem?_eq_some_iff.1 hc
  obtain ⟨ad, cp, h1, h2, -, h4⟩ := ents_get h i (by simpa using hi)
  refine ⟨ad, cp, h1, ?_, ?_⟩
  · simpa using h2
  · simpa using h4
theorem stale_crash {D : Disk} {used last after : Nat} {sure : List (List UInt8)} (h : Going D used last after sure) (hst : last + 1 ≤ 1000000000) (ks : List Int) : LHead (D.crash ks).dur 40 used last after sure := by
  rcases h.st.crash (by omega) ks with h | ⟨b, hb, -⟩
  · exact h
  · cases hb
end Go.Proofs.Ytkannfkjnohdlaa
/- LogStale -/
namespace Go.Proofs.Ytkannfkjnohdlaa
open Go.RowKit Go.Pm

theorem lscallable38 : Callable Try.prog 38 := ⟨_, Try.func38, by kernel_rfl, by kernel_rfl⟩
theorem lscallable21 : Callable Try.prog 21 := ⟨_, Try.func21, by kernel_rfl, by kernel_rfl⟩
theorem lscallable39 : Callable Try.prog 39 := ⟨_, Try.func39, by kernel_rfl, by kernel_rfl⟩
theorem lscallable41 : Callable Try.prog 41 := ⟨_, Try.func41, by kernel_rfl, by kernel_rfl⟩
theorem lses24 (w : World) : (sizeOf (Try.prog.elem 24)).run Try.prog w = .ok 1 w := by kernel_rfl
theorem lsna5 (w : World) : (isAgg 5).run Try.prog w = .ok false w := by kernel_rfl
theorem lsmk5 : (Try.prog.info? 5).map (fun i => (i.zero, i.size, i.bytes)) = some (some (.int .u8 0), 1, 1) := by kernel_rfl
theorem lscallable40 : Callable Try.prog 40 := ⟨_, Try.func40, by kernel_rfl, by kernel_rfl⟩
theorem lscallable42 : Callable Try.prog 42 := ⟨_, Try.func42, by kernel_rfl, by kernel_rfl⟩
theorem lsel24 : Elem Try.prog 24 5 (.int .u8 0) 1 1 := elem_of Try.underlying24 lsmk5 (by rfl) (by decide)
theorem lscallable25 : Callable Try.prog 25 := ⟨_, Try.func25, by kernel_rfl, by kernel_rfl⟩
theorem lses73 (w : World) : (sizeOf (Try.prog.elem 73)).run Try.prog w = .ok 2 w := by kernel_rfl
theorem lsfa55_0 (w : World) (b o : Nat) : (Instr.fieldAt 55 (.pointer (some ⟨b, o, none⟩)) 0).run Try.prog w = .ok (.pointer (some ⟨b, o + 0, none⟩)) w := by kernel_rfl
theorem lsna3 (w : World) : (isAgg 3).run Try.prog w = .ok false w := by kernel_rfl
theorem lsfa55_1 (w : World) (b o : Nat) : (Instr.fieldAt 55 (.pointer (some ⟨b, o, none⟩)) 1).run Try.prog w = .ok (.pointer (some ⟨b, o + 1, none⟩)) w := by kernel_rfl
theorem lsna24 (w : World) : (isAgg 24).run Try.prog w = .ok false w := by kernel_rfl
set_option maxRecDepth 100000 in
set_option maxHeartbeats 4000000 in
theorem logStaleMain (B : Base) (H : List Res) (w : World) (a1 a2 a3 : Option Addr) (c1 c2 c3 : Nat) (fb sb : List UInt8) (ks : List Int) (hfb : RdV B [] a1 (fb.map B8)) (hsb : RdV B [] a2 (sb.map B8)) (hks : RdV B [] a3 (ks.map intV)) (hkw : ∀ k ∈ ks, -9223372036854775808 ≤ k ∧ k ≤ 9223372036854775807) (hv : Inv B H w) :
    Calls Try.prog 12 #[.slice a1 fb.length c1, .slice a2 sb.length c2, .slice a3 ks.length c3] w fun e w' => e = .returned (.bool true) ∧ Inv B H w' := by
  refine (callsIn_wide (n := 5)).1 ?_
  refine callsIn_of_wp Try.func12 rfl trivial ?_
  simp only [Try.ntmps12, List.size_toArray, List.length_cons, List.length_nil, Nat.reduceAdd, Nat.reduceSub, Array.replicate_succ, Array.replicate_zero, List.push_toArray, List.append_toArray, List.nil_append, List.cons_append]
  refine wpIn_seq_k (fun K1 hK1 => ?_)
  refine wpIn_region_lit ?_
  refine wpi_exG (v := .bool false) (fun _ => trivial) (wn rfl) rfl (ex_assign rfl rfl) ?_
  refine wpListIn_nil ?_
  simp only [Act.put, List.setIfInBounds_toArray, List.set_cons_succ, List.set_cons_zero]
  refine then_normal (hK1 _ _ ?_)
  clear hK1 K1
  refine wpIn_seq_k (fun K2 hK2 => ?_)
  refine wpIn_seq_k (fun K3 hK3 => ?_)
  refine wpIn_region_lit ?_
  refine wpi_callG lscallable38 (fun _ => trivial) wideC rfl (wn rfl) rfl (args := #[]) (by simp only [List.map_toArray, List.map_nil]) ((lawAwake07 _ _ _ hv).mono ?_)
  rintro e w4 ⟨rfl, hv⟩
  refine ⟨_, rfl, ?_⟩
  refine wpi_exG (v := .bool false) (fun _ => trivial) (wn rfl) rfl (ex_not rfl rfl rfl) ?_
  refine wpi_exG (v := .bool false) (fun _ => trivial) (wn rfl) rfl (ex_move rfl rfl) ?_
  simp only [Act.put, List.setIfInBounds_toArray, List.set_cons_succ, List.set_cons_zero]
  refine wpi_exG (v := .slice a1 fb.length c1) (fun _ => trivial) (wanted_of (j := 2) (d := 22) (b := false) rfl rfl rfl) rfl (ex_move rfl rfl) ?_
  refine wpi_exG (v := .int .i64 (fb.length : Int)) (fun _ => trivial) (wanted_of (j := 2) (d := 22) (b := false) rfl rfl rfl) rfl (ex_len0 Try.underlying24 rfl rfl) ?_
  by_cases hb5 : (fb.length : Int) > 10
  · refine wpi_exG (v := .bool true) (fun _ => trivial) (wanted_of (j := 2) (d := 22) (b := false) rfl rfl rfl) rfl (ex_gtr (k := .i64) (m := (fb.length : Int)) (n := 10) rfl rfl rfl (decide_eq_true hb5)) ?_
    simp only [Act.put, List.setIfInBounds_toArray, List.set_cons_succ, List.set_cons_zero]
    refine wpi_exG (v := .bool true) (fun _ => trivial) (wn rfl) rfl (ex_pick (b := false) rfl rfl rfl) ?_
    refine wpi_exG (v := .bool true) (fun _ => trivial) (wn rfl) rfl (ex_move rfl rfl) ?_
    refine wpi_not (fun _ => trivial) (wanted_not (j := 7) (d := 27) (b := false) (b' := true) rfl rfl rfl (by decide)) ?_
    simp only [Act.put, List.setIfInBounds_toArray, List.set_cons_succ, List.set_cons_zero]
    refine wpi_not (fun _ => trivial) (wanted_not (j := 7) (d := 27) (b := false) (b' := true) rfl rfl rfl (by decide)) ?_
    refine wpi_not (fun _ => trivial) (wanted_not (j := 7) (d := 27) (b := false) (b' := true) rfl rfl rfl (by decide)) ?_
    refine wpi_exG (v := .bool true) (fun _ => trivial) (wn rfl) rfl (ex_pick (b := true) rfl rfl rfl) ?_
    simp only [Act.put, List.setIfInBounds_toArray, List.set_cons_succ, List.set_cons_zero]
    refine wpi_exG (v := .bool true) (fun _ => trivial) (wn rfl) rfl (ex_move rfl rfl) ?_
    refine wpi_not (fun _ => trivial) (wanted_not (j := 12) (d := 32) (b := false) (b' := true) rfl rfl rfl (by decide)) ?_
    refine wpi_not (fun _ => trivial) (wanted_not (j := 12) (d := 32) (b := false) (b' := true) rfl rfl rfl (by decide)) ?_
    simp only [Act.put, List.setIfInBounds_toArray, List.set_cons_succ, List.set_cons_zero]
    refine wpi_not (fun _ => trivial) (wanted_not (j := 12) (d := 32) (b := false) (b' := true) rfl rfl rfl (by decide)) ?_
    refine wpi_exG (v := .bool true) (fun _ => trivial) (wn rfl) rfl (ex_pick (b := true) rfl rfl rfl) ?_
    refine wpListIn_nil ?_
    simp only [Act.put, List.setIfInBounds_toArray, List.set_cons_succ, List.set_cons_zero]
    refine then_normal (hK3 _ _ ?_)
    clear hK3 K3
    refine wpIn_cond_true rfl ?_
    refine wpIn_seq_k (fun K6 hK6 => ?_)
    refine wpIn_region_lit ?_
    refine wpi_callG lscallable38 (fun _ => trivial) wideC rfl (wn rfl) rfl (args := #[]) (by simp only [List.map_toArray, List.map_nil]) ((lawAwake07 _ _ _ hv).mono ?_)
    rintro e w7 ⟨rfl, hv⟩
    refine ⟨_, rfl, ?_⟩
    refine wpi_exG (v := .bool true) (fun _ => trivial) (wn rfl) rfl (ex_assign rfl rfl) ?_
    refine wpListIn_nil ?_
    simp only [Act.put, List.setIfInBounds_toArray, List.set_cons_succ, List.set_cons_zero]
    refine then_normal (hK6 _ _ ?_)
    clear hK6 K6
    refine wpIn_ret ?_
    refine then_ret ?_
    clear hK2 K2
    refine bodyPost_ret (results_tmp rfl _ _ _) rfl ?_
    exact ⟨rfl, hv.tail 0⟩
  · refine wpi_exG (v := .bool false) (fun _ => trivial) (wanted_of (j := 2) (d := 22) (b := false) rfl rfl rfl) rfl (ex_gtr (k := .i64) (m := (fb.length : Int)) (n := 10) rfl rfl rfl (decide_eq_false hb5)) ?_
    simp only [Act.put, List.setIfInBounds_toArray, List.set_cons_succ, List.set_cons_zero]
    refine wpi_exG (v := .bool false) (fun _ => trivial) (wn rfl) rfl (ex_pick (b := false) rfl rfl rfl) ?_
    refine wpi_exG (v := .bool false) (fun _ => trivial) (wn rfl) rfl (ex_move rfl rfl) ?_
    refine wpi_exG (v := .slice a2 sb.length c2) (fun _ => trivial) (wanted_of (j := 7) (d := 27) (b := false) rfl rfl rfl) rfl (ex_move rfl rfl) ?_
    simp only [Act.put, List.setIfInBounds_toArray, List.set_cons_succ, List.set_cons_zero]
    refine wpi_exG (v := .int .i64 (sb.length : Int)) (fun _ => trivial) (wanted_of (j := 7) (d := 27) (b := false) rfl rfl rfl) rfl (ex_len0 Try.underlying24 rfl rfl) ?_
    by_cases hb8 : (sb.length : Int) > 10
    · refine wpi_exG (v := .bool true) (fun _ => trivial) (wanted_of (j := 7) (d := 27) (b := false) rfl rfl rfl) rfl (ex_gtr (k := .i64) (m := (sb.length : Int)) (n := 10) rfl rfl rfl (decide_eq_true hb8)) ?_
      refine wpi_exG (v := .bool true) (fun _ => trivial) (wn rfl) rfl (ex_pick (b := false) rfl rfl rfl) ?_
      simp only [Act.put, List.setIfInBounds_toArray, List.set_cons_succ, List.set_cons_zero]
      refine wpi_exG (v := .bool true) (fun _ => trivial) (wn rfl) rfl (ex_move rfl rfl) ?_
      refine wpi_not (fun _ => trivial) (wanted_not (j := 12) (d := 32) (b := false) (b' := true) rfl rfl rfl (by decide)) ?_
      refine wpi_not (fun _ => trivial) (wanted_not (j := 12) (d := 32) (b := false) (b' := true) rfl rfl rfl (by decide)) ?_
      simp only [Act.put, List.setIfInBounds_toArray, List.set_cons_succ, List.set_cons_zero]
      refine wpi_not (fun _ => trivial) (wanted_not (j := 12) (d := 32) (b := false) (b' := true) rfl rfl rfl (by decide)) ?_
      refine wpi_exG (v := .bool true) (fun _ => trivial) (wn rfl) rfl (ex_pick (b := true) rfl rfl rfl) ?_
      refine wpListIn_nil ?_
      simp only [Act.put, List.setIfInBounds_toArray, List.set_cons_succ, List.set_cons_zero]
      refine then_normal (hK3 _ _ ?_)
      clear hK3 K3
      refine wpIn_cond_true rfl ?_
      refine wpIn_seq_k (fun K9 hK9 => ?_)
      refine wpIn_region_lit ?_
      refine wpi_callG lscallable38 (fun _ => trivial) wideC rfl (wn rfl) rfl (args := #[]) (by simp only [List.map_toArray, List.map_nil]) ((lawAwake07 _ _ _ hv).mono ?_)
      rintro e w10 ⟨rfl, hv⟩
      refine ⟨_, rfl, ?_⟩
      refine wpi_exG (v := .bool true) (fun _ => trivial) (wn rfl) rfl (ex_assign rfl rfl) ?_
      refine wpListIn_nil ?_
      simp only [Act.put, List.setIfInBounds_toArray, List.set_cons_succ, List.set_cons_zero]
      refine then_normal (hK9 _ _ ?_)
      clear hK9 K9
      refine wpIn_ret ?_
      refine then_ret ?_
      clear hK2 K2
      refine bodyPost_ret (results_tmp rfl _ _ _) rfl ?_
      exact ⟨rfl, hv.tail 0⟩
    · refine wpi_exG (v := .bool false) (fun _ => trivial) (wanted_of (j := 7) (d := 27) (b := false) rfl rfl rfl) rfl (ex_gtr (k := .i64) (m := (sb.length : Int)) (n := 10) rfl rfl rfl (decide_eq_false hb8)) ?_
      refine wpi_exG (v := .bool false) (fun _ => trivial) (wn rfl) rfl (ex_pick (b := false) rfl rfl rfl) ?_
      simp only [Act.put, List.setIfInBounds_toArray, List.set_cons_succ, List.set_cons_zero]
      refine wpi_exG (v := .bool false) (fun _ => trivial) (wn rfl) rfl (ex_move rfl rfl) ?_
      refine wpi_exG (v := .slice a3 ks.length c3) (fun _ => trivial) (wanted_of (j := 12) (d := 32) (b := false) rfl rfl rfl) rfl (ex_move rfl rfl) ?_
      refine wpi_exG (v := .int .i64 (ks.length : Int)) (fun _ => trivial) (wanted_of (j := 12) (d := 32) (b := false) rfl rfl rfl) rfl (ex_len0 Try.underlying44 rfl rfl) ?_
      simp only [Act.put, List.setIfInBounds_toArray, List.set_cons_succ, List.set_cons_zero]
      by_cases hb11 : (ks.length : Int) > 40
      · refine wpi_exG (v := .bool true) (fun _ => trivial) (wanted_of (j := 12) (d := 32) (b := false) rfl rfl rfl) rfl (ex_gtr (k := .i64) (m := (ks.length : Int)) (n := 40) rfl rfl rfl (decide_eq_true hb11)) ?_
        refine wpi_exG (v := .bool true) (fun _ => trivial) (wn rfl) rfl (ex_pick (b := false) rfl rfl rfl) ?_
        refine wpListIn_nil ?_
        simp only [Act.put, List.setIfInBounds_toArray, List.set_cons_succ, List.set_cons_zero]
        refine then_normal (hK3 _ _ ?_)
        clear hK3 K3
        refine wpIn_cond_true rfl ?_
        refine wpIn_seq_k (fun K12 hK12 => ?_)
        refine wpIn_region_lit ?_
        refine wpi_callG lscallable38 (fun _ => trivial) wideC rfl (wn rfl) rfl (args := #[]) (by simp only [List.map_toArray, List.map_nil]) ((lawAwake07 _ _ _ hv).mono ?_)
        rintro e w13 ⟨rfl, hv⟩
        refine ⟨_, rfl, ?_⟩
        refine wpi_exG (v := .bool true) (fun _ => trivial) (wn rfl) rfl (ex_assign rfl rfl) ?_
        refine wpListIn_nil ?_
        simp only [Act.put, List.setIfInBounds_toArray, List.set_cons_succ, List.set_cons_zero]
        refine then_normal (hK12 _ _ ?_)
        clear hK12 K12
        refine wpIn_ret ?_
        refine then_ret ?_
        clear hK2 K2
        refine bodyPost_ret (results_tmp rfl _ _ _) rfl ?_
        exact ⟨rfl, hv.tail 0⟩
      · refine wpi_exG (v := .bool false) (fun _ => trivial) (wanted_of (j := 12) (d := 32) (b := false) rfl rfl rfl) rfl (ex_gtr (k := .i64) (m := (ks.length : Int)) (n := 40) rfl rfl rfl (decide_eq_false hb11)) ?_
        refine wpi_exG (v := .bool false) (fun _ => trivial) (wn rfl) rfl (ex_pick (b := false) rfl rfl rfl) ?_
        refine wpListIn_nil ?_
        simp only [Act.put, List.setIfInBounds_toArray, List.set_cons_succ, List.set_cons_zero]
        refine then_normal (hK3 _ _ ?_)
        clear hK3 K3
        refine wpIn_cond_false rfl ?_
        refine wpIn_skip ?_
        refine then_normal (hK2 _ _ ?_)
        clear hK2 K2
        refine wpIn_seq_k (fun K14 hK14 => ?_)
        refine wpIn_region_lit ?_
        refine wpi_callG lscallable21 (fun _ => trivial) wideC rfl (wn rfl) rfl (args := #[.int .i64 40]) (by simp only [List.map_toArray, List.map_cons, List.map_nil]; rfl) ((diskNewSl _ _ _ 40 (by omega) (by omega) hv).mono ?_)
        rintro e w17 ⟨p15, F16, rfl, hv⟩
        refine ⟨_, rfl, ?_⟩
        refine wpi_exG (v := .tuple #[.pointer (some ⟨p15, 0, none⟩), .int .i64 0]) (fun _ => trivial) (wn rfl) rfl (ex_move rfl rfl) ?_
        refine wpi_exG (v := .pointer (some ⟨p15, 0, none⟩)) (fun _ => trivial) (wn rfl) rfl (ex_extract rfl rfl rfl) ?_
        simp only [Act.put, List.setIfInBounds_toArray, List.set_cons_succ, List.set_cons_zero]
        refine wpi_exG (v := .int .i64 0) (fun _ => trivial) (wn rfl) rfl (ex_extract rfl rfl rfl) ?_
        refine wpi_exG (v := .pointer (some ⟨p15, 0, none⟩)) (fun _ => trivial) (wn rfl) rfl (ex_assign rfl rfl) ?_
        refine wpi_exG (v := .int .i64 0) (fun _ => trivial) (wn rfl) rfl (ex_assign rfl rfl) ?_
        refine wpListIn_nil ?_
        simp only [Act.put, List.setIfInBounds_toArray, List.set_cons_succ, List.set_cons_zero]
        refine then_normal (hK14 _ _ ?_)
        clear hK14 K14
        refine wpIn_seq_k (fun K18 hK18 => ?_)
        refine wpIn_seq_k (fun K19 hK19 => ?_)
        refine wpIn_region_lit ?_
        refine wpi_exG (v := .pointer (some ⟨p15, 0, none⟩)) (fun _ => trivial) (wn rfl) rfl (ex_move rfl rfl) ?_
        refine wpi_exG (v := .bool false) (fun _ => trivial) (wn rfl) rfl (ex_pisnil Try.underlying36 rfl rfl rfl rfl) ?_
        refine wpListIn_nil ?_
        simp only [Act.put, List.setIfInBounds_toArray, List.set_cons_succ, List.set_cons_zero]
        refine then_normal (hK19 _ _ ?_)
        clear hK19 K19
        refine wpIn_cond_false rfl ?_
        refine wpIn_skip ?_
        refine then_normal (hK18 _ _ ?_)
        clear hK18 K18
        refine wpIn_seq_k (fun K20 hK20 => ?_)
        refine wpIn_region_lit ?_
        refine wpi_exG (v := .pointer (some ⟨p15, 0, none⟩)) (fun _ => trivial) (wn rfl) rfl (ex_move rfl rfl) ?_
        refine wpi_callG lscallable39 (fun _ => trivial) wideC rfl (wn rfl) rfl (args := #[.pointer (some ⟨p15, 0, none⟩), .int .i64 0, .int .i64 40, .int .i64 0]) (by simp only [List.map_toArray, List.map_cons, List.map_nil]; rfl) ((logOpen _ _ _ p15 0 40 0 (Disk.zero 40) (Disk.zero 40) _ rfl (by show (0 : Nat) ≤ _; omega) (has_of (by omega) (by rw [lz_len]; omega)) (by show (-1 : Int) ≠ 0; decide) (by omega) (by omega) (by rw [lz_len]; omega) (by rw [lz_len]; omega) (by omega) hv).mono ?_)
        rintro e w31 ⟨C28, q21, us22, es23, ad24, c25, xs26, F27, hB29, hop, hstop, hun, hen30, rfl, hv⟩
        refine ⟨_, rfl, ?_⟩
        rw [lz_view] at hop hstop
        obtain ⟨rfl, rfl⟩ := open_all (lstate_zero 40).head hop hstop
        replace hfb := hfb.more hB29 (fun _ h => h)
        replace hsb := hsb.more hB29 (fun _ h => h)
        replace hks := hks.more hB29 (fun _ h => h)
        refine wpi_exG (v := .tuple #[.pointer (some ⟨q21, 0, none⟩), .slice ad24 0 c25, .int .i64 0]) (fun _ => trivial) (wn rfl) rfl (ex_move rfl rfl) ?_
        simp only [Act.put, List.setIfInBounds_toArray, List.set_cons_succ, List.set_cons_zero]
        refine wpi_exG (v := .pointer (some ⟨q21, 0, none⟩)) (fun _ => trivial) (wn rfl) rfl (ex_extract rfl rfl rfl) ?_
        refine wpi_exG (v := .slice ad24 0 c25) (fun _ => trivial) (wn rfl) rfl (ex_extract rfl rfl rfl) ?_
        refine wpi_exG (v := .int .i64 0) (fun _ => trivial) (wn rfl) rfl (ex_extract rfl rfl rfl) ?_
        simp only [Act.put, List.setIfInBounds_toArray, List.set_cons_succ, List.set_cons_zero]
        refine wpi_exG (v := .pointer (some ⟨q21, 0, none⟩)) (fun _ => trivial) (wn rfl) rfl (ex_assign rfl rfl) ?_
        refine wpi_exG (v := .slice ad24 0 c25) (fun _ => trivial) (wn rfl) rfl (ex_assign rfl rfl) ?_
        refine wpi_exG (v := .int .i64 0) (fun _ => trivial) (wn rfl) rfl (ex_assign rfl rfl) ?_
        refine wpListIn_nil ?_
        simp only [Act.put, List.setIfInBounds_toArray, List.set_cons_succ, List.set_cons_zero]
        refine then_normal (hK20 _ _ ?_)
        clear hK20 K20
        refine wpIn_seq_k (fun K32 hK32 => ?_)
        refine wpIn_seq_k (fun K33 hK33 => ?_)
        refine wpIn_region_lit ?_
        refine wpi_exG (v := .pointer (some ⟨q21, 0, none⟩)) (fun _ => trivial) (wn rfl) rfl (ex_move rfl rfl) ?_
        refine wpi_exG (v := .bool false) (fun _ => trivial) (wn rfl) rfl (ex_pisnil Try.underlying72 rfl rfl rfl rfl) ?_
        refine wpListIn_nil ?_
        simp only [Act.put, List.setIfInBounds_toArray, List.set_cons_succ, List.set_cons_zero]
        refine then_normal (hK33 _ _ ?_)
        clear hK33 K33
        refine wpIn_cond_false rfl ?_
        refine wpIn_skip ?_
        refine then_normal (hK32 _ _ ?_)
        clear hK32 K32
        refine wpIn_seq_k (fun K34 hK34 => ?_)
        refine wpIn_seq_k (fun K35 hK35 => ?_)
        refine wpIn_region_lit ?_
        refine wpi_exG (v := .int .i64 0) (fun _ => trivial) (wn rfl) rfl (ex_assign rfl rfl) ?_
        refine wpListIn_nil ?_
        simp only [Act.put, List.setIfInBounds_toArray, List.set_cons_succ, List.set_cons_zero]
        refine then_normal (hK35 _ _ ?_)
        clear hK35 K35
        refine wpIn_block ?_
        gi_loopw [12] (fun x12 wr => ∃ (i used last : Nat) (D : Disk) (F : List Nat) (sure : List (List UInt8)), x12 = .int .i64 (i : Int) ∧ i ≤ fb.length ∧ last ≤ i ∧ Going D used last 0 sure ∧ Inv C28 (Res.cell q21 [.pointer (some ⟨p15, 0, none⟩), .int .i64 ((0 : Nat) : Int), .int .i64 ((40 : Nat) : Int), .int .i64 (used : Int), .int .i64 (last : Int), .bool false] 111 :: diskR p15 D F :: H) wr) (fun x12 _ => fb.length - (intOf x12).toNat)
        case atStart => exact ⟨0, 0, 0, _, _, [], rfl, by omega, by omega, going_zero, (((hv.front 2 rfl).front 1 rfl).sub (List.Sublist.cons_cons _ (List.Sublist.cons_cons _ (List.Sublist.cons _ (List.Sublist.refl _)))))⟩
        case round =>
          obtain ⟨i, used, last, D, F, sure, rfl, hi, hli, hG, hv⟩ := hrel
          refine wpIn_seq_k (fun K37 hK37 => ?_)
          refine wpIn_seq_k (fun K38 hK38 => ?_)
          refine wpIn_region_lit ?_
          refine wpi_exG (v := .int .i64 (i : Int)) (fun _ => trivial) (wn rfl) rfl (ex_move rfl rfl) ?_
          refine wpi_exG (v := .slice a1 fb.length c1) (fun _ => trivial) (wn rfl) rfl (ex_move rfl rfl) ?_
          refine wpi_exG (v := .int .i64 (fb.length : Int)) (fun _ => trivial) (wn rfl) rfl (ex_len0 Try.underlying24 rfl rfl) ?_
          simp only [Act.put, List.setIfInBounds_toArray, List.set_cons_succ, List.set_cons_zero]
          by_cases hb39 : (i : Int) < (fb.length : Int)
          · refine wpi_exG (v := .bool true) (fun _ => trivial) (wn rfl) rfl (ex_lss (k := .i64) (m := (i : Int)) (n := (fb.length : Int)) rfl rfl rfl (decide_eq_true hb39)) ?_
            refine wpListIn_nil ?_
            simp only [Act.put, List.setIfInBounds_toArray, List.set_cons_succ, List.set_cons_zero]
            refine then_normal (hK38 _ _ ?_)
            clear hK38 K38
            refine wpIn_cond_true rfl ?_
            refine wpIn_skip ?_
            refine then_normal (hK37 _ _ ?_)
            clear hK37 K37
            refine wpIn_seq_k (fun K40 hK40 => ?_)
            refine wpIn_block ?_
            obtain ⟨k, hk9, hx9⟩ := byte_k fb i (by omega)
            obtain ⟨ab, aoff, rfl⟩ := rd_addr hfb hx9
            refine region_st mixed [.pointer (some ⟨q21, 0, none⟩), .pointer (some ⟨q21, 0, none⟩), .int .i64 (last : Int), .int .i64 ((last + 1 : Nat) : Int), .slice (some ⟨ab, aoff, none⟩) fb.length c1, .int .i64 (i : Int), .pointer (some ⟨ab, aoff + i, none⟩), .int .u8 (k : Int), .int .i64 (k : Int), undef, undef] [9, 10] [⟨fun vals w => vals = [] ∧ Inv C28 (Res.cell q21 [.pointer (some ⟨p15, 0, none⟩), .int .i64 ((0 : Nat) : Int), .int .i64 ((40 : Nat) : Int), .int .i64 (used : Int), .int .i64 (last : Int), .bool false] 111 :: diskR p15 D F :: H) w, fun _ _ _ ⟨h, hi⟩ he => ⟨h, hi.ext he⟩⟩, ⟨fun vals w => ∃ b41, vals = [.slice (some ⟨b41, 0, none⟩) k k] ∧ Inv C28 (Res.cell b41 (List.replicate k (Value.int .u8 0)) 5 :: Res.cell q21 [.pointer (some ⟨p15, 0, none⟩), .int .i64 ((0 : Nat) : Int), .int .i64 ((40 : Nat) : Int), .int .i64 (used : Int), .int .i64 (last : Int), .bool false] 111 :: diskR p15 D F :: H) w, fun _ _ _ ⟨b41, h, hi⟩ he => ⟨b41, h, hi.ext he⟩⟩, ⟨fun vals w => ∃ b41 F43, vals = [.slice (some ⟨b41, 0, none⟩) k k, .int .i64 (gE used (List.replicate k 0))] ∧ Inv C28 (Res.cell q21 [.pointer (some ⟨p15, 0, none⟩), .int .i64 ((0 : Nat) : Int), .int .i64 ((40 : Nat) : Int), .int .i64 (gU used (List.replicate k 0) : Int), .int .i64 (gL used last (List.replicate k 0) : Int), .bool false] 111 :: diskR p15 (gD D used last (List.replicate k 0)) F43 :: H) w, fun _ _ _ ⟨b41, F43, h, hi⟩ he => ⟨b41, F43, h, hi.ext he⟩⟩] 150 rfl (by kernel_rfl) ⟨rfl, hv⟩ ⟨?_, ?_, ?_, ?_, ?_, ?_, ?_, ?_, ?_, ?_, ?_, trivial⟩ ?_
            · intro aa ww vals hJ hR
              exact add_step' rfl (Ex.adds' (ex_move rfl (show aa.eval (.tmp 9) = _ from hR.keep 9 rfl)) (wn rfl) rfl)
            · intro aa ww vals hJ hR
              exact add_step' rfl (Ex.adds' (ex_move rfl (show aa.eval (.tmp 9) = _ from hR.keep 9 rfl)) (wn rfl) rfl)
            · intro aa ww vals hJ hR
              have h2 : vals.length ≤ 1 := hR.hi 10 (by simp) rfl
              rcases (show vals.length = 0 ∨ vals.length = 1 by omega) with hl | hl
              · obtain ⟨hvals, hv⟩ := hJ.at0 hl
                exact add_step' rfl (stepOk_calls lscallable41 (wn rfl) rfl (args := #[.pointer (some ⟨q21, 0, none⟩)]) (by simp only [List.map_toArray, List.map_cons, List.map_nil]; rw [show aa.eval (.tmp 59) = .pointer (some ⟨q21, 0, none⟩) from hR.v 1 59 rfl rfl rfl rfl] <;> rfl) ((logLastB (hv.get 0 rfl)).mono fun e w9 ⟨he, hw⟩ => ⟨_, he, by subst hw; exact Ext.rfl' _, rfl⟩))
              · obtain ⟨b41, hvals, hv⟩ := hJ.at0 hl
                exact add_step' rfl (stepOk_calls lscallable41 (wn rfl) rfl (args := #[.pointer (some ⟨q21, 0, none⟩)]) (by simp only [List.map_toArray, List.map_cons, List.map_nil]; rw [show aa.eval (.tmp 59) = .pointer (some ⟨q21, 0, none⟩) from hR.v 1 59 rfl rfl rfl rfl] <;> rfl) ((logLastB (hv.get 1 rfl)).mono fun e w9 ⟨he, hw⟩ => ⟨_, he, by subst hw; exact Ext.rfl' _, rfl⟩))
            · intro aa ww vals hJ hR
              exact add_step' rfl (Ex.adds' (ex_add (m := (last : Int)) (n := 1) rfl (show aa.eval (.tmp 60) = _ from hR.v 2 60 rfl rfl rfl rfl) rfl (by rw [i64_in (by omega)]; omega)) (wn rfl) rfl)
            · intro aa ww vals hJ hR
              exact add_step' rfl (Ex.adds' (ex_move rfl (show aa.eval (.tmp 0) = _ from hR.keep 0 rfl)) (wn rfl) rfl)
            · intro aa ww vals hJ hR
              exact add_step' rfl (Ex.adds' (ex_move rfl (show aa.eval (.tmp 12) = _ from hR.keep 12 rfl)) (wn rfl) rfl)
            · intro aa ww vals hJ hR
              exact add_step' rfl (Ex.adds' (ex_index rfl (show aa.eval (.tmp 62) = _ from hR.v 4 62 rfl rfl rfl rfl) (show aa.eval (.tmp 63) = _ from hR.v 5 63 rfl rfl rfl rfl) (run_idx1 (k := i) Try.underlying24 lses24 (by omega))) (wn rfl) rfl)
            · intro aa ww vals hJ hR
              have h2 : vals.length ≤ 0 := hR.hi 9 (by simp) rfl
              have hl : vals.length = 0 := by omega
              obtain ⟨hvals, hv⟩ := hJ.at0 hl
              exact add_step' rfl (Ex.adds' (ex_load rfl (show aa.eval (.tmp 64) = _ from hR.v 6 64 rfl rfl rfl rfl) (run_load1 lsna5 (rd_at hfb.any' hv hx9))) (wn rfl) rfl)
            · intro aa ww vals hJ hR
              exact add_step' rfl (Ex.adds' (ex_int (m := (k : Int)) Try.underlying5 Try.underlying3 rfl (show aa.eval (.tmp 65) = _ from hR.v 7 65 rfl rfl rfl rfl) (i64_in (by omega))) (wn rfl) rfl)
            · intro aa ww vals hJ hR
              refine mem_step' rfl fun hvl => ?_
              have hl : vals.length = 0 := hvl
              obtain ⟨hvals, hv⟩ := hJ.at0 hl
              refine mem_make1 (len := k) (cap := k) (wn rfl) rfl (show aa.eval (.tmp 66) = _ from hR.v 8 66 rfl rfl rfl rfl) (show aa.eval (.tmp 66) = _ from hR.v 8 66 rfl rfl rfl rfl) Try.underlying24 lsmk5 rfl (by omega) (by unfold maxLen; omega) (by omega) hv (fun b41 w42 hv => ?_)
              exact JS.next hl ⟨b41, by rw [hvals]; rfl, hv⟩
            · intro aa ww vals hJ hR
              refine mem_step' rfl fun hvl => ?_
              have hl : vals.length = 1 := hvl
              obtain ⟨b41, hvals, hv⟩ := hJ.at0 hl
              refine stepMem_calls lscallable40 (wn rfl) rfl (args := #[.pointer (some ⟨q21, 0, none⟩), .int .i64 ((last + 1 : Nat) : Int), .slice (some ⟨b41, 0, none⟩) k k]) (by simp only [List.map_toArray, List.map_cons, List.map_nil]; rw [show aa.eval (.tmp 58) = .pointer (some ⟨q21, 0, none⟩) from hR.v 0 58 rfl rfl rfl rfl, show aa.eval (.tmp 61) = .int .i64 ((last + 1 : Nat) : Int) from hR.v 3 61 rfl rfl rfl rfl, show aa.eval (.tmp 67) = .slice (some ⟨b41, 0, none⟩) k k from (hR.val 9 67 rfl rfl rfl).trans (by rw [hvals]; rfl)] <;> rfl) ((staleAppend0 _ _ _ q21 p15 used last 0 b41 D _ sure k hG (by omega) (by omega) hv).mono ?_)
              rintro e w44 ⟨F43, rfl, hv⟩
              refine ⟨_, rfl, JS.next hl ⟨b41, F43, by rw [hvals]; rfl, hv⟩⟩
            rintro w45 vals ⟨b41, F43, rfl, hv⟩
            rw [show mixV [9, 10] [.slice (some ⟨b41, 0, none⟩) k k, .int .i64 (gE used (List.replicate k 0))] 0 [.pointer (some ⟨q21, 0, none⟩), .pointer (some ⟨q21, 0, none⟩), .int .i64 (last : Int), .int .i64 ((last + 1 : Nat) : Int), .slice (some ⟨ab, aoff, none⟩) fb.length c1, .int .i64 (i : Int), .pointer (some ⟨ab, aoff + i, none⟩), .int .u8 (k : Int), .int .i64 (k : Int), undef, undef] = [.pointer (some ⟨q21, 0, none⟩), .pointer (some ⟨q21, 0, none⟩), .int .i64 (last : Int), .int .i64 ((last + 1 : Nat) : Int), .slice (some ⟨ab, aoff, none⟩) fb.length c1, .int .i64 (i : Int), .pointer (some ⟨ab, aoff + i, none⟩), .int .u8 (k : Int), .int .i64 (k : Int), .slice (some ⟨b41, 0, none⟩) k k, .int .i64 (gE used (List.replicate k 0))] from rfl]
            simp only [putAll, Act.put, List.setIfInBounds_toArray, List.set_cons_succ, List.set_cons_zero]
            refine blk_normal ?_
            refine then_normal (hK40 _ _ ?_)
            clear hK40 K40
            refine wpIn_region_lit ?_
            refine wpi_exG (v := .int .i64 (i : Int)) (fun _ => trivial) (wn rfl) rfl (ex_move rfl rfl) ?_
            refine wpi_exG (v := .int .i64 ((i : Int) + 1)) (fun _ => trivial) (wn rfl) rfl (ex_add (m := (i : Int)) (n := 1) rfl rfl rfl (i64_in (by omega))) ?_
            refine wpi_exG (v := .int .i64 ((i : Int) + 1)) (fun _ => trivial) (wn rfl) rfl (ex_assign rfl rfl) ?_
            refine wpListIn_nil ?_
            simp only [Act.put, List.setIfInBounds_toArray, List.set_cons_succ, List.set_cons_zero]
            refine then_normal ?_
            go_roundw
            case rel => 
                obtain ⟨sure2, hG2⟩ := hG.app (l := List.replicate k 0) (by rw [List.length_replicate]; omega) (by omega)
                have hgl := gL_le used last (List.replicate k 0)
                exact ⟨i + 1, gU used (List.replicate k 0), gL used last (List.replicate k 0), _, _, sure2, by simp, by omega, by omega, hG2, ((hv.front 1 rfl).front 1 rfl)⟩
            case measure => show fb.length - ((i : Int) + 1).toNat < fb.length - (i : Int).toNat; omega
          · refine wpi_exG (v := .bool false) (fun _ => trivial) (wn rfl) rfl (ex_lss (k := .i64) (m := (i : Int)) (n := (fb.length : Int)) rfl rfl rfl (decide_eq_false hb39)) ?_
            refine wpListIn_nil ?_
            simp only [Act.put, List.setIfInBounds_toArray, List.set_cons_succ, List.set_cons_zero]
            refine then_normal (hK38 _ _ ?_)
            clear hK38 K38
            refine wpIn_cond_false rfl ?_
            refine wpIn_exit ?_
            refine then_exit ?_
            clear hK37 K37
            refine then_exit ?_
            refine blk_hit ?_
            refine then_normal (hK34 _ _ ?_)
            clear hK34 K34
            refine wpIn_seq_k (fun K46 hK46 => ?_)
            refine wpIn_region_lit ?_
            refine wpi_exG (v := .pointer (some ⟨q21, 0, none⟩)) (fun _ => trivial) (wn rfl) rfl (ex_move rfl rfl) ?_
            refine wpi_callG lscallable41 (fun _ => trivial) wideC rfl (wn rfl) rfl (args := #[.pointer (some ⟨q21, 0, none⟩)]) (by simp only [List.map_toArray, List.map_cons, List.map_nil]; rfl) ((logLastB (hv.get 0 rfl)).mono ?_)
            rintro e w47 ⟨rfl, rfl⟩
            refine ⟨_, rfl, ?_⟩
            refine wpi_exG (v := .int .i64 (last : Int)) (fun _ => trivial) (wn rfl) rfl (ex_assign rfl rfl) ?_
            refine wpListIn_nil ?_
            simp only [Act.put, List.setIfInBounds_toArray, List.set_cons_succ, List.set_cons_zero]
            refine then_normal (hK46 _ _ ?_)
            clear hK46 K46
            refine wpIn_seq_k (fun K48 hK48 => ?_)
            refine wpIn_seq_k (fun K49 hK49 => ?_)
            refine wpIn_region_lit ?_
            refine wpi_exG (v := .pointer (some ⟨q21, 0, none⟩)) (fun _ => trivial) (wn rfl) rfl (ex_move rfl rfl) ?_
            refine wpi_exG (v := .int .i64 (last : Int)) (fun _ => trivial) (wn rfl) rfl (ex_move rfl rfl) ?_
            replace hv := hv.front 1 rfl
            simp only [List.eraseIdx_cons_succ, List.eraseIdx_cons_zero] at hv
            replace hv := hv.front 1 rfl
            simp only [List.eraseIdx_cons_succ, List.eraseIdx_cons_zero] at hv
            refine wpi_callG lscallable42 (fun _ => trivial) wideC rfl (wn rfl) rfl (args := #[.pointer (some ⟨q21, 0, none⟩), .int .i64 (last : Int)]) (by simp only [List.map_toArray, List.map_cons, List.map_nil]; rfl) ((logReset _ _ _ q21 p15 0 40 used last (by omega) hv).mono ?_)
            rintro e w50 ⟨rfl, hv⟩
            refine ⟨_, rfl, ?_⟩
            simp only [Act.put, List.setIfInBounds_toArray, List.set_cons_succ, List.set_cons_zero]
            refine wpi_exG (v := .bool false) (fun _ => trivial) (wn rfl) rfl (ex_neq (k := .i64) (m := 0) (n := 0) rfl rfl rfl (by decide)) ?_
            refine wpListIn_nil ?_
            simp only [Act.put, List.setIfInBounds_toArray, List.set_cons_succ, List.set_cons_zero]
            refine then_normal (hK49 _ _ ?_)
            clear hK49 K49
            refine wpIn_cond_false rfl ?_
            refine wpIn_skip ?_
            refine then_normal (hK48 _ _ ?_)
            clear hK48 K48
            refine wpIn_seq_k (fun K51 hK51 => ?_)
            refine wpIn_region_lit ?_
            refine wpi_exG (v := .int .i64 0) (fun _ => trivial) (wn rfl) rfl (ex_assign rfl rfl) ?_
            refine wpListIn_nil ?_
            simp only [Act.put, List.setIfInBounds_toArray, List.set_cons_succ, List.set_cons_zero]
            refine then_normal (hK51 _ _ ?_)
            clear hK51 K51
            refine wpIn_seq_k (fun K52 hK52 => ?_)
            refine wpIn_seq_k (fun K53 hK53 => ?_)
            refine wpIn_region_lit ?_
            refine wpi_exG (v := .int .i64 0) (fun _ => trivial) (wn rfl) rfl (ex_assign rfl rfl) ?_
            refine wpListIn_nil ?_
            simp only [Act.put, List.setIfInBounds_toArray, List.set_cons_succ, List.set_cons_zero]
            refine then_normal (hK53 _ _ ?_)
            clear hK53 K53
            refine wpIn_block ?_
            gi_loopw [14, 15] (fun x14 x15 wr => ∃ (i u la : Nat) (D' : Disk) (F' : List Nat), x14 = .int .i64 (i : Int) ∧ x15 = .int .i64 (i : Int) ∧ i ≤ sb.length ∧ u = 2 * i ∧ la = last + i ∧ Going D' u la last ((sb.take i).map fun c => [c]) ∧ Inv C28 (Res.cell q21 [.pointer (some ⟨p15, 0, none⟩), .int .i64 ((0 : Nat) : Int), .int .i64 ((40 : Nat) : Int), .int .i64 (u : Int), .int .i64 (la : Int), .bool false] 111 :: diskR p15 D' F' :: H) wr) (fun x14 x15 _ => sb.length - (intOf x15).toNat)
            case atStart => exact ⟨0, 0, last, _, _, rfl, rfl, by omega, by omega, by omega, hG.reset, ((hv.front 1 rfl).front 1 rfl)⟩
            case round =>
              obtain ⟨i, u, la, D', F', rfl, rfl, hi, hu, hla, hG', hv⟩ := hrel
              refine wpIn_seq_k (fun K55 hK55 => ?_)
              refine wpIn_seq_k (fun K56 hK56 => ?_)
              refine wpIn_region_lit ?_
              refine wpi_exG (v := .int .i64 (i : Int)) (fun _ => trivial) (wn rfl) rfl (ex_move rfl rfl) ?_
              refine wpi_exG (v := .slice a2 sb.length c2) (fun _ => trivial) (wn rfl) rfl (ex_move rfl rfl) ?_
              refine wpi_exG (v := .int .i64 (sb.length : Int)) (fun _ => trivial) (wn rfl) rfl (ex_len0 Try.underlying24 rfl rfl) ?_
              simp only [Act.put, List.setIfInBounds_toArray, List.set_cons_succ, List.set_cons_zero]
              by_cases hb57 : (i : Int) < (sb.length : Int)
              · refine wpi_exG (v := .bool true) (fun _ => trivial) (wn rfl) rfl (ex_lss (k := .i64) (m := (i : Int)) (n := (sb.length : Int)) rfl rfl rfl (decide_eq_true hb57)) ?_
                refine wpListIn_nil ?_
                simp only [Act.put, List.setIfInBounds_toArray, List.set_cons_succ, List.set_cons_zero]
                refine then_normal (hK56 _ _ ?_)
                clear hK56 K56
                refine wpIn_cond_true rfl ?_
                refine wpIn_skip ?_
                refine then_normal (hK55 _ _ ?_)
                clear hK55 K55
                refine wpIn_seq_k (fun K58 hK58 => ?_)
                refine wpIn_block ?_
                refine wpIn_seq_k (fun K59 hK59 => ?_)
                obtain ⟨c, hc9, hx9, hc255⟩ := byte_c sb i (by omega)
                obtain ⟨ab, aoff, rfl⟩ := rd_addr hsb hx9
                refine region_st mixed [.pointer (some ⟨q21, 0, none⟩), .pointer (some ⟨q21, 0, none⟩), .int .i64 (la : Int), .int .i64 ((la + 1 : Nat) : Int), .slice (some ⟨ab, aoff, none⟩) sb.length c2, .int .i64 (i : Int), .pointer (some ⟨ab, aoff + i, none⟩), .int .u8 (c.toNat : Int), undef, undef, .bool true] [8, 9] [⟨fun vals w => vals = [] ∧ Inv C28 (Res.cell q21 [.pointer (some ⟨p15, 0, none⟩), .int .i64 ((0 : Nat) : Int), .int .i64 ((40 : Nat) : Int), .int .i64 (u : Int), .int .i64 (la : Int), .bool false] 111 :: diskR p15 D' F' :: H) w, fun _ _ _ ⟨h, hi⟩ he => ⟨h, hi.ext he⟩⟩, ⟨fun vals w => ∃ b60, vals = [.slice (some ⟨b60, 0, none⟩) 1 1] ∧ Inv C28 (Res.cell b60 [.int .u8 (c.toNat : Int)] 5 :: Res.cell q21 [.pointer (some ⟨p15, 0, none⟩), .int .i64 ((0 : Nat) : Int), .int .i64 ((40 : Nat) : Int), .int .i64 (u : Int), .int .i64 (la : Int), .bool false] 111 :: diskR p15 D' F' :: H) w, fun _ _ _ ⟨b60, h, hi⟩ he => ⟨b60, h, hi.ext he⟩⟩, ⟨fun vals w => ∃ b60 F62, vals = [.slice (some ⟨b60, 0, none⟩) 1 1, .int .i64 0] ∧ Inv C28 (Res.cell q21 [.pointer (some ⟨p15, 0, none⟩), .int .i64 ((0 : Nat) : Int), .int .i64 ((40 : Nat) : Int), .int .i64 ((u + 2 : Nat) : Int), .int .i64 ((la + 1 : Nat) : Int), .bool false] 111 :: diskR p15 ((putAll' D' u (logText [c]) (logHdr (la + 1) [c])).2) F62 :: H) w, fun _ _ _ ⟨b60, F62, h, hi⟩ he => ⟨b60, F62, h, hi.ext he⟩⟩] 150 rfl (by kernel_rfl) ⟨rfl, hv⟩ ⟨?_, ?_, ?_, ?_, ?_, ?_, ?_, ?_, ?_, ?_, ?_, trivial⟩ ?_
                · intro aa ww vals hJ hR
                  exact add_step' rfl (Ex.adds' (ex_move rfl (show aa.eval (.tmp 9) = _ from hR.keep 9 rfl)) (wn rfl) rfl)
                · intro aa ww vals hJ hR
                  exact add_step' rfl (Ex.adds' (ex_move rfl (show aa.eval (.tmp 9) = _ from hR.keep 9 rfl)) (wn rfl) rfl)
                · intro aa ww vals hJ hR
                  have h2 : vals.length ≤ 1 := hR.hi 9 (by simp) rfl
                  rcases (show vals.length = 0 ∨ vals.length = 1 by omega) with hl | hl
                  · obtain ⟨hvals, hv⟩ := hJ.at0 hl
                    exact add_step' rfl (stepOk_calls lscallable41 (wn rfl) rfl (args := #[.pointer (some ⟨q21, 0, none⟩)]) (by simp only [List.map_toArray, List.map_cons, List.map_nil]; rw [show aa.eval (.tmp 82) = .pointer (some ⟨q21, 0, none⟩) from hR.v 1 82 rfl rfl rfl rfl] <;> rfl) ((logLastB (hv.get 0 rfl)).mono fun e w9 ⟨he, hw⟩ => ⟨_, he, by subst hw; exact Ext.rfl' _, rfl⟩))
                  · obtain ⟨b60, hvals, hv⟩ := hJ.at0 hl
                    exact add_step' rfl (stepOk_calls lscallable41 (wn rfl) rfl (args := #[.pointer (some ⟨q21, 0, none⟩)]) (by simp only [List.map_toArray, List.map_cons, List.map_nil]; rw [show aa.eval (.tmp 82) = .pointer (some ⟨q21, 0, none⟩) from hR.v 1 82 rfl rfl rfl rfl] <;> rfl) ((logLastB (hv.get 1 rfl)).mono fun e w9 ⟨he, hw⟩ => ⟨_, he, by subst hw; exact Ext.rfl' _, rfl⟩))
                · intro aa ww vals hJ hR
                  exact add_step' rfl (Ex.adds' (ex_add (m := (la : Int)) (n := 1) rfl (show aa.eval (.tmp 83) = _ from hR.v 2 83 rfl rfl rfl rfl) rfl (by rw [i64_in (by omega)]; omega)) (wn rfl) rfl)
                · intro aa ww vals hJ hR
                  exact add_step' rfl (Ex.adds' (ex_move rfl (show aa.eval (.tmp 1) = _ from hR.keep 1 rfl)) (wn rfl) rfl)
                · intro aa ww vals hJ hR
                  exact add_step' rfl (Ex.adds' (ex_move rfl (show aa.eval (.tmp 15) = _ from hR.keep 15 rfl)) (wn rfl) rfl)
                · intro aa ww vals hJ hR
                  exact add_step' rfl (Ex.adds' (ex_index rfl (show aa.eval (.tmp 85) = _ from hR.v 4 85 rfl rfl rfl rfl) (show aa.eval (.tmp 86) = _ from hR.v 5 86 rfl rfl rfl rfl) (run_idx1 (k := i) Try.underlying24 lses24 (by omega))) (wn rfl) rfl)
                · intro aa ww vals hJ hR
                  have h2 : vals.length ≤ 0 := hR.hi 8 (by simp) rfl
                  have hl : vals.length = 0 := by omega
                  obtain ⟨hvals, hv⟩ := hJ.at0 hl
                  exact add_step' rfl (Ex.adds' (ex_load rfl (show aa.eval (.tmp 87) = _ from hR.v 6 87 rfl rfl rfl rfl) (run_load1 lsna5 (rd_at hsb.any' hv hx9))) (wn rfl) rfl)
                · intro aa ww vals hJ hR
                  refine mem_step' rfl fun hvl => ?_
                  have hl : vals.length = 0 := hvl
                  obtain ⟨hvals, hv⟩ := hJ.at0 hl
                  refine mem_row1 (v := .int .u8 (c.toNat : Int)) (wn rfl) rfl (show aa.eval (.tmp 88) = _ from hR.v 7 88 rfl rfl rfl rfl) hv lsel24 rfl (fun b60 w61 hv => ?_)
                  exact JS.next hl ⟨b60, by rw [hvals]; rfl, hv⟩
                · intro aa ww vals hJ hR
                  refine mem_step' rfl fun hvl => ?_
                  have hl : vals.length = 1 := hvl
                  obtain ⟨b60, hvals, hv⟩ := hJ.at0 hl
                  refine stepMem_calls lscallable40 (wn rfl) rfl (args := #[.pointer (some ⟨q21, 0, none⟩), .int .i64 ((la + 1 : Nat) : Int), .slice (some ⟨b60, 0, none⟩) 1 1]) (by simp only [List.map_toArray, List.map_cons, List.map_nil]; rw [show aa.eval (.tmp 81) = .pointer (some ⟨q21, 0, none⟩) from hR.v 0 81 rfl rfl rfl rfl, show aa.eval (.tmp 84) = .int .i64 ((la + 1 : Nat) : Int) from hR.v 3 84 rfl rfl rfl rfl, show aa.eval (.tmp 89) = .slice (some ⟨b60, 0, none⟩) 1 1 from (hR.val 8 89 rfl rfl rfl).trans (by rw [hvals]; rfl)] <;> rfl) ((staleAppend1 _ _ _ q21 p15 u la last b60 D' _ _ c hG' (by omega) (by omega) hv).mono ?_)
                  rintro e w63 ⟨F62, rfl, hv⟩
                  refine ⟨_, rfl, JS.next hl ⟨b60, F62, by rw [hvals]; rfl, hv⟩⟩
                · intro aa ww vals hJ hR
                  have h1 : 1 < vals.length := hR.lo 9 (by simp) rfl
                  have hl : vals.length = 2 := by have := JS.le (n := 2) (by rfl) hJ; omega
                  obtain ⟨b60, F62, hvals, hv⟩ := hJ.at0 hl
                  exact add_step' rfl (Ex.adds' (ex_eql (k := .i64) (m := 0) (n := 0) rfl (show aa.eval (.tmp 90) = _ from (hR.val 9 90 rfl rfl rfl).trans (by rw [hvals]; rfl)) rfl (by decide)) (wn rfl) rfl)
                rintro w64 vals ⟨b60, F62, rfl, hv⟩
                rw [show mixV [8, 9] [.slice (some ⟨b60, 0, none⟩) 1 1, .int .i64 0] 0 [.pointer (some ⟨q21, 0, none⟩), .pointer (some ⟨q21, 0, none⟩), .int .i64 (la : Int), .int .i64 ((la + 1 : Nat) : Int), .slice (some ⟨ab, aoff, none⟩) sb.length c2, .int .i64 (i : Int), .pointer (some ⟨ab, aoff + i, none⟩), .int .u8 (c.toNat : Int), undef, undef, .bool true] = [.pointer (some ⟨q21, 0, none⟩), .pointer (some ⟨q21, 0, none⟩), .int .i64 (la : Int), .int .i64 ((la + 1 : Nat) : Int), .slice (some ⟨ab, aoff, none⟩) sb.length c2, .int .i64 (i : Int), .pointer (some ⟨ab, aoff + i, none⟩), .int .u8 (c.toNat : Int), .slice (some ⟨b60, 0, none⟩) 1 1, .int .i64 0, .bool true] from rfl]
                simp only [putAll, Act.put, List.setIfInBounds_toArray, List.set_cons_succ, List.set_cons_zero]
                refine then_normal (hK59 _ _ ?_)
                clear hK59 K59
                refine wpIn_cond_true rfl ?_
                refine wpIn_region_lit ?_
                refine wpi_exG (v := .int .i64 (i : Int)) (fun _ => trivial) (wn rfl) rfl (ex_move rfl rfl) ?_
                refine wpi_exG (v := .int .i64 ((i : Int) + 1)) (fun _ => trivial) (wn rfl) rfl (ex_add (m := (i : Int)) (n := 1) rfl rfl rfl (i64_in (by omega))) ?_
                refine wpi_exG (v := .int .i64 ((i : Int) + 1)) (fun _ => trivial) (wn rfl) rfl (ex_assign rfl rfl) ?_
                refine wpListIn_nil ?_
                simp only [Act.put, List.setIfInBounds_toArray, List.set_cons_succ, List.set_cons_zero]
                refine blk_normal ?_
                refine then_normal (hK58 _ _ ?_)
                clear hK58 K58
                refine wpIn_region_lit ?_
                refine wpi_exG (v := .int .i64 (i : Int)) (fun _ => trivial) (wn rfl) rfl (ex_move rfl rfl) ?_
                refine wpi_exG (v := .int .i64 ((i : Int) + 1)) (fun _ => trivial) (wn rfl) rfl (ex_add (m := (i : Int)) (n := 1) rfl rfl rfl (i64_in (by omega))) ?_
                refine wpi_exG (v := .int .i64 ((i : Int) + 1)) (fun _ => trivial) (wn rfl) rfl (ex_assign rfl rfl) ?_
                refine wpListIn_nil ?_
                simp only [Act.put, List.setIfInBounds_toArray, List.set_cons_succ, List.set_cons_zero]
                refine then_normal ?_
                go_roundw
                case rel => 
                    have hG2 := hG'.put (l := [c]) (by rw [List.length_singleton]; omega) (by omega) (by rw [secs_one]; omega)
                    rw [← ones_next hc9, secs_one] at hG2
                    exact ⟨i + 1, u + 2, la + 1, _, _, by simp, by simp, by omega, by omega, by omega, hG2, ((hv.front 1 rfl).front 1 rfl)⟩
                case measure => show sb.length - ((i : Int) + 1).toNat < sb.length - (i : Int).toNat; omega
              · refine wpi_exG (v := .bool false) (fun _ => trivial) (wn rfl) rfl (ex_lss (k := .i64) (m := (i : Int)) (n := (sb.length : Int)) rfl rfl rfl (decide_eq_false hb57)) ?_
                refine wpListIn_nil ?_
                simp only [Act.put, List.setIfInBounds_toArray, List.set_cons_succ, List.set_cons_zero]
                refine then_normal (hK56 _ _ ?_)
                clear hK56 K56
                refine wpIn_cond_false rfl ?_
                refine wpIn_exit ?_
                refine then_exit ?_
                clear hK55 K55
                refine then_exit ?_
                refine blk_hit ?_
                refine then_normal (hK52 _ _ ?_)
                clear hK52 K52
                refine wpIn_seq_k (fun K65 hK65 => ?_)
                refine wpIn_region_lit ?_
                refine wpi_exG (v := .pointer (some ⟨p15, 0, none⟩)) (fun _ => trivial) (wn rfl) rfl (ex_move rfl rfl) ?_
                refine wpi_exG (v := .slice a3 ks.length c3) (fun _ => trivial) (wn rfl) rfl (ex_move rfl rfl) ?_
                replace hv := hv.front 1 rfl
                simp only [List.eraseIdx_cons_succ, List.eraseIdx_cons_zero] at hv
                have hKH := stale_crash hG' (by omega) ks
                refine wpi_callG lscallable25 (fun _ => trivial) wideC rfl (wn rfl) rfl (args := #[.pointer (some ⟨p15, 0, none⟩), .slice a3 ks.length c3]) (by simp only [List.map_toArray, List.map_cons, List.map_nil]; rfl) ((diskCrashSl _ _ _ p15 _ _ _ _ _ ks hv (by rw [hG'.pend]; decide) rfl (by omega) hks.any' hkw).mono ?_)
                rintro e w67 ⟨F66, rfl, hv⟩
                refine ⟨_, rfl, ?_⟩
                refine wpListIn_nil ?_
                simp only [Act.put, List.setIfInBounds_toArray, List.set_cons_succ, List.set_cons_zero]
                refine then_normal (hK65 _ _ ?_)
                clear hK65 K65
                refine wpIn_seq_k (fun K68 hK68 => ?_)
                refine wpIn_region_lit ?_
                refine wpi_exG (v := .pointer (some ⟨p15, 0, none⟩)) (fun _ => trivial) (wn rfl) rfl (ex_move rfl rfl) ?_
                refine wpi_exG (v := .int .i64 (last : Int)) (fun _ => trivial) (wn rfl) rfl (ex_move rfl rfl) ?_
                refine wpi_callG lscallable39 (fun _ => trivial) wideC rfl (wn rfl) rfl (args := #[.pointer (some ⟨p15, 0, none⟩), .int .i64 0, .int .i64 40, .int .i64 (last : Int)]) (by simp only [List.map_toArray, List.map_cons, List.map_nil]; rfl) ((logOpen _ _ _ p15 0 40 last (D'.crash ks) (D'.crash ks) _ rfl (by show (0 : Nat) ≤ _; omega) (has_of (by omega) (by rw [hKH.len]; omega)) (by show (-1 : Int) ≠ 0; decide) (by omega) (by omega) (by rw [hKH.len]; omega) (by rw [hKH.len]; omega) (by omega) hv).mono ?_)
                rintro e w79 ⟨C76, q69, us70, es71, ad72, c73, xs74, F75, hB77, hop, hstop, hun, hen78, rfl, hv⟩
                refine ⟨_, rfl, ?_⟩
                rw [view_crash hKH] at hop hstop
                obtain ⟨hue, hse⟩ := open_all hKH hop hstop
                have hnn := congrArg List.length hse
                rw [List.length_map, List.length_take] at hnn
                rw [hse] at hen78
                have hii : i = sb.length := by omega
                rw [hii, List.take_length] at hen78
                replace hsb := hsb.more hB77 (fun _ h => h)
                simp only [Act.put, List.setIfInBounds_toArray, List.set_cons_succ, List.set_cons_zero]
                refine wpi_exG (v := .tuple #[.pointer (some ⟨q69, 0, none⟩), .slice ad72 es71.length c73, .int .i64 0]) (fun _ => trivial) (wn rfl) rfl (ex_move rfl rfl) ?_
                refine wpi_exG (v := .pointer (some ⟨q69, 0, none⟩)) (fun _ => trivial) (wn rfl) rfl (ex_extract rfl rfl rfl) ?_
                refine wpi_exG (v := .slice ad72 es71.length c73) (fun _ => trivial) (wn rfl) rfl (ex_extract rfl rfl rfl) ?_
                simp only [Act.put, List.setIfInBounds_toArray, List.set_cons_succ, List.set_cons_zero]
                refine wpi_exG (v := .int .i64 0) (fun _ => trivial) (wn rfl) rfl (ex_extract rfl rfl rfl) ?_
                refine wpi_exG (v := .pointer (some ⟨q69, 0, none⟩)) (fun _ => trivial) (wn rfl) rfl (ex_assign rfl rfl) ?_
                refine wpi_exG (v := .slice ad72 es71.length c73) (fun _ => trivial) (wn rfl) rfl (ex_assign rfl rfl) ?_
                simp only [Act.put, List.setIfInBounds_toArray, List.set_cons_succ, List.set_cons_zero]
                refine wpi_exG (v := .int .i64 0) (fun _ => trivial) (wn rfl) rfl (ex_assign rfl rfl) ?_
                refine wpListIn_nil ?_
                simp only [Act.put, List.setIfInBounds_toArray, List.set_cons_succ, List.set_cons_zero]
                refine then_normal (hK68 _ _ ?_)
                clear hK68 K68
                refine wpIn_seq_k (fun K80 hK80 => ?_)
                refine wpIn_seq_k (fun K81 hK81 => ?_)
                refine wpIn_region_lit ?_
                refine wpi_exG (v := .int .i64 0) (fun _ => trivial) (wn rfl) rfl (ex_move rfl rfl) ?_
                refine wpi_exG (v := .bool false) (fun _ => trivial) (wn rfl) rfl (ex_neq (k := .i64) (m := 0) (n := 0) rfl rfl rfl (by decide)) ?_
                refine wpi_exG (v := .bool false) (fun _ => trivial) (wn rfl) rfl (ex_move rfl rfl) ?_
                simp only [Act.put, List.setIfInBounds_toArray, List.set_cons_succ, List.set_cons_zero]
                refine wpi_exG (v := .slice ad72 es71.length c73) (fun _ => trivial) (wanted_of (j := 2) (d := 106) (b := false) rfl rfl rfl) rfl (ex_move rfl rfl) ?_
                refine wpi_exG (v := .int .i64 (es71.length : Int)) (fun _ => trivial) (wanted_of (j := 2) (d := 106) (b := false) rfl rfl rfl) rfl (ex_len0 Try.underlying73 rfl rfl) ?_
                refine wpi_exG (v := .int .i64 (i : Int)) (fun _ => trivial) (wanted_of (j := 2) (d := 106) (b := false) rfl rfl rfl) rfl (ex_move rfl rfl) ?_
                simp only [Act.put, List.setIfInBounds_toArray, List.set_cons_succ, List.set_cons_zero]
                refine wpi_exG (v := .bool false) (fun _ => trivial) (wanted_of (j := 2) (d := 106) (b := false) rfl rfl rfl) rfl (ex_neq (k := .i64) (m := (es71.length : Int)) (n := (i : Int)) rfl rfl rfl (decide_eq_false (by omega))) ?_
                refine wpi_exG (v := .bool false) (fun _ => trivial) (wn rfl) rfl (ex_pick (b := false) rfl rfl rfl) ?_
                refine wpListIn_nil ?_
                simp only [Act.put, List.setIfInBounds_toArray, List.set_cons_succ, List.set_cons_zero]
                refine then_normal (hK81 _ _ ?_)
                clear hK81 K81
                refine wpIn_cond_false rfl ?_
                refine wpIn_skip ?_
                refine then_normal (hK80 _ _ ?_)
                clear hK80 K80
                refine wpIn_seq_k (fun K82 hK82 => ?_)
                refine wpIn_seq_k (fun K83 hK83 => ?_)
                refine wpIn_region_lit ?_
                refine wpi_exG (v := .int .i64 0) (fun _ => trivial) (wn rfl) rfl (ex_assign rfl rfl) ?_
                refine wpListIn_nil ?_
                simp only [Act.put, List.setIfInBounds_toArray, List.set_cons_succ, List.set_cons_zero]
                refine then_normal (hK83 _ _ ?_)
                clear hK83 K83
                refine wpIn_block ?_
                replace hv := hv.front 1 rfl
                simp only [List.eraseIdx_cons_succ, List.eraseIdx_cons_zero] at hv
                obtain ⟨C84, hB85, hvx, hra, -, -⟩ := hv.rowBy
                clear hv
                have hv := hvx
                replace hsb := hsb.more hB85 (fun _ h => h)
                have hents := hen78.more hB85
                gi_loopw [19] (fun x19 wr => ∃ j : Nat, x19 = .int .i64 (j : Int) ∧ j ≤ sb.length ∧ Inv C84 (H) wr) (fun x19 _ => sb.length - (intOf x19).toNat)
                case atStart => exact ⟨0, rfl, by omega, hv.tail 3⟩
                case round =>
                  obtain ⟨j, rfl, hj, hv⟩ := hrel
                  refine wpIn_seq_k (fun K87 hK87 => ?_)
                  refine wpIn_seq_k (fun K88 hK88 => ?_)
                  refine wpIn_region_lit ?_
                  refine wpi_exG (v := .int .i64 (j : Int)) (fun _ => trivial) (wn rfl) rfl (ex_move rfl rfl) ?_
                  refine wpi_exG (v := .int .i64 (i : Int)) (fun _ => trivial) (wn rfl) rfl (ex_move rfl rfl) ?_
                  by_cases hb89 : (j : Int) < (i : Int)
                  · refine wpi_exG (v := .bool true) (fun _ => trivial) (wn rfl) rfl (ex_lss (k := .i64) (m := (j : Int)) (n := (i : Int)) rfl rfl rfl (decide_eq_true hb89)) ?_
                    refine wpListIn_nil ?_
                    simp only [Act.put, List.setIfInBounds_toArray, List.set_cons_succ, List.set_cons_zero]
                    refine then_normal (hK88 _ _ ?_)
                    clear hK88 K88
                    refine wpIn_cond_true rfl ?_
                    refine wpIn_skip ?_
                    refine then_normal (hK87 _ _ ?_)
                    clear hK87 K87
                    refine wpIn_seq_k (fun K90 hK90 => ?_)
                    refine wpIn_block ?_
                    refine wpIn_seq_k (fun K91 hK91 => ?_)
                    obtain ⟨c, hc9, hx9, hc255⟩ := byte_c sb j (by omega)
                    obtain ⟨ab, aoff, rfl⟩ := rd_addr hsb hx9
                    obtain ⟨ea, ec, ex1, ex2, hbb⟩ := ones_get hents hc9
                    obtain ⟨eb, eoff, rfl⟩ := rd_addr (i := 0) hbb rfl
                    obtain ⟨rb, roff, rfl⟩ := rd_addr hra ex1
                    refine region_st mixed [.slice (some ⟨rb, roff, none⟩) es71.length c73, .int .i64 (j : Int), .pointer (some ⟨rb, roff + j * 2, none⟩), .pointer (some ⟨rb, roff + j * 2, none⟩), .int .i64 ((last + j + 1 : Nat) : Int), .int .i64 (last : Int), .int .i64 ((last + 1 : Nat) : Int), .int .i64 (j : Int), .int .i64 ((last + j + 1 : Nat) : Int), .bool false, .bool false, .slice (some ⟨rb, roff, none⟩) es71.length c73, .int .i64 (j : Int), .pointer (some ⟨rb, roff + j * 2, none⟩), .pointer (some ⟨rb, roff + j * 2 + 1, none⟩), .slice (some ⟨eb, eoff, none⟩) 1 ec, .int .i64 1, .bool false, .bool false, .bool false, .slice (some ⟨rb, roff, none⟩) es71.length c73, .int .i64 (j : Int), .pointer (some ⟨rb, roff + j * 2, none⟩), .pointer (some ⟨rb, roff + j * 2 + 1, none⟩), .slice (some ⟨eb, eoff, none⟩) 1 ec, .pointer (some ⟨eb, eoff + 0, none⟩), .int .u8 (c.toNat : Int), .slice (some ⟨ab, aoff, none⟩) sb.length c2, .int .i64 (j : Int), .pointer (some ⟨ab, aoff + j, none⟩), .int .u8 (c.toNat : Int), .bool false, .bool false] [] [⟨fun vals w => vals = [] ∧ Inv C84 (H) w, fun _ _ _ ⟨h, hi⟩ he => ⟨h, hi.ext he⟩⟩] 150 rfl (by kernel_rfl) ⟨rfl, hv⟩ ⟨?_, ?_, ?_, ?_, ?_, ?_, ?_, ?_, ?_, ?_, ?_, ?_, ?_, ?_, ?_, ?_, ?_, ?_, ?_, ?_, ?_, ?_, ?_, ?_, ?_, ?_, ?_, ?_, ?_, ?_, ?_, ?_, ?_, trivial⟩ ?_
                    · intro aa ww vals hJ hR
                      exact add_step' rfl (Ex.adds' (ex_move rfl (show aa.eval (.tmp 17) = _ from hR.keep 17 rfl)) (wn rfl) rfl)
                    · intro aa ww vals hJ hR
                      exact add_step' rfl (Ex.adds' (ex_move rfl (show aa.eval (.tmp 19) = _ from hR.keep 19 rfl)) (wn rfl) rfl)
                    · intro aa ww vals hJ hR
                      exact add_step' rfl (Ex.adds' (ex_index rfl (show aa.eval (.tmp 117) = _ from hR.v 0 117 rfl rfl rfl rfl) (show aa.eval (.tmp 118) = _ from hR.v 1 118 rfl rfl rfl rfl) (run_idx (k := j) Try.underlying73 lses73 (by omega))) (wn rfl) rfl)
                    · intro aa ww vals hJ hR
                      exact add_step' rfl (Ex.adds' (ex_field rfl (show aa.eval (.tmp 119) = _ from hR.v 2 119 rfl rfl rfl rfl) (lsfa55_0 _ _ _)) (wn rfl) rfl)
                    · intro aa ww vals hJ hR
                      have hl : vals.length = 0 := by have := JS.le (n := 0) (by rfl) hJ; omega
                      obtain ⟨hvals, hv⟩ := hJ.at0 hl
                      exact add_step' rfl (Ex.adds' (ex_load rfl (show aa.eval (.tmp 120) = _ from hR.v 3 120 rfl rfl rfl rfl) (run_load1 lsna3 (rd_at hra.any' hv ex1))) (wn rfl) rfl)
                    · intro aa ww vals hJ hR
                      exact add_step' rfl (Ex.adds' (ex_move rfl (show aa.eval (.tmp 13) = _ from hR.keep 13 rfl)) (wn rfl) rfl)
                    · intro aa ww vals hJ hR
                      exact add_step' rfl (Ex.adds' (ex_add (m := (last : Int)) (n := 1) rfl (show aa.eval (.tmp 122) = _ from hR.v 5 122 rfl rfl rfl rfl) rfl (by rw [i64_in (by omega)]; omega)) (wn rfl) rfl)
                    · intro aa ww vals hJ hR
                      exact add_step' rfl (Ex.adds' (ex_move rfl (show aa.eval (.tmp 19) = _ from hR.keep 19 rfl)) (wn rfl) rfl)
                    · intro aa ww vals hJ hR
                      exact add_step' rfl (Ex.adds' (ex_add (m := ((last + 1 : Nat) : Int)) (n := (j : Int)) rfl (show aa.eval (.tmp 123) = _ from hR.v 6 123 rfl rfl rfl rfl) (show aa.eval (.tmp 124) = _ from hR.v 7 124 rfl rfl rfl rfl) (by rw [i64_in (by omega)]; omega)) (wn rfl) rfl)
                    · intro aa ww vals hJ hR
                      exact add_step' rfl (Ex.adds' (ex_neq (k := .i64) (m := ((last + j + 1 : Nat) : Int)) (n := ((last + j + 1 : Nat) : Int)) rfl (show aa.eval (.tmp 121) = _ from hR.v 4 121 rfl rfl rfl rfl) (show aa.eval (.tmp 125) = _ from hR.v 8 125 rfl rfl rfl rfl) (decide_eq_false (by omega))) (wn rfl) rfl)
                    · intro aa ww vals hJ hR
                      exact add_step' rfl (Ex.adds' (ex_move rfl (show aa.eval (.tmp 126) = _ from hR.v 9 126 rfl rfl rfl rfl)) (wn rfl) rfl)
                    · intro aa ww vals hJ hR
                      exact add_step' rfl (Ex.adds' (ex_move rfl (show aa.eval (.tmp 17) = _ from hR.keep 17 rfl)) (wanted_of (j := 10) (d := 127) (b := false) rfl rfl (hR.v 10 127 rfl rfl rfl rfl)) rfl)
                    · intro aa ww vals hJ hR
                      exact add_step' rfl (Ex.adds' (ex_move rfl (show aa.eval (.tmp 19) = _ from hR.keep 19 rfl)) (wanted_of (j := 10) (d := 127) (b := false) rfl rfl (hR.v 10 127 rfl rfl rfl rfl)) rfl)
                    · intro aa ww vals hJ hR
                      exact add_step' rfl (Ex.adds' (ex_index rfl (show aa.eval (.tmp 128) = _ from hR.v 11 128 rfl rfl rfl rfl) (show aa.eval (.tmp 129) = _ from hR.v 12 129 rfl rfl rfl rfl) (run_idx (k := j) Try.underlying73 lses73 (by omega))) (wanted_of (j := 10) (d := 127) (b := false) rfl rfl (hR.v 10 127 rfl rfl rfl rfl)) rfl)
                    · intro aa ww vals hJ hR
                      exact add_step' rfl (Ex.adds' (ex_field rfl (show aa.eval (.tmp 130) = _ from hR.v 13 130 rfl rfl rfl rfl) (lsfa55_1 _ _ _)) (wanted_of (j := 10) (d := 127) (b := false) rfl rfl (hR.v 10 127 rfl rfl rfl rfl)) rfl)
                    · intro aa ww vals hJ hR
                      have hl : vals.length = 0 := by have := JS.le (n := 0) (by rfl) hJ; omega
                      obtain ⟨hvals, hv⟩ := hJ.at0 hl
                      exact add_step' rfl (Ex.adds' (ex_load rfl (show aa.eval (.tmp 131) = _ from hR.v 14 131 rfl rfl rfl rfl) (run_load1 lsna24 (by have h9 := rd_at hra.any' hv ex2; rw [← Nat.add_assoc] at h9; exact h9))) (wanted_of (j := 10) (d := 127) (b := false) rfl rfl (hR.v 10 127 rfl rfl rfl rfl)) rfl)
                    · intro aa ww vals hJ hR
                      exact add_step' rfl (Ex.adds' (ex_len0 Try.underlying24 rfl (show aa.eval (.tmp 132) = _ from hR.v 15 132 rfl rfl rfl rfl)) (wanted_of (j := 10) (d := 127) (b := false) rfl rfl (hR.v 10 127 rfl rfl rfl rfl)) rfl)
                    · intro aa ww vals hJ hR
                      exact add_step' rfl (Ex.adds' (ex_neq (k := .i64) (m := 1) (n := 1) rfl (show aa.eval (.tmp 133) = _ from hR.v 16 133 rfl rfl rfl rfl) rfl (by decide)) (wanted_of (j := 10) (d := 127) (b := false) rfl rfl (hR.v 10 127 rfl rfl rfl rfl)) rfl)
                    · intro aa ww vals hJ hR
                      exact add_step' rfl (Ex.adds' (ex_pick (b := false) rfl (show aa.eval (.tmp 127) = _ from hR.v 10 127 rfl rfl rfl rfl) (show aa.eval (.tmp 134) = _ from hR.v 17 134 rfl rfl rfl rfl)) (wn rfl) rfl)
                    · intro aa ww vals hJ hR
                      exact add_step' rfl (Ex.adds' (ex_move rfl (show aa.eval (.tmp 135) = _ from hR.v 18 135 rfl rfl rfl rfl)) (wn rfl) rfl)
                    · intro aa ww vals hJ hR
                      exact add_step' rfl (Ex.adds' (ex_move rfl (show aa.eval (.tmp 17) = _ from hR.keep 17 rfl)) (wanted_of (j := 19) (d := 136) (b := false) rfl rfl (hR.v 19 136 rfl rfl rfl rfl)) rfl)
                    · intro aa ww vals hJ hR
                      exact add_step' rfl (Ex.adds' (ex_move rfl (show aa.eval (.tmp 19) = _ from hR.keep 19 rfl)) (wanted_of (j := 19) (d := 136) (b := false) rfl rfl (hR.v 19 136 rfl rfl rfl rfl)) rfl)
                    · intro aa ww vals hJ hR
                      exact add_step' rfl (Ex.adds' (ex_index rfl (show aa.eval (.tmp 137) = _ from hR.v 20 137 rfl rfl rfl rfl) (show aa.eval (.tmp 138) = _ from hR.v 21 138 rfl rfl rfl rfl) (run_idx (k := j) Try.underlying73 lses73 (by omega))) (wanted_of (j := 19) (d := 136) (b := false) rfl rfl (hR.v 19 136 rfl rfl rfl rfl)) rfl)
                    · intro aa ww vals hJ hR
                      exact add_step' rfl (Ex.adds' (ex_field rfl (show aa.eval (.tmp 139) = _ from hR.v 22 139 rfl rfl rfl rfl) (lsfa55_1 _ _ _)) (wanted_of (j := 19) (d := 136) (b := false) rfl rfl (hR.v 19 136 rfl rfl rfl rfl)) rfl)
                    · intro aa ww vals hJ hR
                      have hl : vals.length = 0 := by have := JS.le (n := 0) (by rfl) hJ; omega
                      obtain ⟨hvals, hv⟩ := hJ.at0 hl
                      exact add_step' rfl (Ex.adds' (ex_load rfl (show aa.eval (.tmp 140) = _ from hR.v 23 140 rfl rfl rfl rfl) (run_load1 lsna24 (by have h9 := rd_at hra.any' hv ex2; rw [← Nat.add_assoc] at h9; exact h9))) (wanted_of (j := 19) (d := 136) (b := false) rfl rfl (hR.v 19 136 rfl rfl rfl rfl)) rfl)
                    · intro aa ww vals hJ hR
                      exact add_step' rfl (Ex.adds' (ex_index rfl (show aa.eval (.tmp 141) = _ from hR.v 24 141 rfl rfl rfl rfl) rfl (run_idx1 (k := 0) Try.underlying24 lses24 (by omega))) (wanted_of (j := 19) (d := 136) (b := false) rfl rfl (hR.v 19 136 rfl rfl rfl rfl)) rfl)
                    · intro aa ww vals hJ hR
                      have hl : vals.length = 0 := by have := JS.le (n := 0) (by rfl) hJ; omega
                      obtain ⟨hvals, hv⟩ := hJ.at0 hl
                      exact add_step' rfl (Ex.adds' (ex_load rfl (show aa.eval (.tmp 142) = _ from hR.v 25 142 rfl rfl rfl rfl) (run_load1 lsna5 (rd_at hbb.any' hv (i := 0) rfl))) (wanted_of (j := 19) (d := 136) (b := false) rfl rfl (hR.v 19 136 rfl rfl rfl rfl)) rfl)
                    · intro aa ww vals hJ hR
                      exact add_step' rfl (Ex.adds' (ex_move rfl (show aa.eval (.tmp 1) = _ from hR.keep 1 rfl)) (wanted_of (j := 19) (d := 136) (b := false) rfl rfl (hR.v 19 136 rfl rfl rfl rfl)) rfl)
                    · intro aa ww vals hJ hR
                      exact add_step' rfl (Ex.adds' (ex_move rfl (show aa.eval (.tmp 19) = _ from hR.keep 19 rfl)) (wanted_of (j := 19) (d := 136) (b := false) rfl rfl (hR.v 19 136 rfl rfl rfl rfl)) rfl)
                    · intro aa ww vals hJ hR
                      exact add_step' rfl (Ex.adds' (ex_index rfl (show aa.eval (.tmp 144) = _ from hR.v 27 144 rfl rfl rfl rfl) (show aa.eval (.tmp 145) = _ from hR.v 28 145 rfl rfl rfl rfl) (run_idx1 (k := j) Try.underlying24 lses24 (by omega))) (wanted_of (j := 19) (d := 136) (b := false) rfl rfl (hR.v 19 136 rfl rfl rfl rfl)) rfl)
                    · intro aa ww vals hJ hR
                      have hl : vals.length = 0 := by have := JS.le (n := 0) (by rfl) hJ; omega
                      obtain ⟨hvals, hv⟩ := hJ.at0 hl
                      exact add_step' rfl (Ex.adds' (ex_load rfl (show aa.eval (.tmp 146) = _ from hR.v 29 146 rfl rfl rfl rfl) (run_load1 lsna5 (rd_at hsb.any' hv hx9))) (wanted_of (j := 19) (d := 136) (b := false) rfl rfl (hR.v 19 136 rfl rfl rfl rfl)) rfl)
                    · intro aa ww vals hJ hR
                      exact add_step' rfl (Ex.adds' (ex_neq (k := .u8) (m := (c.toNat : Int)) (n := (c.toNat : Int)) rfl (show aa.eval (.tmp 143) = _ from hR.v 26 143 rfl rfl rfl rfl) (show aa.eval (.tmp 147) = _ from hR.v 30 147 rfl rfl rfl rfl) (decide_eq_false (by omega))) (wanted_of (j := 19) (d := 136) (b := false) rfl rfl (hR.v 19 136 rfl rfl rfl rfl)) rfl)
                    · intro aa ww vals hJ hR
                      exact add_step' rfl (Ex.adds' (ex_pick (b := false) rfl (show aa.eval (.tmp 136) = _ from hR.v 19 136 rfl rfl rfl rfl) (show aa.eval (.tmp 148) = _ from hR.v 31 148 rfl rfl rfl rfl)) (wn rfl) rfl)
                    rintro w92 vals ⟨rfl, hv⟩
                    rw [show mixV [] [] 0 [.slice (some ⟨rb, roff, none⟩) es71.length c73, .int .i64 (j : Int), .pointer (some ⟨rb, roff + j * 2, none⟩), .pointer (some ⟨rb, roff + j * 2, none⟩), .int .i64 ((last + j + 1 : Nat) : Int), .int .i64 (last : Int), .int .i64 ((last + 1 : Nat) : Int), .int .i64 (j : Int), .int .i64 ((last + j + 1 : Nat) : Int), .bool false, .bool false, .slice (some ⟨rb, roff, none⟩) es71.length c73, .int .i64 (j : Int), .pointer (some ⟨rb, roff + j * 2, none⟩), .pointer (some ⟨rb, roff + j * 2 + 1, none⟩), .slice (some ⟨eb, eoff, none⟩) 1 ec, .int .i64 1, .bool false, .bool false, .bool false, .slice (some ⟨rb, roff, none⟩) es71.length c73, .int .i64 (j : Int), .pointer (some ⟨rb, roff + j * 2, none⟩), .pointer (some ⟨rb, roff + j * 2 + 1, none⟩), .slice (some ⟨eb, eoff, none⟩) 1 ec, .pointer (some ⟨eb, eoff + 0, none⟩), .int .u8 (c.toNat : Int), .slice (some ⟨ab, aoff, none⟩) sb.length c2, .int .i64 (j : Int), .pointer (some ⟨ab, aoff + j, none⟩), .int .u8 (c.toNat : Int), .bool false, .bool false] = [.slice (some ⟨rb, roff, none⟩) es71.length c73, .int .i64 (j : Int), .pointer (some ⟨rb, roff + j * 2, none⟩), .pointer (some ⟨rb, roff + j * 2, none⟩), .int .i64 ((last + j + 1 : Nat) : Int), .int .i64 (last : Int), .int .i64 ((last + 1 : Nat) : Int), .int .i64 (j : Int), .int .i64 ((last + j + 1 : Nat) : Int), .bool false, .bool false, .slice (some ⟨rb, roff, none⟩) es71.length c73, .int .i64 (j : Int), .pointer (some ⟨rb, roff + j * 2, none⟩), .pointer (some ⟨rb, roff + j * 2 + 1, none⟩), .slice (some ⟨eb, eoff, none⟩) 1 ec, .int .i64 1, .bool false, .bool false, .bool false, .slice (some ⟨rb, roff, none⟩) es71.length c73, .int .i64 (j : Int), .pointer (some ⟨rb, roff + j * 2, none⟩), .pointer (some ⟨rb, roff + j * 2 + 1, none⟩), .slice (some ⟨eb, eoff, none⟩) 1 ec, .pointer (some ⟨eb, eoff + 0, none⟩), .int .u8 (c.toNat : Int), .slice (some ⟨ab, aoff, none⟩) sb.length c2, .int .i64 (j : Int), .pointer (some ⟨ab, aoff + j, none⟩), .int .u8 (c.toNat : Int), .bool false, .bool false] from rfl]
                    simp only [putAll, Act.put, List.setIfInBounds_toArray, List.set_cons_succ, List.set_cons_zero]
                    refine then_normal (hK91 _ _ ?_)
                    clear hK91 K91
                    refine wpIn_cond_false rfl ?_
                    refine wpIn_skip ?_
                    refine blk_normal ?_
                    refine then_normal (hK90 _ _ ?_)
                    clear hK90 K90
                    refine wpIn_region_lit ?_
                    refine wpi_exG (v := .int .i64 (j : Int)) (fun _ => trivial) (wn rfl) rfl (ex_move rfl rfl) ?_
                    refine wpi_exG (v := .int .i64 ((j : Int) + 1)) (fun _ => trivial) (wn rfl) rfl (ex_add (m := (j : Int)) (n := 1) rfl rfl rfl (i64_in (by omega))) ?_
                    refine wpi_exG (v := .int .i64 ((j : Int) + 1)) (fun _ => trivial) (wn rfl) rfl (ex_assign rfl rfl) ?_
                    refine wpListIn_nil ?_
                    simp only [Act.put, List.setIfInBounds_toArray, List.set_cons_succ, List.set_cons_zero]
                    refine then_normal ?_
                    go_roundw
                    case rel => exact ⟨j + 1, by simp, by omega, hv⟩
                    case measure => show sb.length - ((j : Int) + 1).toNat < sb.length - (j : Int).toNat; omega
                  · refine wpi_exG (v := .bool false) (fun _ => trivial) (wn rfl) rfl (ex_lss (k := .i64) (m := (j : Int)) (n := (i : Int)) rfl rfl rfl (decide_eq_false hb89)) ?_
                    refine wpListIn_nil ?_
                    simp only [Act.put, List.setIfInBounds_toArray, List.set_cons_succ, List.set_cons_zero]
                    refine then_normal (hK88 _ _ ?_)
                    clear hK88 K88
                    refine wpIn_cond_false rfl ?_
                    refine wpIn_exit ?_
                    refine then_exit ?_
                    clear hK87 K87
                    refine then_exit ?_
                    refine blk_hit ?_
                    refine then_normal (hK82 _ _ ?_)
                    clear hK82 K82
                    refine wpIn_seq_k (fun K93 hK93 => ?_)
                    refine wpIn_region_lit ?_
                    refine wpi_exG (v := .bool true) (fun _ => trivial) (wn rfl) rfl (ex_assign rfl rfl) ?_
                    refine wpListIn_nil ?_
                    simp only [Act.put, List.setIfInBounds_toArray, List.set_cons_succ, List.set_cons_zero]
                    refine then_normal (hK93 _ _ ?_)
                    clear hK93 K93
                    refine wpIn_ret ?_
                    refine bodyPost_ret (results_tmp rfl _ _ _) rfl ?_
                    exact ⟨rfl, (hv.tail 0).weak ((hB29.trans hB77).trans hB85)⟩
end Go.Proofs.Ytkannfkjnohdlaa
/- LogStale, for every input: the law returns true and leaves what was there alone. -/
namespace Go.Proofs.Ytkannfkjnohdlaa.logStale
open Go.RowKit Go.WideShapes Go.ChangeShapes Go.ChangeAt Go.Pm
theorem own : ownKnob Try.prog.godebug = none := by kernel_rfl
theorem laidOut : laidOutB Try.prog = true := by kernel_rfl
theorem fits24 : Fits Try.prog 9 24 (.slice (.int .u8)) := ⟨5, Try.underlying24, by kernel_rfl, by decide, Try.underlying5⟩
theorem fits44 : Fits Try.prog 9 44 (.slice (.int .i64)) := ⟨3, Try.underlying44, by kernel_rfl, by decide, Try.underlying3⟩
set_option maxRecDepth 100000 in
theorem lifted (os : Os) (started : os.Started) (H : Type) (enc : TypeId × Value → H) :
    ReturnsInHanded {} Try.checked os 12 .any (Rows.logStaleSpec.pre6 enc Try.prog Try.f12 Rows.logStaleRow.domain false) (Rows.logStaleSpec.post enc Try.prog Try.f12 false true false false) := by
  refine returnsInHanded_of_change (C := Try.checked) own started (by kernel_rfl) Try.func12
    (ChangeSpec.witness6 (enc := enc) (C := Try.checked) false ⟨#[], #[.slice none 0 0, .slice none 0 0, .slice none 0 0], []⟩ 8 (by kernel_rfl) (by kernel_rfl) (by kernel_rfl) (by kernel_rfl)) ?_
  intro W base args ds gs before hval hW _ _
  have hW' : DataW.Whole enc Try.prog Try.f12.params.toList [] false W args.toList ds gs before := hW
  obtain ⟨p, q, hA, -⟩ := hW
  have hA : DataW.TrodAll enc Try.prog W 0 (fun _ => true) true Try.f12.params.toList args.toList ds p := hA
  have hval : ∀ (j : Nat) t v, Try.f12.params[j]? = some t → args[j]? = some v → Value.okWide Try.prog W .any base t v := hval
  rw [Try.params12] at hA hval
  obtain ⟨v0, vs0, d0, ds0, p0, q0, hargs, rfl, rfl, t0, r0⟩ := trodAll_cons hA
  obtain ⟨v1, vs1, d1, ds1, p1, q1, rfl, rfl, rfl, t1, r1⟩ := trodAll_cons r0
  obtain ⟨v2, vs2, d2, ds2, p2, q2, rfl, rfl, rfl, t2, r2⟩ := trodAll_cons r1
  obtain ⟨rfl, rfl, rfl⟩ := trodAll_nil r2
  obtain rfl : args = #[v0, v1, v2] := by cases args; simp_all
  refine law_post (s := Rows.logStaleSpec) laidOut (fun t ht => ?_) 4 rfl Try.underlying4 rfl rfl hW' ?_
  · rw [Try.params12] at ht
    revert t
    exact of_decide_eq_true (by kernel_rfl)
  obtain ⟨c0, x0, rfl, h0⟩ := arg_rep fits24 (hval 0 24 v0 rfl rfl) t0
  obtain ⟨c1, x1, rfl, h1⟩ := arg_rep fits24 (hval 1 24 v1 rfl rfl) t1
  obtain ⟨c2, x2, rfl, h2⟩ := arg_rep fits44 (hval 2 44 v2 rfl rfl) t2
  clear hval hW'
  obtain ⟨a, ca, rfl, hok, hb⟩ := rep_bytes.1 h0
  obtain ⟨b, cb, rfl, hok1, hb1⟩ := rep_bytes.1 h1
  obtain ⟨k, ck, rfl, hok2, hsrc, hw2⟩ := rep_ints h2
  refine (logStaleMain (Base.of W) [] W a b k ca cb ck x0 x1 x2 (rdV_of W hb.src) (rdV_of W hb1.src) (rdV_of W hsrc) hw2 (Inv.start W)).mono ?_
  rintro e w' ⟨he, hi⟩
  exact ⟨he, ext_of hi⟩
theorem holds : Rows.LogStaleSaid :=
  OpenClaim.holds_of_wide 12 Try.f12 rfl rfl rfl rfl rfl rfl rfl ⟨rfl, rfl, rfl, rfl, rfl⟩ rfl rfl rfl rfl rfl (by kernel_rfl) Try.func12 (by kernel_rfl)
    (of_decide_eq_true (by kernel_rfl)) (by unfold Func.isWrapper; rw [if_neg (of_decide_eq_false (by kernel_rfl))]; exact ⟨rfl, rfl⟩)
    (fun os started H enc _ => lifted os started H enc)
end Go.Proofs.Ytkannfkjnohdlaa.logStale
theorem Go.Proofs.Ytkannfkjnohdlaa.logStale_holds : Go.Proofs.Ytkannfkjnohdlaa.Rows.LogStaleSaid := Go.Proofs.Ytkannfkjnohdlaa.logStale.holds
