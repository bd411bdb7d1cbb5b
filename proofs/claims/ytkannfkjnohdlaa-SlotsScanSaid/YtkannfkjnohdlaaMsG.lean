/- pentimentoref06: the document's disk, as far as it is read and written here. -/
import Derived.Test.YtkannfkjnohdlaaMsF
import Derived.Test.YtkannfkjnohdlaaMsC
namespace Go.Proofs.Ytkannfkjnohdlaa
open Go.RowKit Go.Pm
def zsx : List UInt8 := List.replicate 64 0
def cutTo (l : List UInt8) (k : Nat) : List (List UInt8) := (List.range k).map (Disk.sector l)
theorem cutTo_succ (l : List UInt8) (k : Nat) : cutTo l (k + 1) = cutTo l k ++ [Disk.sector l k] := by
  unfold cutTo
  rw [List.range_succ, List.map_append]
  rfl
theorem one_str (l : List UInt8) : ∀ u ∈ [strV l], u.oneCell' = true := by
  intro u hu
  rw [List.mem_singleton.1 hu]
  rfl
theorem one_int (i : Int) : ∀ u ∈ [Value.int .i64 i], u.oneCell' = true := by
  intro u hu
  rw [List.mem_singleton.1 hu]
  rfl
def secTo (l : List UInt8) (k i : Nat) : List Value := ((l.drop (64 * k)).take i).map B8 ++ List.replicate (64 - i) (Value.int .u8 0)
theorem secTo_zero (l : List UInt8) (k : Nat) : secTo l k 0 = List.replicate 64 (Value.int .u8 0) := by simp [secTo]
theorem secTo_succ {l : List UInt8} {k i : Nat} (h : 64 * k + i < l.length) (hi : i < 64) : (secTo l k i).set i (B8 l[64 * k + i]) = secTo l k (i + 1) := by
  unfold secTo
  have hl : (((l.drop (64 * k)).take i).map B8).length = i := by simp; omega
  rw [List.set_append_right _ _ (by omega), hl, Nat.sub_self, show 64 - i = (64 - (i + 1)) + 1 by omega, List.replicate_succ, List.set_cons_zero, List.take_succ_eq_append_getElem (by simp; omega), List.map_append, List.append_assoc]
  simp
theorem secTo_end {l : List UInt8} {k i : Nat} (h : i = min 64 (l.length - 64 * k)) : secTo l k i = (Disk.sector l k).map B8 := by
  have e : (l.drop (64 * k)).take 64 = (l.drop (64 * k)).take i := by
    rw [h, ← List.length_drop, List.take_eq_take_min]
  have hl : ((l.drop (64 * k)).take i).length = i := by simp; omega
  unfold secTo Disk.sector Disk.pad
  rw [e, hl, List.map_append, List.map_replicate]
  rfl
theorem secTo_len {l : List UInt8} {k i : Nat} (h : i ≤ l.length - 64 * k) (hi : i ≤ 64) : (secTo l k i).length = 64 := by
  unfold secTo
  simp
  omega
theorem nsec_eq {l : List UInt8} {k : Nat} (h1 : k = 0 ∨ 64 * (k - 1) < l.length) (h2 : l.length - 64 * k = 0) : k = Disk.nsec l := by unfold Disk.nsec; omega
theorem secTo_set {l : List UInt8} {k i : Nat} {x : UInt8} (h : l[64 * k + i]? = some x) (hi : i < 64) : (secTo l k i).set i (B8 x) = secTo l k (i + 1) := by
  obtain ⟨h1, rfl⟩ := List.getElem?_eq_some_iff.1 h
  exact secTo_succ h1 hi
theorem drop_at {l : List UInt8} {k i : Nat} (h : i < l.length - 64 * k) : ∃ x, l[64 * k + i]? = some x ∧ ((l.drop (64 * k)).map B8)[i]? = some (.int .u8 (x.toNat : Int)) ∧ x.toNat ≤ 255 :=
  ⟨l[64 * k + i], List.getElem?_eq_getElem (by omega), by rw [List.getElem?_map, List.getElem?_drop, List.getElem?_eq_getElem (by omega)]; rfl, by have := l[64 * k + i].toNat_lt; omega⟩
theorem rd_tail {B : Base} {H : List Res} {ab aoff d : Nat} {xs : List Value} (h : RdV B H (some ⟨ab, aoff, none⟩) xs) : RdV B H (some ⟨ab, aoff + d, none⟩) (xs.drop d) := fun i hi => by
  rw [List.length_drop] at hi
  obtain ⟨b, off, h1, h2⟩ := h (d + i) (by omega)
  simp only [Option.some.injEq, Addr.mk.injEq, and_true] at h1
  obtain ⟨rfl, rfl⟩ := h1
  refine ⟨ab, aoff + d, rfl, ?_⟩
  rw [List.getElem_drop, Nat.add_assoc]
  exact h2
theorem rd_next {B : Base} {ab aoff N c r k : Nat} {l : List UInt8} {za : Option Addr} (h : RdV B [] (some ⟨ab, aoff, none⟩) ((l.drop (64 * k)).map B8)) (hr : r = l.length - 64 * k) (hN : N = 64 ∨ (N = r ∧ r < 64)) (hc : r ≤ c) (hz : N < c → za = some ⟨ab, aoff + N, none⟩) : RdV B [] za ((l.drop (64 * (k + 1))).map B8) := by
  by_cases he : l.length ≤ 64 * (k + 1)
  · rw [List.drop_eq_nil_of_le he]
    exact rdV_nil
  · have hN : N = 64 := by omega
    subst hN
    rw [hz (by omega), show 64 * (k + 1) = 64 * k + 64 by omega, ← List.drop_drop, List.map_drop]
    exact rd_tail h
theorem over_take {p : List (Nat × List UInt8)} {k i : Nat} {s : List UInt8} (hk : k < p.length) : Disk.over (p.take (k + 1)) i s = if p[k].1 = i then p[k].2 else Disk.over (p.take k) i s := by
  rw [List.take_succ_eq_append_getElem hk, Disk.over_snoc]

theorem r6fa99_0 (w : World) (b o : Nat) : (Instr.fieldAt 99 (.pointer (some ⟨b, o, none⟩)) 0).run Try.prog w = .ok (.pointer (some ⟨b, o + 0, none⟩)) w := by kernel_rfl
theorem r6na97 (w : World) : (isAgg 97).run Try.prog w = .ok false w := by kernel_rfl
theorem r6mk5 : (Try.prog.info? 5).map (fun i => (i.zero, i.size, i.bytes)) = some (some (.int .u8 0), 1, 1) := by kernel_rfl
theorem r6mk9 : (Try.prog.info? 9).map (fun i => (i.zero, i.size, i.bytes)) = some (some (.string ⟨([] : List UInt8).toArray⟩), 1, 16) := by kernel_rfl
theorem r6el97 : Elem Try.prog 97 9 (.string ⟨([] : List UInt8).toArray⟩) 1 16 := elem_of Try.underlying97 r6mk9 (by rfl) (by decide)
theorem r6sz97 : (Try.prog.info? 97).map (·.size) = some 1 := by kernel_rfl
set_option maxRecDepth 100000 in
set_option maxHeartbeats 2000000 in
theorem refNew (B : Base) (H : List Res) (w : World) (n : Nat) (hn : n ≤ 100000) (hv : Inv B H w) :
    Calls Try.prog 28 #[.int .i64 (n : Int)] w fun e w' => ∃ (p : Nat) (sa : Option Addr) (sc : Nat), e = .returned (.pointer (some ⟨p, 0, none⟩)) ∧ Inv B (Res.cell p [.slice sa n sc, .slice none 0 0, .slice none 0 0, .int .i64 (-1)] 99 :: Res.row 9 1 (.slice sa n sc) n (List.replicate n (strV zsx)) :: H) w' := by
  refine (callsIn_wide (n := 5)).1 ?_
  refine callsIn_of_wp Try.func28 rfl trivial ?_
  simp only [Try.ntmps28, List.size_toArray, List.length_cons, List.length_nil, Nat.reduceAdd, Nat.reduceSub, Array.replicate_succ, Array.replicate_zero, List.push_toArray, List.append_toArray, List.nil_append, List.cons_append]
  refine wpIn_seq_k (fun K1 hK1 => ?_)
  refine wpIn_region_lit ?_
  refine wpi_exG (v := .pointer none) (fun _ => trivial) (wn rfl) rfl (ex_assign rfl rfl) ?_
  refine wpListIn_nil ?_
  simp only [Act.put, List.setIfInBounds_toArray, List.set_cons_succ, List.set_cons_zero]
  refine then_normal (hK1 _ _ ?_)
  clear hK1 K1
  refine wpIn_seq_k (fun K2 hK2 => ?_)
  refine wpIn_region_lit ?_
  refine wpi_exG (v := .agg #[.slice none 0 0, .slice none 0 0, .slice none 0 0, .int .i64 (-1)]) (fun _ => trivial) (wn rfl) rfl (ex_buildN (vs := #[(3, .int .i64 (-1))]) rfl (by simp only [List.map_toArray, List.map_cons, List.map_nil]; rfl) (by kernel_rfl)) ?_
  refine sl_box (L := [.slice none 0 0, .slice none 0 0, .slice none 0 0, .int .i64 (-1)]) (fun _ => trivial) (wn rfl) rfl (p := .agg #[.slice none 0 0, .slice none 0 0, .slice none 0 0, .int .i64 (-1)]) rfl hv (fun w => by kernel_rfl) (fun b3 w4 hv => ?_)
  refine wpi_exG (v := .pointer (some ⟨b3, 0, none⟩)) (fun _ => trivial) (wn rfl) rfl (ex_assign rfl rfl) ?_
  refine wpListIn_nil ?_
  simp only [Act.put, List.setIfInBounds_toArray, List.set_cons_succ, List.set_cons_zero]
  refine then_normal (hK2 _ _ ?_)
  clear hK2 K2
  refine wpIn_seq_k (fun K5 hK5 => ?_)
  refine wpIn_seq_k (fun K6 hK6 => ?_)
  refine wpIn_region_lit ?_
  refine wpi_exG (v := .int .i64 0) (fun _ => trivial) (wn rfl) rfl (ex_assign rfl rfl) ?_
  refine wpListIn_nil ?_
  simp only [Act.put, List.setIfInBounds_toArray, List.set_cons_succ, List.set_cons_zero]
  refine then_normal (hK6 _ _ ?_)
  clear hK6 K6
  refine wpIn_block ?_
  gi_loopw [4] (fun x4 wr => ∃ (i : Nat) (sa : Option Addr) (sc : Nat), x4 = .int .i64 (i : Int) ∧ i ≤ n ∧ Inv B (Res.cell b3 [.slice sa i sc, .slice none 0 0, .slice none 0 0, .int .i64 (-1)] 99 :: Res.row 9 1 (.slice sa i sc) i (List.replicate i (strV zsx)) :: H) wr) (fun x4 _ => n - (intOf x4).toNat)
  case atStart => exact ⟨0, none, 0, rfl, by omega, ((hv.rowNil 9 1).front 1 rfl)⟩
  case round =>
    obtain ⟨i, sa, sc, rfl, hi, hv⟩ := hrel
    refine wpIn_seq_k (fun K8 hK8 => ?_)
    refine wpIn_seq_k (fun K9 hK9 => ?_)
    refine wpIn_region_lit ?_
    refine wpi_exG (v := .int .i64 (i : Int)) (fun _ => trivial) (wn rfl) rfl (ex_move rfl rfl) ?_
    refine wpi_exG (v := .int .i64 (n : Int)) (fun _ => trivial) (wn rfl) rfl (ex_move rfl rfl) ?_
    by_cases hb10 : (i : Int) < (n : Int)
    · refine wpi_exG (v := .bool true) (fun _ => trivial) (wn rfl) rfl (ex_lss (k := .i64) (m := (i : Int)) (n := (n : Int)) rfl rfl rfl (decide_eq_true hb10)) ?_
      refine wpListIn_nil ?_
      simp only [Act.put, List.setIfInBounds_toArray, List.set_cons_succ, List.set_cons_zero]
      refine then_normal (hK9 _ _ ?_)
      clear hK9 K9
      refine wpIn_cond_true rfl ?_
      refine wpIn_skip ?_
      refine then_normal (hK8 _ _ ?_)
      clear hK8 K8
      refine wpIn_seq_k (fun K11 hK11 => ?_)
      refine wpIn_block ?_
      refine region_st mixed [.pointer (some ⟨b3, 0, none⟩), .pointer (some ⟨b3, 0, none⟩), .pointer (some ⟨b3, 0, none⟩), .pointer (some ⟨b3, 0, none⟩), .slice sa i sc, undef, .string ⟨(List.replicate 64 (0 : UInt8)).toArray⟩, undef, undef, .pointer (some ⟨b3, 0, none⟩), .pointer (some ⟨b3, 0, none⟩), undef] [5, 7, 8, 11] [⟨fun vals w => vals = [] ∧ Inv B (Res.cell b3 [.slice sa i sc, .slice none 0 0, .slice none 0 0, .int .i64 (-1)] 99 :: Res.row 9 1 (.slice sa i sc) i (List.replicate i (strV zsx)) :: H) w, fun _ _ _ ⟨h, hi⟩ he => ⟨h, hi.ext he⟩⟩, ⟨fun vals w => ∃ b12, vals = [.slice (some ⟨b12, 0, none⟩) 64 64] ∧ Inv B (Res.cell b12 (List.replicate 64 (Value.int .u8 0)) 5 :: Res.cell b3 [.slice sa i sc, .slice none 0 0, .slice none 0 0, .int .i64 (-1)] 99 :: Res.row 9 1 (.slice sa i sc) i (List.replicate i (strV zsx)) :: H) w, fun _ _ _ ⟨b12, h, hi⟩ he => ⟨b12, h, hi.ext he⟩⟩, ⟨fun vals w => ∃ b12 b14, vals = [.slice (some ⟨b12, 0, none⟩) 64 64, .slice (some ⟨b14, 0, none⟩) 1 1] ∧ Inv B (Res.cell b14 [.string ⟨(List.replicate 64 (0 : UInt8)).toArray⟩] 9 :: Res.cell b12 (List.replicate 64 (Value.int .u8 0)) 5 :: Res.cell b3 [.slice sa i sc, .slice none 0 0, .slice none 0 0, .int .i64 (-1)] 99 :: Res.row 9 1 (.slice sa i sc) i (List.replicate i (strV zsx)) :: H) w, fun _ _ _ ⟨b12, b14, h, hi⟩ he => ⟨b12, b14, h, hi.ext he⟩⟩, ⟨fun vals w => ∃ b12 b14 va16 vc17, vals = [.slice (some ⟨b12, 0, none⟩) 64 64, .slice (some ⟨b14, 0, none⟩) 1 1, .slice va16 (i + 1) vc17] ∧ Inv B (Res.row 9 1 (.slice va16 (i + 1) vc17) (i + 1) ((List.replicate i (strV zsx)) ++ [strV zsx]) :: Res.cell b14 [.string ⟨(List.replicate 64 (0 : UInt8)).toArray⟩] 9 :: Res.cell b12 (List.replicate 64 (Value.int .u8 0)) 5 :: Res.cell b3 [.slice sa i sc, .slice none 0 0, .slice none 0 0, .int .i64 (-1)] 99 :: H) w, fun _ _ _ ⟨b12, b14, va16, vc17, h, hi⟩ he => ⟨b12, b14, va16, vc17, h, hi.ext he⟩⟩, ⟨fun vals w => ∃ b12 b14 va16 vc17, vals = [.slice (some ⟨b12, 0, none⟩) 64 64, .slice (some ⟨b14, 0, none⟩) 1 1, .slice va16 (i + 1) vc17, undef] ∧ Inv B (Res.row 9 1 (.slice va16 (i + 1) vc17) (i + 1) ((List.replicate i (strV zsx)) ++ [strV zsx]) :: Res.cell b14 [.string ⟨(List.replicate 64 (0 : UInt8)).toArray⟩] 9 :: Res.cell b12 (List.replicate 64 (Value.int .u8 0)) 5 :: Res.cell b3 [.slice va16 (i + 1) vc17, .slice none 0 0, .slice none 0 0, .int .i64 (-1)] 99 :: H) w, fun _ _ _ ⟨b12, b14, va16, vc17, h, hi⟩ he => ⟨b12, b14, va16, vc17, h, hi.ext he⟩⟩] 24 rfl (by kernel_rfl) ⟨rfl, hv⟩ ⟨?_, ?_, ?_, ?_, ?_, ?_, ?_, ?_, ?_, ?_, ?_, ?_, trivial⟩ ?_
      · intro aa ww vals hJ hR
        exact add_step' rfl (Ex.adds' (ex_move rfl (show aa.eval (.tmp 3) = _ from hR.keep 3 rfl)) (wn rfl) rfl)
      · intro aa ww vals hJ hR
        exact add_step' rfl (Ex.adds' (ex_move rfl (show aa.eval (.tmp 3) = _ from hR.keep 3 rfl)) (wn rfl) rfl)
      · intro aa ww vals hJ hR
        exact add_step' rfl (Ex.adds' (ex_nil rfl (show aa.eval (.tmp 13) = _ from hR.v 1 13 rfl rfl rfl rfl)) (wn rfl) rfl)
      · intro aa ww vals hJ hR
        exact add_step' rfl (Ex.adds' (ex_field rfl (show aa.eval (.tmp 14) = _ from hR.v 2 14 rfl rfl rfl rfl) (r6fa99_0 _ _ _)) (wn rfl) rfl)
      · intro aa ww vals hJ hR
        have h2 : vals.length ≤ 2 := hR.hi 8 (by simp) rfl
        rcases (show vals.length = 0 ∨ vals.length = 1 ∨ vals.length = 2 by omega) with hl | hl | hl
        · obtain ⟨hvals, hv⟩ := hJ.at0 hl
          exact add_step' rfl (Ex.adds' (ex_load rfl (show aa.eval (.tmp 15) = _ from hR.v 3 15 rfl rfl rfl rfl) (run_load1 r6na97 (hv.load 0 0 rfl rfl))) (wn rfl) rfl)
        · obtain ⟨b12, hvals, hv⟩ := hJ.at0 hl
          exact add_step' rfl (Ex.adds' (ex_load rfl (show aa.eval (.tmp 15) = _ from hR.v 3 15 rfl rfl rfl rfl) (run_load1 r6na97 (hv.load 1 0 rfl rfl))) (wn rfl) rfl)
        · obtain ⟨b12, b14, hvals, hv⟩ := hJ.at0 hl
          exact add_step' rfl (Ex.adds' (ex_load rfl (show aa.eval (.tmp 15) = _ from hR.v 3 15 rfl rfl rfl rfl) (run_load1 r6na97 (hv.load 2 0 rfl rfl))) (wn rfl) rfl)
      · intro aa ww vals hJ hR
        refine mem_step' rfl fun hvl => ?_
        have hl : vals.length = 0 := hvl
        obtain ⟨hvals, hv⟩ := hJ.at0 hl
        refine mem_make1 (len := 64) (cap := 64) (wn rfl) rfl rfl rfl Try.underlying24 r6mk5 rfl (by omega) (by unfold maxLen; omega) (by omega) hv (fun b12 w13 hv => ?_)
        exact JS.next hl ⟨b12, by rw [hvals]; rfl, hv⟩
      · intro aa ww vals hJ hR
        have h1 : 0 < vals.length := hR.lo 5 (by simp) rfl
        have h2 : vals.length ≤ 1 := hR.hi 7 (by simp) rfl
        have hl : vals.length = 1 := by omega
        obtain ⟨b12, hvals, hv⟩ := hJ.at0 hl
        exact add_step' rfl (Ex.adds' (ex_str Try.underlying24 Try.underlying5 Try.underlying9 rfl (show aa.eval (.tmp 17) = _ from (hR.val 5 17 rfl rfl rfl).trans (by rw [hvals]; rfl)) (bytes_rep (hv.get 0 rfl)) List.length_replicate) (wn rfl) rfl)
      · intro aa ww vals hJ hR
        refine mem_step' rfl fun hvl => ?_
        have hl : vals.length = 1 := hvl
        obtain ⟨b12, hvals, hv⟩ := hJ.at0 hl
        refine mem_row1 (v := .string ⟨(List.replicate 64 (0 : UInt8)).toArray⟩) (wn rfl) rfl (show aa.eval (.tmp 18) = _ from hR.v 6 18 rfl rfl rfl rfl) hv r6el97 rfl (fun b14 w15 hv => ?_)
        exact JS.next hl ⟨b12, b14, by rw [hvals]; rfl, hv⟩
      · intro aa ww vals hJ hR
        refine mem_step' rfl fun hvl => ?_
        have hl : vals.length = 2 := hvl
        obtain ⟨b12, b14, hvals, hv⟩ := hJ.at0 hl
        replace hv := hv.front 3 rfl
        simp only [List.eraseIdx_cons_succ, List.eraseIdx_cons_zero] at hv
        refine mem_append (news := [strV zsx]) (wn rfl) rfl (show aa.eval (.tmp 16) = _ from hR.v 4 16 rfl rfl rfl rfl) (show aa.eval (.tmp 19) = _ from (hR.val 7 19 rfl rfl rfl).trans (by rw [hvals]; rfl)) r6el97 hv (ok_full (by omega)) rfl (rd_all (hv.get 1 rfl)) (one_str _) (by unfold maxLen; omega) (by omega) (fun v w18 hv => ?_)
        obtain ⟨va16, vc17, rfl⟩ := row_slice hv.head
        exact JS.next hl ⟨b12, b14, va16, vc17, by rw [hvals]; rfl, hv⟩
      · intro aa ww vals hJ hR
        exact add_step' rfl (Ex.adds' (ex_nil rfl (show aa.eval (.tmp 12) = _ from hR.v 0 12 rfl rfl rfl rfl)) (wn rfl) rfl)
      · intro aa ww vals hJ hR
        exact add_step' rfl (Ex.adds' (ex_field rfl (show aa.eval (.tmp 21) = _ from hR.v 9 21 rfl rfl rfl rfl) (r6fa99_0 _ _ _)) (wn rfl) rfl)
      · intro aa ww vals hJ hR
        refine mem_step' rfl fun hvl => ?_
        have hl : vals.length = 3 := hvl
        obtain ⟨b12, b14, va16, vc17, hvals, hv⟩ := hJ.at0 hl
        refine mem_storeAt 3 (v := .slice va16 (i + 1) vc17) (L' := [.slice va16 (i + 1) vc17, .slice none 0 0, .slice none 0 0, .int .i64 (-1)]) (wn rfl) rfl (show aa.eval (.tmp 22) = _ from hR.v 10 22 rfl rfl rfl rfl) (show aa.eval (.tmp 20) = _ from (hR.val 8 20 rfl rfl rfl).trans (by rw [hvals]; rfl)) hv rfl r6sz97 (by simp) rfl rfl rfl (fun w19 hv => ?_)
        exact JS.next hl ⟨b12, b14, va16, vc17, by rw [hvals]; rfl, hv⟩
      rintro w20 vals ⟨b12, b14, va16, vc17, rfl, hv⟩
      rw [show mixV [5, 7, 8, 11] [.slice (some ⟨b12, 0, none⟩) 64 64, .slice (some ⟨b14, 0, none⟩) 1 1, .slice va16 (i + 1) vc17, undef] 0 [.pointer (some ⟨b3, 0, none⟩), .pointer (some ⟨b3, 0, none⟩), .pointer (some ⟨b3, 0, none⟩), .pointer (some ⟨b3, 0, none⟩), .slice sa i sc, undef, .string ⟨(List.replicate 64 (0 : UInt8)).toArray⟩, undef, undef, .pointer (some ⟨b3, 0, none⟩), .pointer (some ⟨b3, 0, none⟩), undef] = [.pointer (some ⟨b3, 0, none⟩), .pointer (some ⟨b3, 0, none⟩), .pointer (some ⟨b3, 0, none⟩), .pointer (some ⟨b3, 0, none⟩), .slice sa i sc, .slice (some ⟨b12, 0, none⟩) 64 64, .string ⟨(List.replicate 64 (0 : UInt8)).toArray⟩, .slice (some ⟨b14, 0, none⟩) 1 1, .slice va16 (i + 1) vc17, .pointer (some ⟨b3, 0, none⟩), .pointer (some ⟨b3, 0, none⟩), undef] from rfl]
      simp only [putAll, Act.put, List.setIfInBounds_toArray, List.set_cons_succ, List.set_cons_zero]
      refine blk_normal ?_
      refine then_normal (hK11 _ _ ?_)
      clear hK11 K11
      refine wpIn_region_lit ?_
      refine wpi_exG (v := .int .i64 (i : Int)) (fun _ => trivial) (wn rfl) rfl (ex_move rfl rfl) ?_
      refine wpi_exG (v := .int .i64 ((i : Int) + 1)) (fun _ => trivial) (wn rfl) rfl (ex_add (m := (i : Int)) (n := 1) rfl rfl rfl (i64_in (by omega))) ?_
      refine wpi_exG (v := .int .i64 ((i : Int) + 1)) (fun _ => trivial) (wn rfl) rfl (ex_assign rfl rfl) ?_
      refine wpListIn_nil ?_
      simp only [Act.put, List.setIfInBounds_toArray, List.set_cons_succ, List.set_cons_zero]
      refine then_normal ?_
      go_roundw
      case rel => exact ⟨i + 1, _, _, by simp, by omega, by rw [List.replicate_succ']; exact ((hv.front 3 rfl).sub (List.Sublist.cons_cons _ (List.Sublist.cons_cons _ (List.Sublist.cons _ (List.Sublist.cons _ (List.Sublist.refl _))))))⟩
      case measure => show n - ((i : Int) + 1).toNat < n - (i : Int).toNat; omega
    · refine wpi_exG (v := .bool false) (fun _ => trivial) (wn rfl) rfl (ex_lss (k := .i64) (m := (i : Int)) (n := (n : Int)) rfl rfl rfl (decide_eq_false hb10)) ?_
      refine wpListIn_nil ?_
      simp only [Act.put, List.setIfInBounds_toArray, List.set_cons_succ, List.set_cons_zero]
      refine then_normal (hK9 _ _ ?_)
      clear hK9 K9
      refine wpIn_cond_false rfl ?_
      refine wpIn_exit ?_
      refine then_exit ?_
      clear hK8 K8
      refine then_exit ?_
      refine blk_hit ?_
      refine then_normal (hK5 _ _ ?_)
      clear hK5 K5
      refine wpIn_seq_k (fun K21 hK21 => ?_)
      refine wpIn_region_lit ?_
      refine wpi_exG (v := .pointer (some ⟨b3, 0, none⟩)) (fun _ => trivial) (wn rfl) rfl (ex_move rfl rfl) ?_
      refine wpi_exG (v := .pointer (some ⟨b3, 0, none⟩)) (fun _ => trivial) (wn rfl) rfl (ex_assign rfl rfl) ?_
      refine wpListIn_nil ?_
      simp only [Act.put, List.setIfInBounds_toArray, List.set_cons_succ, List.set_cons_zero]
      refine then_normal (hK21 _ _ ?_)
      clear hK21 K21
      refine wpIn_ret ?_
      refine bodyPost_ret (results_tmp rfl _ _ _) rfl ?_
      obtain rfl : i = n := by omega
      exact ⟨_, _, _, rfl, ((hv.front 1 rfl).front 1 rfl)⟩
theorem r6es24 (w : World) : (sizeOf (Try.prog.elem 24)).run Try.prog w = .ok 1 w := by kernel_rfl
theorem r6na5 (w : World) : (isAgg 5).run Try.prog w = .ok false w := by kernel_rfl
theorem r6sz5 : (Try.prog.info? 5).map (·.size) = some 1 := by kernel_rfl
set_option maxRecDepth 100000 in
set_option maxHeartbeats 2000000 in
theorem refCut (B : Base) (H : List Res) (w : World) (a : Option Addr) (cap : Nat) (l : List UInt8) (hl : l.length ≤ 1000000) (hok : SliceOk a l.length cap) (hr : RdV B [] a (l.map B8)) (hv : Inv B H w) :
    Calls Try.prog 47 #[.slice a l.length cap] w fun e w' => ∃ (va : Option Addr) (vc : Nat), e = .returned (.slice va (Disk.nsec l) vc) ∧ Inv B (Res.row 9 1 (.slice va (Disk.nsec l) vc) (Disk.nsec l) ((cutTo l (Disk.nsec l)).map strV) :: H) w' := by
  refine (callsIn_wide (n := 5)).1 ?_
  refine callsIn_of_wp Try.func47 rfl trivial ?_
  simp only [Try.ntmps47, List.size_toArray, List.length_cons, List.length_nil, Nat.reduceAdd, Nat.reduceSub, Array.replicate_succ, Array.replicate_zero, List.push_toArray, List.append_toArray, List.nil_append, List.cons_append]
  refine wpIn_seq_k (fun K1 hK1 => ?_)
  refine wpIn_region_lit ?_
  refine wpi_exG (v := .slice none 0 0) (fun _ => trivial) (wn rfl) rfl (ex_assign rfl rfl) ?_
  refine wpListIn_nil ?_
  simp only [Act.put, List.setIfInBounds_toArray, List.set_cons_succ, List.set_cons_zero]
  refine then_normal (hK1 _ _ ?_)
  clear hK1 K1
  refine wpIn_seq_k (fun K2 hK2 => ?_)
  refine wpIn_region_lit ?_
  refine wpi_exG (v := .slice none 0 0) (fun _ => trivial) (wn rfl) rfl (ex_assign rfl rfl) ?_
  refine wpListIn_nil ?_
  simp only [Act.put, List.setIfInBounds_toArray, List.set_cons_succ, List.set_cons_zero]
  refine then_normal (hK2 _ _ ?_)
  clear hK2 K2
  refine wpIn_seq_k (fun K3 hK3 => ?_)
  refine wpIn_block ?_
  gi_loopw [0, 3] (fun x0 x3 wr => ∃ (k r : Nat) (a' : Option Addr) (c : Nat) (va : Option Addr) (vc : Nat), x0 = .slice a' r c ∧ x3 = .slice va k vc ∧ (k = 0 ∨ 64 * (k - 1) < l.length) ∧ r = l.length - 64 * k ∧ SliceOk a' r c ∧ RdV B [] a' ((l.drop (64 * k)).map B8) ∧ Inv B (Res.row 9 1 (.slice va k vc) k ((cutTo l k).map strV) :: H) wr) (fun x0 x3 _ => slLen x0)
  case atStart => exact ⟨0, l.length, a, cap, none, 0, rfl, rfl, .inl rfl, by omega, hok, hr, hv.rowNil 9 1⟩
  case round =>
    obtain ⟨k, r, a', c, va, vc, rfl, rfl, hk, hrr, hok2, hr2, hv⟩ := hrel
    refine wpIn_seq_k (fun K5 hK5 => ?_)
    refine wpIn_seq_k (fun K6 hK6 => ?_)
    refine wpIn_region_lit ?_
    refine wpi_exG (v := .slice a' r c) (fun _ => trivial) (wn rfl) rfl (ex_move rfl rfl) ?_
    refine wpi_exG (v := .int .i64 (r : Int)) (fun _ => trivial) (wn rfl) rfl (ex_len0 Try.underlying24 rfl rfl) ?_
    by_cases hb7 : (r : Int) > 0
    · obtain ⟨ab, aoff, rfl, -⟩ := hr2 0 (by rw [List.length_map, List.length_drop]; omega)
      skip
      refine wpi_exG (v := .bool true) (fun _ => trivial) (wn rfl) rfl (ex_gtr (k := .i64) (m := (r : Int)) (n := 0) rfl rfl rfl (decide_eq_true hb7)) ?_
      refine wpListIn_nil ?_
      simp only [Act.put, List.setIfInBounds_toArray, List.set_cons_succ, List.set_cons_zero]
      refine then_normal (hK6 _ _ ?_)
      clear hK6 K6
      refine wpIn_cond_true rfl ?_
      refine wpIn_skip ?_
      refine then_normal (hK5 _ _ ?_)
      clear hK5 K5
      refine wpIn_block ?_
      refine wpIn_seq_k (fun K8 hK8 => ?_)
      refine wpIn_region_lit ?_
      refine sl_make1 (len := 64) (cap := 64) (fun _ => trivial) (wn rfl) rfl rfl rfl Try.underlying24 r6mk5 rfl (by omega) (by unfold maxLen; omega) (by omega) hv (fun b9 w10 hv => ?_)
      refine wpi_exG (v := .slice (some ⟨b9, 0, none⟩) 64 64) (fun _ => trivial) (wn rfl) rfl (ex_assign rfl rfl) ?_
      refine wpListIn_nil ?_
      simp only [Act.put, List.setIfInBounds_toArray, List.set_cons_succ, List.set_cons_zero]
      refine then_normal (hK8 _ _ ?_)
      clear hK8 K8
      refine wpIn_seq_k (fun K11 hK11 => ?_)
      refine wpIn_region_lit ?_
      refine wpi_exG (v := .int .i64 64) (fun _ => trivial) (wn rfl) rfl (ex_assign rfl rfl) ?_
      refine wpListIn_nil ?_
      simp only [Act.put, List.setIfInBounds_toArray, List.set_cons_succ, List.set_cons_zero]
      refine then_normal (hK11 _ _ ?_)
      clear hK11 K11
      refine wpIn_seq_k (fun K12 hK12 => ?_)
      refine wpIn_seq_k (fun K13 hK13 => ?_)
      refine wpIn_region_lit ?_
      refine wpi_exG (v := .slice (some ⟨ab, aoff, none⟩) r c) (fun _ => trivial) (wn rfl) rfl (ex_move rfl rfl) ?_
      refine wpi_exG (v := .int .i64 (r : Int)) (fun _ => trivial) (wn rfl) rfl (ex_len0 Try.underlying24 rfl rfl) ?_
      by_cases hb14 : (r : Int) < 64
      · refine wpi_exG (v := .bool true) (fun _ => trivial) (wn rfl) rfl (ex_lss (k := .i64) (m := (r : Int)) (n := 64) rfl rfl rfl (decide_eq_true hb14)) ?_
        refine wpListIn_nil ?_
        simp only [Act.put, List.setIfInBounds_toArray, List.set_cons_succ, List.set_cons_zero]
        refine then_normal (hK13 _ _ ?_)
        clear hK13 K13
        refine wpIn_cond_true rfl ?_
        refine wpIn_region_lit ?_
        refine wpi_exG (v := .slice (some ⟨ab, aoff, none⟩) r c) (fun _ => trivial) (wn rfl) rfl (ex_move rfl rfl) ?_
        refine wpi_exG (v := .int .i64 (r : Int)) (fun _ => trivial) (wn rfl) rfl (ex_len0 Try.underlying24 rfl rfl) ?_
        refine wpi_exG (v := .int .i64 (r : Int)) (fun _ => trivial) (wn rfl) rfl (ex_assign rfl rfl) ?_
        refine wpListIn_nil ?_
        simp only [Act.put, List.setIfInBounds_toArray, List.set_cons_succ, List.set_cons_zero]
        refine then_normal (hK12 _ _ ?_)
        clear hK12 K12
        refine wpIn_seq_k (fun K15 hK15 => ?_)
        refine wpIn_seq_k (fun K16 hK16 => ?_)
        refine wpIn_region_lit ?_
        refine wpi_exG (v := .int .i64 0) (fun _ => trivial) (wn rfl) rfl (ex_assign rfl rfl) ?_
        refine wpListIn_nil ?_
        simp only [Act.put, List.setIfInBounds_toArray, List.set_cons_succ, List.set_cons_zero]
        refine then_normal (hK16 _ _ ?_)
        clear hK16 K16
        refine wpIn_block ?_
        gi_loopw [6] (fun x6 wr => ∃ i : Nat, x6 = .int .i64 (i : Int) ∧ i ≤ r ∧ Inv B (Res.cell b9 (secTo l k i) 5 :: Res.row 9 1 (.slice va k vc) k ((cutTo l k).map strV) :: H) wr) (fun x6 _ => r - (intOf x6).toNat)
        case atStart => exact ⟨0, rfl, by omega, by rw [secTo_zero]; exact hv⟩
        case round =>
          obtain ⟨i, rfl, hi, hv⟩ := hrel
          refine wpIn_seq_k (fun K18 hK18 => ?_)
          refine wpIn_seq_k (fun K19 hK19 => ?_)
          refine wpIn_region_lit ?_
          refine wpi_exG (v := .int .i64 (i : Int)) (fun _ => trivial) (wn rfl) rfl (ex_move rfl rfl) ?_
          refine wpi_exG (v := .int .i64 (r : Int)) (fun _ => trivial) (wn rfl) rfl (ex_move rfl rfl) ?_
          by_cases hb20 : (i : Int) < (r : Int)
          · refine wpi_exG (v := .bool true) (fun _ => trivial) (wn rfl) rfl (ex_lss (k := .i64) (m := (i : Int)) (n := (r : Int)) rfl rfl rfl (decide_eq_true hb20)) ?_
            refine wpListIn_nil ?_
            simp only [Act.put, List.setIfInBounds_toArray, List.set_cons_succ, List.set_cons_zero]
            refine then_normal (hK19 _ _ ?_)
            clear hK19 K19
            refine wpIn_cond_true rfl ?_
            refine wpIn_skip ?_
            refine then_normal (hK18 _ _ ?_)
            clear hK18 K18
            refine wpIn_seq_k (fun K21 hK21 => ?_)
            refine wpIn_block ?_
            obtain ⟨x, hx1, hx2, hx3⟩ := drop_at (l := l) (k := k) (i := i) (by omega)
            refine wpIn_region_lit ?_
            refine wpi_exG (v := .slice (some ⟨b9, 0, none⟩) 64 64) (fun _ => trivial) (wn rfl) rfl (ex_move rfl rfl) ?_
            refine wpi_exG (v := .int .i64 (i : Int)) (fun _ => trivial) (wn rfl) rfl (ex_move rfl rfl) ?_
            refine wpi_exG (v := .slice (some ⟨ab, aoff, none⟩) r c) (fun _ => trivial) (wn rfl) rfl (ex_move rfl rfl) ?_
            simp only [Act.put, List.setIfInBounds_toArray, List.set_cons_succ, List.set_cons_zero]
            refine wpi_exG (v := .int .i64 (i : Int)) (fun _ => trivial) (wn rfl) rfl (ex_move rfl rfl) ?_
            refine wpi_exG (v := .pointer (some ⟨ab, aoff + i, none⟩)) (fun _ => trivial) (wn rfl) rfl (ex_index rfl rfl rfl (run_idx1 (k := i) Try.underlying24 r6es24 (by omega))) ?_
            refine wpi_exG (v := .int .u8 (x.toNat : Int)) (fun _ => trivial) (wn rfl) rfl (ex_load rfl rfl (run_load1 r6na5 (rd_at hr2.any' hv hx2))) ?_
            simp only [Act.put, List.setIfInBounds_toArray, List.set_cons_succ, List.set_cons_zero]
            refine wpi_exG (v := .pointer (some ⟨b9, 0 + i, none⟩)) (fun _ => trivial) (wn rfl) rfl (ex_index rfl rfl rfl (run_idx1 (k := i) Try.underlying24 r6es24 (by omega))) ?_
            refine sl_storeAt 0 (v := B8 x) (L' := secTo l k (i + 1)) (fun _ => trivial) (wn rfl) rfl rfl rfl hv rfl r6sz5 (by rw [secTo_len (by omega) (by omega)]; omega) rfl rfl (by rw [Nat.zero_add]; exact secTo_set hx1 (by omega)) (fun w22 hv => ?_)
            simp only [List.set_cons_succ, List.set_cons_zero] at hv
            refine wpListIn_nil ?_
            simp only [Act.put, List.setIfInBounds_toArray, List.set_cons_succ, List.set_cons_zero]
            refine blk_normal ?_
            refine then_normal (hK21 _ _ ?_)
            clear hK21 K21
            refine wpIn_region_lit ?_
            refine wpi_exG (v := .int .i64 (i : Int)) (fun _ => trivial) (wn rfl) rfl (ex_move rfl rfl) ?_
            refine wpi_exG (v := .int .i64 ((i : Int) + 1)) (fun _ => trivial) (wn rfl) rfl (ex_add (m := (i : Int)) (n := 1) rfl rfl rfl (i64_in (by omega))) ?_
            refine wpi_exG (v := .int .i64 ((i : Int) + 1)) (fun _ => trivial) (wn rfl) rfl (ex_assign rfl rfl) ?_
            refine wpListIn_nil ?_
            simp only [Act.put, List.setIfInBounds_toArray, List.set_cons_succ, List.set_cons_zero]
            refine then_normal ?_
            go_roundw
            case rel => exact ⟨i + 1, by simp, by omega, hv⟩
            case measure => show r - ((i : Int) + 1).toNat < r - (i : Int).toNat; omega
          · refine wpi_exG (v := .bool false) (fun _ => trivial) (wn rfl) rfl (ex_lss (k := .i64) (m := (i : Int)) (n := (r : Int)) rfl rfl rfl (decide_eq_false hb20)) ?_
            refine wpListIn_nil ?_
            simp only [Act.put, List.setIfInBounds_toArray, List.set_cons_succ, List.set_cons_zero]
            refine then_normal (hK19 _ _ ?_)
            clear hK19 K19
            refine wpIn_cond_false rfl ?_
            refine wpIn_exit ?_
            refine then_exit ?_
            clear hK18 K18
            refine then_exit ?_
            refine blk_hit ?_
            refine then_normal (hK15 _ _ ?_)
            clear hK15 K15
            refine wpIn_seq_k (fun K23 hK23 => ?_)
            rw [secTo_end (l := l) (k := k) (i := i) (by omega)] at hv
            refine wpIn_region_lit ?_
            refine wpi_exG (v := .slice va k vc) (fun _ => trivial) (wn rfl) rfl (ex_move rfl rfl) ?_
            refine wpi_exG (v := .slice (some ⟨b9, 0, none⟩) 64 64) (fun _ => trivial) (wn rfl) rfl (ex_move rfl rfl) ?_
            refine wpi_exG (v := .string ⟨(Disk.sector l k).toArray⟩) (fun _ => trivial) (wn rfl) rfl (ex_str Try.underlying24 Try.underlying5 Try.underlying9 rfl rfl (bytes_own (k := 0) hv rfl) (Disk.sector_length _ _)) ?_
            simp only [Act.put, List.setIfInBounds_toArray, List.set_cons_succ, List.set_cons_zero]
            refine sl_rowOne (v := .string ⟨(Disk.sector l k).toArray⟩) (fun _ => trivial) (wn rfl) rfl rfl hv r6el97 rfl (fun b24 w25 hv => ?_)
            replace hv := hv.front 2 rfl
            simp only [List.eraseIdx_cons_succ, List.eraseIdx_cons_zero] at hv
            refine sl_append (news := [strV (Disk.sector l k)]) (fun _ => trivial) (wn rfl) rfl rfl rfl r6el97 hv (ok_full (by omega)) rfl (rd_all (hv.get 1 rfl)) (one_str _) (by unfold maxLen; omega) (by omega) (fun v26 w29 hv => ?_)
            obtain ⟨va27, vc28, rfl⟩ := row_slice hv.head
            refine wpi_exG (v := .slice va27 (k + 1) vc28) (fun _ => trivial) (wn rfl) rfl (ex_assign rfl rfl) ?_
            refine wpListIn_nil ?_
            simp only [Act.put, List.setIfInBounds_toArray, List.set_cons_succ, List.set_cons_zero]
            refine then_normal (hK23 _ _ ?_)
            clear hK23 K23
            refine wpIn_region_lit ?_
            refine wpi_exG (v := .slice (some ⟨ab, aoff, none⟩) r c) (fun _ => trivial) (wn rfl) rfl (ex_move rfl rfl) ?_
            refine wpi_exG (v := .int .i64 (r : Int)) (fun _ => trivial) (wn rfl) rfl (ex_move rfl rfl) ?_
            obtain ⟨za, hzs, hza, hzok⟩ := slice_from (ab := ab) (off := aoff) (len := r) (cap := c) (lo := r) (by omega) hok2.le hok2.max
            refine wpi_exG (v := .slice za (r - r) (c - r)) (fun _ => trivial) (wn rfl) rfl (ex_slice (lo' := some (.int .i64 (r : Int))) rfl rfl rfl rfl rfl (hzs _)) ?_
            simp only [Act.put, List.setIfInBounds_toArray, List.set_cons_succ, List.set_cons_zero]
            refine wpi_exG (v := .slice za (r - r) (c - r)) (fun _ => trivial) (wn rfl) rfl (ex_assign rfl rfl) ?_
            refine wpListIn_nil ?_
            simp only [Act.put, List.setIfInBounds_toArray, List.set_cons_succ, List.set_cons_zero]
            refine blk_normal ?_
            refine then_normal ?_
            go_roundw
            case rel => 
                  have hv9 := (hv.sub (List.Sublist.cons_cons _ (List.Sublist.cons _ (List.Sublist.cons _ (List.Sublist.refl _)))))
                  rw [← List.map_singleton, ← List.map_append, ← cutTo_succ] at hv9
                  exact ⟨k + 1, r - r, za, c - r, _, _, rfl, rfl, .inr (by rw [show 64 * (k + 1 - 1) = 64 * k by omega]; omega), by omega, hzok, rd_next hr2 hrr (by omega) hok2.le hza, hv9⟩
            case measure => show r - r < r; omega
      · refine wpi_exG (v := .bool false) (fun _ => trivial) (wn rfl) rfl (ex_lss (k := .i64) (m := (r : Int)) (n := 64) rfl rfl rfl (decide_eq_false hb14)) ?_
        refine wpListIn_nil ?_
        simp only [Act.put, List.setIfInBounds_toArray, List.set_cons_succ, List.set_cons_zero]
        refine then_normal (hK13 _ _ ?_)
        clear hK13 K13
        refine wpIn_cond_false rfl ?_
        refine wpIn_skip ?_
        refine then_normal (hK12 _ _ ?_)
        clear hK12 K12
        refine wpIn_seq_k (fun K30 hK30 => ?_)
        refine wpIn_seq_k (fun K31 hK31 => ?_)
        refine wpIn_region_lit ?_
        refine wpi_exG (v := .int .i64 0) (fun _ => trivial) (wn rfl) rfl (ex_assign rfl rfl) ?_
        refine wpListIn_nil ?_
        simp only [Act.put, List.setIfInBounds_toArray, List.set_cons_succ, List.set_cons_zero]
        refine then_normal (hK31 _ _ ?_)
        clear hK31 K31
        refine wpIn_block ?_
        gi_loopw [6] (fun x6 wr => ∃ i : Nat, x6 = .int .i64 (i : Int) ∧ i ≤ 64 ∧ Inv B (Res.cell b9 (secTo l k i) 5 :: Res.row 9 1 (.slice va k vc) k ((cutTo l k).map strV) :: H) wr) (fun x6 _ => 64 - (intOf x6).toNat)
        case atStart => exact ⟨0, rfl, by omega, by rw [secTo_zero]; exact hv⟩
        case round =>
          obtain ⟨i, rfl, hi, hv⟩ := hrel
          refine wpIn_seq_k (fun K33 hK33 => ?_)
          refine wpIn_seq_k (fun K34 hK34 => ?_)
          refine wpIn_region_lit ?_
          refine wpi_exG (v := .int .i64 (i : Int)) (fun _ => trivial) (wn rfl) rfl (ex_move rfl rfl) ?_
          refine wpi_exG (v := .int .i64 64) (fun _ => trivial) (wn rfl) rfl (ex_move rfl rfl) ?_
          by_cases hb35 : (i : Int) < 64
          · refine wpi_exG (v := .bool true) (fun _ => trivial) (wn rfl) rfl (ex_lss (k := .i64) (m := (i : Int)) (n := 64) rfl rfl rfl (decide_eq_true hb35)) ?_
            refine wpListIn_nil ?_
            simp only [Act.put, List.setIfInBounds_toArray, List.set_cons_succ, List.set_cons_zero]
            refine then_normal (hK34 _ _ ?_)
            clear hK34 K34
            refine wpIn_cond_true rfl ?_
            refine wpIn_skip ?_
            refine then_normal (hK33 _ _ ?_)
            clear hK33 K33
            refine wpIn_seq_k (fun K36 hK36 => ?_)
            refine wpIn_block ?_
            obtain ⟨x, hx1, hx2, hx3⟩ := drop_at (l := l) (k := k) (i := i) (by omega)
            refine wpIn_region_lit ?_
            refine wpi_exG (v := .slice (some ⟨b9, 0, none⟩) 64 64) (fun _ => trivial) (wn rfl) rfl (ex_move rfl rfl) ?_
            refine wpi_exG (v := .int .i64 (i : Int)) (fun _ => trivial) (wn rfl) rfl (ex_move rfl rfl) ?_
            refine wpi_exG (v := .slice (some ⟨ab, aoff, none⟩) r c) (fun _ => trivial) (wn rfl) rfl (ex_move rfl rfl) ?_
            simp only [Act.put, List.setIfInBounds_toArray, List.set_cons_succ, List.set_cons_zero]
            refine wpi_exG (v := .int .i64 (i : Int)) (fun _ => trivial) (wn rfl) rfl (ex_move rfl rfl) ?_
            refine wpi_exG (v := .pointer (some ⟨ab, aoff + i, none⟩)) (fun _ => trivial) (wn rfl) rfl (ex_index rfl rfl rfl (run_idx1 (k := i) Try.underlying24 r6es24 (by omega))) ?_
            refine wpi_exG (v := .int .u8 (x.toNat : Int)) (fun _ => trivial) (wn rfl) rfl (ex_load rfl rfl (run_load1 r6na5 (rd_at hr2.any' hv hx2))) ?_
            simp only [Act.put, List.setIfInBounds_toArray, List.set_cons_succ, List.set_cons_zero]
            refine wpi_exG (v := .pointer (some ⟨b9, 0 + i, none⟩)) (fun _ => trivial) (wn rfl) rfl (ex_index rfl rfl rfl (run_idx1 (k := i) Try.underlying24 r6es24 (by omega))) ?_
            refine sl_storeAt 0 (v := B8 x) (L' := secTo l k (i + 1)) (fun _ => trivial) (wn rfl) rfl rfl rfl hv rfl r6sz5 (by rw [secTo_len (by omega) (by omega)]; omega) rfl rfl (by rw [Nat.zero_add]; exact secTo_set hx1 (by omega)) (fun w37 hv => ?_)
            simp only [List.set_cons_succ, List.set_cons_zero] at hv
            refine wpListIn_nil ?_
            simp only [Act.put, List.setIfInBounds_toArray, List.set_cons_succ, List.set_cons_zero]
            refine blk_normal ?_
            refine then_normal (hK36 _ _ ?_)
            clear hK36 K36
            refine wpIn_region_lit ?_
            refine wpi_exG (v := .int .i64 (i : Int)) (fun _ => trivial) (wn rfl) rfl (ex_move rfl rfl) ?_
            refine wpi_exG (v := .int .i64 ((i : Int) + 1)) (fun _ => trivial) (wn rfl) rfl (ex_add (m := (i : Int)) (n := 1) rfl rfl rfl (i64_in (by omega))) ?_
            refine wpi_exG (v := .int .i64 ((i : Int) + 1)) (fun _ => trivial) (wn rfl) rfl (ex_assign rfl rfl) ?_
            refine wpListIn_nil ?_
            simp only [Act.put, List.setIfInBounds_toArray, List.set_cons_succ, List.set_cons_zero]
            refine then_normal ?_
            go_roundw
            case rel => exact ⟨i + 1, by simp, by omega, hv⟩
            case measure => show 64 - ((i : Int) + 1).toNat < 64 - (i : Int).toNat; omega
          · refine wpi_exG (v := .bool false) (fun _ => trivial) (wn rfl) rfl (ex_lss (k := .i64) (m := (i : Int)) (n := 64) rfl rfl rfl (decide_eq_false hb35)) ?_
            refine wpListIn_nil ?_
            simp only [Act.put, List.setIfInBounds_toArray, List.set_cons_succ, List.set_cons_zero]
            refine then_normal (hK34 _ _ ?_)
            clear hK34 K34
            refine wpIn_cond_false rfl ?_
            refine wpIn_exit ?_
            refine then_exit ?_
            clear hK33 K33
            refine then_exit ?_
            refine blk_hit ?_
            refine then_normal (hK30 _ _ ?_)
            clear hK30 K30
            refine wpIn_seq_k (fun K38 hK38 => ?_)
            rw [secTo_end (l := l) (k := k) (i := i) (by omega)] at hv
            refine wpIn_region_lit ?_
            refine wpi_exG (v := .slice va k vc) (fun _ => trivial) (wn rfl) rfl (ex_move rfl rfl) ?_
            refine wpi_exG (v := .slice (some ⟨b9, 0, none⟩) 64 64) (fun _ => trivial) (wn rfl) rfl (ex_move rfl rfl) ?_
            refine wpi_exG (v := .string ⟨(Disk.sector l k).toArray⟩) (fun _ => trivial) (wn rfl) rfl (ex_str Try.underlying24 Try.underlying5 Try.underlying9 rfl rfl (bytes_own (k := 0) hv rfl) (Disk.sector_length _ _)) ?_
            simp only [Act.put, List.setIfInBounds_toArray, List.set_cons_succ, List.set_cons_zero]
            refine sl_rowOne (v := .string ⟨(Disk.sector l k).toArray⟩) (fun _ => trivial) (wn rfl) rfl rfl hv r6el97 rfl (fun b39 w40 hv => ?_)
            replace hv := hv.front 2 rfl
            simp only [List.eraseIdx_cons_succ, List.eraseIdx_cons_zero] at hv
            refine sl_append (news := [strV (Disk.sector l k)]) (fun _ => trivial) (wn rfl) rfl rfl rfl r6el97 hv (ok_full (by omega)) rfl (rd_all (hv.get 1 rfl)) (one_str _) (by unfold maxLen; omega) (by omega) (fun v41 w44 hv => ?_)
            obtain ⟨va42, vc43, rfl⟩ := row_slice hv.head
            refine wpi_exG (v := .slice va42 (k + 1) vc43) (fun _ => trivial) (wn rfl) rfl (ex_assign rfl rfl) ?_
            refine wpListIn_nil ?_
            simp only [Act.put, List.setIfInBounds_toArray, List.set_cons_succ, List.set_cons_zero]
            refine then_normal (hK38 _ _ ?_)
            clear hK38 K38
            refine wpIn_region_lit ?_
            refine wpi_exG (v := .slice (some ⟨ab, aoff, none⟩) r c) (fun _ => trivial) (wn rfl) rfl (ex_move rfl rfl) ?_
            refine wpi_exG (v := .int .i64 64) (fun _ => trivial) (wn rfl) rfl (ex_move rfl rfl) ?_
            obtain ⟨za, hzs, hza, hzok⟩ := slice_from (ab := ab) (off := aoff) (len := r) (cap := c) (lo := 64) (by omega) hok2.le hok2.max
            refine wpi_exG (v := .slice za (r - 64) (c - 64)) (fun _ => trivial) (wn rfl) rfl (ex_slice (lo' := some (.int .i64 64)) rfl rfl rfl rfl rfl (hzs _)) ?_
            simp only [Act.put, List.setIfInBounds_toArray, List.set_cons_succ, List.set_cons_zero]
            refine wpi_exG (v := .slice za (r - 64) (c - 64)) (fun _ => trivial) (wn rfl) rfl (ex_assign rfl rfl) ?_
            refine wpListIn_nil ?_
            simp only [Act.put, List.setIfInBounds_toArray, List.set_cons_succ, List.set_cons_zero]
            refine blk_normal ?_
            refine then_normal ?_
            go_roundw
            case rel => 
                  have hv9 := (hv.sub (List.Sublist.cons_cons _ (List.Sublist.cons _ (List.Sublist.cons _ (List.Sublist.refl _)))))
                  rw [← List.map_singleton, ← List.map_append, ← cutTo_succ] at hv9
                  exact ⟨k + 1, r - 64, za, c - 64, _, _, rfl, rfl, .inr (by rw [show 64 * (k + 1 - 1) = 64 * k by omega]; omega), by omega, hzok, rd_next hr2 hrr (by omega) hok2.le hza, hv9⟩
            case measure => show r - 64 < r; omega
    · refine wpi_exG (v := .bool false) (fun _ => trivial) (wn rfl) rfl (ex_gtr (k := .i64) (m := (r : Int)) (n := 0) rfl rfl rfl (decide_eq_false hb7)) ?_
      refine wpListIn_nil ?_
      simp only [Act.put, List.setIfInBounds_toArray, List.set_cons_succ, List.set_cons_zero]
      refine then_normal (hK6 _ _ ?_)
      clear hK6 K6
      refine wpIn_cond_false rfl ?_
      refine wpIn_exit ?_
      refine then_exit ?_
      clear hK5 K5
      refine then_exit ?_
      refine blk_hit ?_
      refine then_normal (hK3 _ _ ?_)
      clear hK3 K3
      refine wpIn_seq_k (fun K45 hK45 => ?_)
      refine wpIn_region_lit ?_
      refine wpi_exG (v := .slice va k vc) (fun _ => trivial) (wn rfl) rfl (ex_move rfl rfl) ?_
      refine wpi_exG (v := .slice va k vc) (fun _ => trivial) (wn rfl) rfl (ex_assign rfl rfl) ?_
      refine wpListIn_nil ?_
      simp only [Act.put, List.setIfInBounds_toArray, List.set_cons_succ, List.set_cons_zero]
      refine then_normal (hK45 _ _ ?_)
      clear hK45 K45
      refine wpIn_ret ?_
      refine bodyPost_ret (results_tmp rfl _ _ _) rfl ?_
      obtain rfl : k = Disk.nsec l := nsec_eq hk (by omega)
      exact ⟨_, _, rfl, hv⟩
end Go.Proofs.Ytkannfkjnohdlaa
/- pentimentoref06: Write, Read. -/
namespace Go.Proofs.Ytkannfkjnohdlaa
open Go.RowKit Go.Pm
@[reducible] def atV (p : Nat × List UInt8) : Value := .int .i64 (p.1 : Int)
@[reducible] def whV (p : Nat × List UInt8) : Value := strV p.2
def pendTo (D : Disk) (a : Nat) (l : List UInt8) (i : Nat) : List (Nat × List UInt8) := D.pend ++ Disk.writesOf a l i
theorem pendTo_len (D : Disk) (a : Nat) (l : List UInt8) (i : Nat) : (pendTo D a l i).length = D.pend.length + i := by unfold pendTo Disk.writesOf; simp
theorem pendTo_zero (D : Disk) (a : Nat) (l : List UInt8) : pendTo D a l 0 = D.pend := by unfold pendTo Disk.writesOf; simp
theorem pendTo_succ (D : Disk) (a : Nat) (l : List UInt8) (i : Nat) : pendTo D a l (i + 1) = pendTo D a l i ++ [(a + i, Disk.sector l i)] := by
  unfold pendTo Disk.writesOf
  rw [List.range_succ, List.map_append, List.append_assoc]
  rfl
theorem at_next (D : Disk) (a : Nat) (l : List UInt8) (i : Nat) : (pendTo D a l i).map atV ++ [Value.int .i64 ((a + i : Nat) : Int)] = (pendTo D a l (i + 1)).map atV := by rw [pendTo_succ, List.map_append]; rfl
theorem wh_next (D : Disk) (a : Nat) (l : List UInt8) (i : Nat) : (pendTo D a l i).map whV ++ [strV (Disk.sector l i)] = (pendTo D a l (i + 1)).map whV := by rw [pendTo_succ, List.map_append]; rfl
theorem write_pendTo (D : Disk) (a : Nat) (l : List UInt8) : (D.write a l).pend = pendTo D a l (Disk.nsec l) := rfl
theorem cut_at {l : List UInt8} {k i : Nat} (h : i < k) : ((cutTo l k).map strV)[i]? = some (strV (Disk.sector l i)) := by
  unfold cutTo
  rw [List.map_map, List.getElem?_map, List.getElem?_range h]
  rfl
def refC (D : Disk) (sa : Option Addr) (sc : Nat) (aa : Option Addr) (ac : Nat) (wa : Option Addr) (wc : Nat) : List Value := [.slice sa D.dur.length sc, .slice aa D.pend.length ac, .slice wa D.pend.length wc, .int .i64 (-1)]
theorem map_at {α : Type} {f : α → Value} {l : List α} {i : Nat} {x : α} (h : l[i]? = some x) : (l.map f)[i]? = some (f x) := by rw [List.getElem?_map, h]; rfl
theorem see_step {D : Disk} {j i : Nat} {x : Nat × List UInt8} {s : List UInt8} (hx : D.pend[j]? = some x) (hs : D.see i = Disk.over (D.pend.take (j + 1)) i s) : (x.1 = i → D.see i = x.2) ∧ (x.1 ≠ i → D.see i = Disk.over (D.pend.take j) i s) := by
  obtain ⟨hj, rfl⟩ := List.getElem?_eq_some_iff.1 hx
  rw [over_take hj] at hs
  exact ⟨fun h => by rw [hs, if_pos h], fun h => by rw [hs, if_neg h]⟩
theorem view_next (D : Disk) (a k : Nat) : (D.view D.pend a (k + 1)).flatten = (D.view D.pend a k).flatten ++ D.see (a + k) := by
  unfold Disk.view
  rw [List.range_succ, List.map_append, List.flatten_append]
  simp [Disk.see]
theorem see_len {D : Disk} (hok : D.Ok) {i : Nat} (h : i < D.dur.length) : (D.see i).length = 64 := by
  refine Disk.over_len (fun p hp => (hok.pend p hp).2) ?_ _
  rw [List.getD_eq_getElem?_getD, List.getElem?_eq_getElem h]
  exact hok.dur _ (List.getElem_mem _)
theorem view_len64 {D : Disk} (hok : D.Ok) {a k : Nat} (h : a + k ≤ D.dur.length) : (D.view D.pend a k).flatten.length = k * 64 := by
  induction k with
  | zero => rfl
  | succ k ih => rw [view_next, List.length_append, ih (by omega), see_len hok (by omega)]; omega

theorem r7fa99_0 (w : World) (b o : Nat) : (Instr.fieldAt 99 (.pointer (some ⟨b, o, none⟩)) 0).run Try.prog w = .ok (.pointer (some ⟨b, o + 0, none⟩)) w := by kernel_rfl
theorem r7na97 (w : World) : (isAgg 97).run Try.prog w = .ok false w := by kernel_rfl
set_option maxRecDepth 100000 in
set_option maxHeartbeats 2000000 in
theorem refThere (B : Base) (H : List Res) (w : World) (p : Nat) (D : Disk) (sa : Option Addr) (sc : Nat) (aa : Option Addr) (ac : Nat) (wa : Option Addr) (wc : Nat) (at_ n : Nat) (b : Bool) (hb : decide (1 ≤ n ∧ at_ + n ≤ D.dur.length) = b) (hdm : D.dur.length ≤ 100000) (ham : at_ ≤ 1000000) (hv : Inv B (Res.cell p (refC D sa sc aa ac wa wc) 99 :: H) w) :
    Calls Try.prog 48 #[.pointer (some ⟨p, 0, none⟩), .int .i64 (at_ : Int), .int .i64 (n : Int)] w fun e w' => e = .returned (.bool b) ∧ w = w' := by
  subst hb
  unfold refC at hv
  refine (callsIn_wide (n := 5)).1 ?_
  refine callsIn_of_wp Try.func48 rfl trivial ?_
  simp only [Try.ntmps48, List.size_toArray, List.length_cons, List.length_nil, Nat.reduceAdd, Nat.reduceSub, Array.replicate_succ, Array.replicate_zero, List.push_toArray, List.append_toArray, List.nil_append, List.cons_append]
  refine wpIn_seq_k (fun K1 hK1 => ?_)
  refine wpIn_region_lit ?_
  refine wpi_exG (v := .bool false) (fun _ => trivial) (wn rfl) rfl (ex_assign rfl rfl) ?_
  refine wpListIn_nil ?_
  simp only [Act.put, List.setIfInBounds_toArray, List.set_cons_succ, List.set_cons_zero]
  refine then_normal (hK1 _ _ ?_)
  clear hK1 K1
  refine wpIn_seq_k (fun K2 hK2 => ?_)
  refine wpIn_region_lit ?_
  refine wpi_exG (v := .int .i64 (n : Int)) (fun _ => trivial) (wn rfl) rfl (ex_move rfl rfl) ?_
  by_cases hb3 : (n : Int) ≥ 1
  · refine wpi_exG (v := .bool true) (fun _ => trivial) (wn rfl) rfl (ex_geq (k := .i64) (m := (n : Int)) (n := 1) rfl rfl rfl (decide_eq_true hb3)) ?_
    refine wpi_exG (v := .bool true) (fun _ => trivial) (wn rfl) rfl (ex_move rfl rfl) ?_
    simp only [Act.put, List.setIfInBounds_toArray, List.set_cons_succ, List.set_cons_zero]
    refine wpi_exG (v := .int .i64 (at_ : Int)) (fun _ => trivial) (wanted_of (j := 2) (d := 9) (b := true) rfl rfl rfl) rfl (ex_move rfl rfl) ?_
    refine wpi_exG (v := .bool true) (fun _ => trivial) (wanted_of (j := 2) (d := 9) (b := true) rfl rfl rfl) rfl (ex_geq (k := .i64) (m := (at_ : Int)) (n := 0) rfl rfl rfl (decide_eq_true (by omega))) ?_
    refine wpi_exG (v := .bool true) (fun _ => trivial) (wn rfl) rfl (ex_pick (b := true) rfl rfl rfl) ?_
    simp only [Act.put, List.setIfInBounds_toArray, List.set_cons_succ, List.set_cons_zero]
    refine wpi_exG (v := .bool true) (fun _ => trivial) (wn rfl) rfl (ex_move rfl rfl) ?_
    refine wpi_exG (v := .int .i64 (at_ : Int)) (fun _ => trivial) (wanted_of (j := 6) (d := 13) (b := true) rfl rfl rfl) rfl (ex_move rfl rfl) ?_
    refine wpi_exG (v := .pointer (some ⟨p, 0, none⟩)) (fun _ => trivial) (wanted_of (j := 6) (d := 13) (b := true) rfl rfl rfl) rfl (ex_move rfl rfl) ?_
    simp only [Act.put, List.setIfInBounds_toArray, List.set_cons_succ, List.set_cons_zero]
    refine wpi_exG (v := .pointer (some ⟨p, 0, none⟩)) (fun _ => trivial) (wanted_of (j := 6) (d := 13) (b := true) rfl rfl rfl) rfl (ex_nil rfl rfl) ?_
    refine wpi_exG (v := .pointer (some ⟨p, 0, none⟩)) (fun _ => trivial) (wanted_of (j := 6) (d := 13) (b := true) rfl rfl rfl) rfl (ex_field rfl rfl (r7fa99_0 _ _ _)) ?_
    refine wpi_exG (v := .slice sa D.dur.length sc) (fun _ => trivial) (wanted_of (j := 6) (d := 13) (b := true) rfl rfl rfl) rfl (ex_load rfl rfl (run_load1 r7na97 (hv.load 0 0 rfl rfl))) ?_
    simp only [Act.put, List.setIfInBounds_toArray, List.set_cons_succ, List.set_cons_zero]
    refine wpi_exG (v := .int .i64 (D.dur.length : Int)) (fun _ => trivial) (wanted_of (j := 6) (d := 13) (b := true) rfl rfl rfl) rfl (ex_len0 Try.underlying97 rfl rfl) ?_
    by_cases hb4 : (at_ : Int) < (D.dur.length : Int)
    · refine wpi_exG (v := .bool true) (fun _ => trivial) (wanted_of (j := 6) (d := 13) (b := true) rfl rfl rfl) rfl (ex_lss (k := .i64) (m := (at_ : Int)) (n := (D.dur.length : Int)) rfl rfl rfl (decide_eq_true hb4)) ?_
      refine wpi_exG (v := .bool true) (fun _ => trivial) (wn rfl) rfl (ex_pick (b := true) rfl rfl rfl) ?_
      simp only [Act.put, List.setIfInBounds_toArray, List.set_cons_succ, List.set_cons_zero]
      refine wpi_exG (v := .bool true) (fun _ => trivial) (wn rfl) rfl (ex_move rfl rfl) ?_
      refine wpi_exG (v := .int .i64 (n : Int)) (fun _ => trivial) (wanted_of (j := 15) (d := 22) (b := true) rfl rfl rfl) rfl (ex_move rfl rfl) ?_
      refine wpi_exG (v := .pointer (some ⟨p, 0, none⟩)) (fun _ => trivial) (wanted_of (j := 15) (d := 22) (b := true) rfl rfl rfl) rfl (ex_move rfl rfl) ?_
      simp only [Act.put, List.setIfInBounds_toArray, List.set_cons_succ, List.set_cons_zero]
      refine wpi_exG (v := .pointer (some ⟨p, 0, none⟩)) (fun _ => trivial) (wanted_of (j := 15) (d := 22) (b := true) rfl rfl rfl) rfl (ex_nil rfl rfl) ?_
      refine wpi_exG (v := .pointer (some ⟨p, 0, none⟩)) (fun _ => trivial) (wanted_of (j := 15) (d := 22) (b := true) rfl rfl rfl) rfl (ex_field rfl rfl (r7fa99_0 _ _ _)) ?_
      refine wpi_exG (v := .slice sa D.dur.length sc) (fun _ => trivial) (wanted_of (j := 15) (d := 22) (b := true) rfl rfl rfl) rfl (ex_load rfl rfl (run_load1 r7na97 (hv.load 0 0 rfl rfl))) ?_
      simp only [Act.put, List.setIfInBounds_toArray, List.set_cons_succ, List.set_cons_zero]
      refine wpi_exG (v := .int .i64 (D.dur.length : Int)) (fun _ => trivial) (wanted_of (j := 15) (d := 22) (b := true) rfl rfl rfl) rfl (ex_len0 Try.underlying97 rfl rfl) ?_
      refine wpi_exG (v := .int .i64 (at_ : Int)) (fun _ => trivial) (wanted_of (j := 15) (d := 22) (b := true) rfl rfl rfl) rfl (ex_move rfl rfl) ?_
      refine wpi_exG (v := .int .i64 ((D.dur.length : Int) - (at_ : Int))) (fun _ => trivial) (wanted_of (j := 15) (d := 22) (b := true) rfl rfl rfl) rfl (ex_sub (m := (D.dur.length : Int)) (n := (at_ : Int)) rfl rfl rfl (i64_in (by omega))) ?_
      simp only [Act.put, List.setIfInBounds_toArray, List.set_cons_succ, List.set_cons_zero]
      by_cases hb5 : (n : Int) ≤ ((D.dur.length : Int) - (at_ : Int))
      · refine wpi_exG (v := .bool true) (fun _ => trivial) (wanted_of (j := 15) (d := 22) (b := true) rfl rfl rfl) rfl (ex_leq (k := .i64) (m := (n : Int)) (n := ((D.dur.length : Int) - (at_ : Int))) rfl rfl rfl (decide_eq_true hb5)) ?_
        refine wpi_exG (v := .bool true) (fun _ => trivial) (wn rfl) rfl (ex_pick (b := true) rfl rfl rfl) ?_
        refine wpi_exG (v := .bool true) (fun _ => trivial) (wn rfl) rfl (ex_assign rfl rfl) ?_
        refine wpListIn_nil ?_
        simp only [Act.put, List.setIfInBounds_toArray, List.set_cons_succ, List.set_cons_zero]
        refine then_normal (hK2 _ _ ?_)
        clear hK2 K2
        refine wpIn_ret ?_
        refine bodyPost_ret (results_tmp rfl _ _ _) rfl ?_
        exact ⟨by rw [decide_eq_true (by omega)]; rfl, rfl⟩
      · refine wpi_exG (v := .bool false) (fun _ => trivial) (wanted_of (j := 15) (d := 22) (b := true) rfl rfl rfl) rfl (ex_leq (k := .i64) (m := (n : Int)) (n := ((D.dur.length : Int) - (at_ : Int))) rfl rfl rfl (decide_eq_false hb5)) ?_
        refine wpi_exG (v := .bool false) (fun _ => trivial) (wn rfl) rfl (ex_pick (b := true) rfl rfl rfl) ?_
        refine wpi_exG (v := .bool false) (fun _ => trivial) (wn rfl) rfl (ex_assign rfl rfl) ?_
        refine wpListIn_nil ?_
        simp only [Act.put, List.setIfInBounds_toArray, List.set_cons_succ, List.set_cons_zero]
        refine then_normal (hK2 _ _ ?_)
        clear hK2 K2
        refine wpIn_ret ?_
        refine bodyPost_ret (results_tmp rfl _ _ _) rfl ?_
        exact ⟨by rw [decide_eq_false (by omega)]; rfl, rfl⟩
    · refine wpi_exG (v := .bool false) (fun _ => trivial) (wanted_of (j := 6) (d := 13) (b := true) rfl rfl rfl) rfl (ex_lss (k := .i64) (m := (at_ : Int)) (n := (D.dur.length : Int)) rfl rfl rfl (decide_eq_false hb4)) ?_
      refine wpi_exG (v := .bool false) (fun _ => trivial) (wn rfl) rfl (ex_pick (b := true) rfl rfl rfl) ?_
      simp only [Act.put, List.setIfInBounds_toArray, List.set_cons_succ, List.set_cons_zero]
      refine wpi_exG (v := .bool false) (fun _ => trivial) (wn rfl) rfl (ex_move rfl rfl) ?_
      refine wpi_not (fun _ => trivial) (wanted_not (j := 15) (d := 22) (b := true) (b' := false) rfl rfl rfl (by decide)) ?_
      refine wpi_not (fun _ => trivial) (wanted_not (j := 15) (d := 22) (b := true) (b' := false) rfl rfl rfl (by decide)) ?_
      simp only [Act.put, List.setIfInBounds_toArray, List.set_cons_succ, List.set_cons_zero]
      refine wpi_not (fun _ => trivial) (wanted_not (j := 15) (d := 22) (b := true) (b' := false) rfl rfl rfl (by decide)) ?_
      refine wpi_not (fun _ => trivial) (wanted_not (j := 15) (d := 22) (b := true) (b' := false) rfl rfl rfl (by decide)) ?_
      refine wpi_not (fun _ => trivial) (wanted_not (j := 15) (d := 22) (b := true) (b' := false) rfl rfl rfl (by decide)) ?_
      simp only [Act.put, List.setIfInBounds_toArray, List.set_cons_succ, List.set_cons_zero]
      refine wpi_not (fun _ => trivial) (wanted_not (j := 15) (d := 22) (b := true) (b' := false) rfl rfl rfl (by decide)) ?_
      refine wpi_not (fun _ => trivial) (wanted_not (j := 15) (d := 22) (b := true) (b' := false) rfl rfl rfl (by decide)) ?_
      refine wpi_not (fun _ => trivial) (wanted_not (j := 15) (d := 22) (b := true) (b' := false) rfl rfl rfl (by decide)) ?_
      simp only [Act.put, List.setIfInBounds_toArray, List.set_cons_succ, List.set_cons_zero]
      refine wpi_not (fun _ => trivial) (wanted_not (j := 15) (d := 22) (b := true) (b' := false) rfl rfl rfl (by decide)) ?_
      refine wpi_exG (v := .bool false) (fun _ => trivial) (wn rfl) rfl (ex_pick (b := false) rfl rfl rfl) ?_
      refine wpi_exG (v := .bool false) (fun _ => trivial) (wn rfl) rfl (ex_assign rfl rfl) ?_
      refine wpListIn_nil ?_
      simp only [Act.put, List.setIfInBounds_toArray, List.set_cons_succ, List.set_cons_zero]
      refine then_normal (hK2 _ _ ?_)
      clear hK2 K2
      refine wpIn_ret ?_
      refine bodyPost_ret (results_tmp rfl _ _ _) rfl ?_
      exact ⟨by rw [decide_eq_false (by omega)]; rfl, rfl⟩
  · refine wpi_exG (v := .bool false) (fun _ => trivial) (wn rfl) rfl (ex_geq (k := .i64) (m := (n : Int)) (n := 1) rfl rfl rfl (decide_eq_false hb3)) ?_
    refine wpi_exG (v := .bool false) (fun _ => trivial) (wn rfl) rfl (ex_move rfl rfl) ?_
    simp only [Act.put, List.setIfInBounds_toArray, List.set_cons_succ, List.set_cons_zero]
    refine wpi_not (fun _ => trivial) (wanted_not (j := 2) (d := 9) (b := true) (b' := false) rfl rfl rfl (by decide)) ?_
    refine wpi_not (fun _ => trivial) (wanted_not (j := 2) (d := 9) (b := true) (b' := false) rfl rfl rfl (by decide)) ?_
    refine wpi_exG (v := .bool false) (fun _ => trivial) (wn rfl) rfl (ex_pick (b := false) rfl rfl rfl) ?_
    simp only [Act.put, List.setIfInBounds_toArray, List.set_cons_succ, List.set_cons_zero]
    refine wpi_exG (v := .bool false) (fun _ => trivial) (wn rfl) rfl (ex_move rfl rfl) ?_
    refine wpi_not (fun _ => trivial) (wanted_not (j := 6) (d := 13) (b := true) (b' := false) rfl rfl rfl (by decide)) ?_
    refine wpi_not (fun _ => trivial) (wanted_not (j := 6) (d := 13) (b := true) (b' := false) rfl rfl rfl (by decide)) ?_
    simp only [Act.put, List.setIfInBounds_toArray, List.set_cons_succ, List.set_cons_zero]
    refine wpi_not (fun _ => trivial) (wanted_not (j := 6) (d := 13) (b := true) (b' := false) rfl rfl rfl (by decide)) ?_
    refine wpi_not (fun _ => trivial) (wanted_not (j := 6) (d := 13) (b := true) (b' := false) rfl rfl rfl (by decide)) ?_
    refine wpi_not (fun _ => trivial) (wanted_not (j := 6) (d := 13) (b := true) (b' := false) rfl rfl rfl (by decide)) ?_
    simp only [Act.put, List.setIfInBounds_toArray, List.set_cons_succ, List.set_cons_zero]
    refine wpi_not (fun _ => trivial) (wanted_not (j := 6) (d := 13) (b := true) (b' := false) rfl rfl rfl (by decide)) ?_
    refine wpi_not (fun _ => trivial) (wanted_not (j := 6) (d := 13) (b := true) (b' := false) rfl rfl rfl (by decide)) ?_
    refine wpi_exG (v := .bool false) (fun _ => trivial) (wn rfl) rfl (ex_pick (b := false) rfl rfl rfl) ?_
    simp only [Act.put, List.setIfInBounds_toArray, List.set_cons_succ, List.set_cons_zero]
    refine wpi_exG (v := .bool false) (fun _ => trivial) (wn rfl) rfl (ex_move rfl rfl) ?_
    refine wpi_not (fun _ => trivial) (wanted_not (j := 15) (d := 22) (b := true) (b' := false) rfl rfl rfl (by decide)) ?_
    refine wpi_not (fun _ => trivial) (wanted_not (j := 15) (d := 22) (b := true) (b' := false) rfl rfl rfl (by decide)) ?_
    simp only [Act.put, List.setIfInBounds_toArray, List.set_cons_succ, List.set_cons_zero]
    refine wpi_not (fun _ => trivial) (wanted_not (j := 15) (d := 22) (b := true) (b' := false) rfl rfl rfl (by decide)) ?_
    refine wpi_not (fun _ => trivial) (wanted_not (j := 15) (d := 22) (b := true) (b' := false) rfl rfl rfl (by decide)) ?_
    refine wpi_not (fun _ => trivial) (wanted_not (j := 15) (d := 22) (b := true) (b' := false) rfl rfl rfl (by decide)) ?_
    simp only [Act.put, List.setIfInBounds_toArray, List.set_cons_succ, List.set_cons_zero]
    refine wpi_not (fun _ => trivial) (wanted_not (j := 15) (d := 22) (b := true) (b' := false) rfl rfl rfl (by decide)) ?_
    refine wpi_not (fun _ => trivial) (wanted_not (j := 15) (d := 22) (b := true) (b' := false) rfl rfl rfl (by decide)) ?_
    refine wpi_not (fun _ => trivial) (wanted_not (j := 15) (d := 22) (b := true) (b' := false) rfl rfl rfl (by decide)) ?_
    simp only [Act.put, List.setIfInBounds_toArray, List.set_cons_succ, List.set_cons_zero]
    refine wpi_not (fun _ => trivial) (wanted_not (j := 15) (d := 22) (b := true) (b' := false) rfl rfl rfl (by decide)) ?_
    refine wpi_exG (v := .bool false) (fun _ => trivial) (wn rfl) rfl (ex_pick (b := false) rfl rfl rfl) ?_
    refine wpi_exG (v := .bool false) (fun _ => trivial) (wn rfl) rfl (ex_assign rfl rfl) ?_
    refine wpListIn_nil ?_
    simp only [Act.put, List.setIfInBounds_toArray, List.set_cons_succ, List.set_cons_zero]
    refine then_normal (hK2 _ _ ?_)
    clear hK2 K2
    refine wpIn_ret ?_
    refine bodyPost_ret (results_tmp rfl _ _ _) rfl ?_
    exact ⟨by rw [decide_eq_false (by omega)]; rfl, rfl⟩
theorem r7fa99_3 (w : World) (b o : Nat) : (Instr.fieldAt 99 (.pointer (some ⟨b, o, none⟩)) 3).run Try.prog w = .ok (.pointer (some ⟨b, o + 3, none⟩)) w := by kernel_rfl
theorem r7na3 (w : World) : (isAgg 3).run Try.prog w = .ok false w := by kernel_rfl
set_option maxRecDepth 100000 in
set_option maxHeartbeats 2000000 in
theorem refOn (B : Base) (H : List Res) (w : World) (p : Nat) (D : Disk) (sa : Option Addr) (sc : Nat) (aa : Option Addr) (ac : Nat) (wa : Option Addr) (wc : Nat) (hv : Inv B (Res.cell p (refC D sa sc aa ac wa wc) 99 :: H) w) :
    Calls Try.prog 49 #[.pointer (some ⟨p, 0, none⟩)] w fun e w' => e = .returned (.bool true) ∧ w = w' := by
  unfold refC at hv
  refine (callsIn_wide (n := 5)).1 ?_
  refine callsIn_of_wp Try.func49 rfl trivial ?_
  simp only [Try.ntmps49, List.size_toArray, List.length_cons, List.length_nil, Nat.reduceAdd, Nat.reduceSub, Array.replicate_succ, Array.replicate_zero, List.push_toArray, List.append_toArray, List.nil_append, List.cons_append]
  refine wpIn_seq_k (fun K1 hK1 => ?_)
  refine wpIn_region_lit ?_
  refine wpi_exG (v := .bool false) (fun _ => trivial) (wn rfl) rfl (ex_assign rfl rfl) ?_
  refine wpListIn_nil ?_
  simp only [Act.put, List.setIfInBounds_toArray, List.set_cons_succ, List.set_cons_zero]
  refine then_normal (hK1 _ _ ?_)
  clear hK1 K1
  refine wpIn_seq_k (fun K2 hK2 => ?_)
  refine wpIn_seq_k (fun K3 hK3 => ?_)
  refine wpIn_region_lit ?_
  refine wpi_exG (v := .pointer (some ⟨p, 0, none⟩)) (fun _ => trivial) (wn rfl) rfl (ex_move rfl rfl) ?_
  refine wpi_exG (v := .pointer (some ⟨p, 0, none⟩)) (fun _ => trivial) (wn rfl) rfl (ex_nil rfl rfl) ?_
  refine wpi_exG (v := .pointer (some ⟨p, 3, none⟩)) (fun _ => trivial) (wn rfl) rfl (ex_field rfl rfl (r7fa99_3 _ _ _)) ?_
  simp only [Act.put, List.setIfInBounds_toArray, List.set_cons_succ, List.set_cons_zero]
  refine wpi_exG (v := .int .i64 (-1)) (fun _ => trivial) (wn rfl) rfl (ex_load rfl rfl (run_load1 r7na3 (hv.load 0 3 rfl rfl))) ?_
  refine wpi_exG (v := .bool false) (fun _ => trivial) (wn rfl) rfl (ex_eql (k := .i64) (m := (-1)) (n := 0) rfl rfl rfl (by decide)) ?_
  refine wpListIn_nil ?_
  simp only [Act.put, List.setIfInBounds_toArray, List.set_cons_succ, List.set_cons_zero]
  refine then_normal (hK3 _ _ ?_)
  clear hK3 K3
  refine wpIn_cond_false rfl ?_
  refine wpIn_skip ?_
  refine then_normal (hK2 _ _ ?_)
  clear hK2 K2
  refine wpIn_seq_k (fun K4 hK4 => ?_)
  refine wpIn_seq_k (fun K5 hK5 => ?_)
  refine wpIn_region_lit ?_
  refine wpi_exG (v := .pointer (some ⟨p, 0, none⟩)) (fun _ => trivial) (wn rfl) rfl (ex_move rfl rfl) ?_
  refine wpi_exG (v := .pointer (some ⟨p, 0, none⟩)) (fun _ => trivial) (wn rfl) rfl (ex_nil rfl rfl) ?_
  refine wpi_exG (v := .pointer (some ⟨p, 3, none⟩)) (fun _ => trivial) (wn rfl) rfl (ex_field rfl rfl (r7fa99_3 _ _ _)) ?_
  simp only [Act.put, List.setIfInBounds_toArray, List.set_cons_succ, List.set_cons_zero]
  refine wpi_exG (v := .int .i64 (-1)) (fun _ => trivial) (wn rfl) rfl (ex_load rfl rfl (run_load1 r7na3 (hv.load 0 3 rfl rfl))) ?_
  refine wpi_exG (v := .bool false) (fun _ => trivial) (wn rfl) rfl (ex_gtr (k := .i64) (m := (-1)) (n := 0) rfl rfl rfl (by decide)) ?_
  refine wpListIn_nil ?_
  simp only [Act.put, List.setIfInBounds_toArray, List.set_cons_succ, List.set_cons_zero]
  refine then_normal (hK5 _ _ ?_)
  clear hK5 K5
  refine wpIn_cond_false rfl ?_
  refine wpIn_skip ?_
  refine then_normal (hK4 _ _ ?_)
  clear hK4 K4
  refine wpIn_seq_k (fun K6 hK6 => ?_)
  refine wpIn_region_lit ?_
  refine wpi_exG (v := .bool true) (fun _ => trivial) (wn rfl) rfl (ex_assign rfl rfl) ?_
  refine wpListIn_nil ?_
  simp only [Act.put, List.setIfInBounds_toArray, List.set_cons_succ, List.set_cons_zero]
  refine then_normal (hK6 _ _ ?_)
  clear hK6 K6
  refine wpIn_ret ?_
  refine bodyPost_ret (results_tmp rfl _ _ _) rfl ?_
  exact ⟨rfl, rfl⟩
theorem r7callable47 : Callable Try.prog 47 := ⟨_, Try.func47, by kernel_rfl, by kernel_rfl⟩
theorem r7callable48 : Callable Try.prog 48 := ⟨_, Try.func48, by kernel_rfl, by kernel_rfl⟩
theorem r7callable49 : Callable Try.prog 49 := ⟨_, Try.func49, by kernel_rfl, by kernel_rfl⟩
theorem r7fa99_1 (w : World) (b o : Nat) : (Instr.fieldAt 99 (.pointer (some ⟨b, o, none⟩)) 1).run Try.prog w = .ok (.pointer (some ⟨b, o + 1, none⟩)) w := by kernel_rfl
theorem r7na44 (w : World) : (isAgg 44).run Try.prog w = .ok false w := by kernel_rfl
theorem r7mk3 : (Try.prog.info? 3).map (fun i => (i.zero, i.size, i.bytes)) = some (some (.int .i64 0), 1, 8) := by kernel_rfl
theorem r7el44 : Elem Try.prog 44 3 (.int .i64 0) 1 8 := elem_of Try.underlying44 r7mk3 (by rfl) (by decide)
theorem r7sz44 : (Try.prog.info? 44).map (·.size) = some 1 := by kernel_rfl
theorem r7fa99_2 (w : World) (b o : Nat) : (Instr.fieldAt 99 (.pointer (some ⟨b, o, none⟩)) 2).run Try.prog w = .ok (.pointer (some ⟨b, o + 2, none⟩)) w := by kernel_rfl
theorem r7es97 (w : World) : (sizeOf (Try.prog.elem 97)).run Try.prog w = .ok 1 w := by kernel_rfl
theorem r7na9 (w : World) : (isAgg 9).run Try.prog w = .ok false w := by kernel_rfl
theorem r7mk9 : (Try.prog.info? 9).map (fun i => (i.zero, i.size, i.bytes)) = some (some (.string ⟨([] : List UInt8).toArray⟩), 1, 16) := by kernel_rfl
theorem r7el97 : Elem Try.prog 97 9 (.string ⟨([] : List UInt8).toArray⟩) 1 16 := elem_of Try.underlying97 r7mk9 (by rfl) (by decide)
theorem r7sz97 : (Try.prog.info? 97).map (·.size) = some 1 := by kernel_rfl
set_option maxRecDepth 100000 in
set_option maxHeartbeats 1000000 in
theorem refWrite (B : Base) (H : List Res) (w : World) (p : Nat) (D : Disk) (sa : Option Addr) (sc : Nat) (aa : Option Addr) (ac : Nat) (wa : Option Addr) (wc : Nat) (at_ : Nat) (a : Option Addr) (cap : Nat) (l : List UInt8) (hl : l.length ≤ 1000000) (hok : SliceOk a l.length cap) (hr : RdV B [] a (l.map B8)) (hdm : D.dur.length ≤ 100000) (ham : at_ ≤ 100000) (hpm : D.pend.length ≤ 100000) (h0 : 0 < l.length) (hf : at_ + Disk.nsec l ≤ D.dur.length) (hv : Inv B (Res.cell p (refC D sa sc aa ac wa wc) 99 :: Res.row 9 1 (.slice sa D.dur.length sc) D.dur.length (D.dur.map strV) :: Res.row 3 1 (.slice aa D.pend.length ac) D.pend.length (D.pend.map atV) :: Res.row 9 1 (.slice wa D.pend.length wc) D.pend.length (D.pend.map whV) :: H) w) :
    Calls Try.prog 29 #[.pointer (some ⟨p, 0, none⟩), .int .i64 (at_ : Int), .slice a l.length cap] w fun e w' => ∃ aa' ac' wa' wc', e = .returned (.int .i64 0) ∧ Inv B (Res.cell p (refC (D.write at_ l) sa sc aa' ac' wa' wc') 99 :: Res.row 9 1 (.slice sa D.dur.length sc) D.dur.length (D.dur.map strV) :: Res.row 3 1 (.slice aa' (D.write at_ l).pend.length ac') (D.write at_ l).pend.length ((D.write at_ l).pend.map atV) :: Res.row 9 1 (.slice wa' (D.write at_ l).pend.length wc') (D.write at_ l).pend.length ((D.write at_ l).pend.map whV) :: H) w' := by
  unfold refC at hv
  have hns : 1 ≤ Disk.nsec l := by unfold Disk.nsec; omega
  have hnm : Disk.nsec l ≤ 100000 := by omega
  refine (callsIn_wide (n := 5)).1 ?_
  refine callsIn_of_wp Try.func29 rfl trivial ?_
  simp only [Try.ntmps29, List.size_toArray, List.length_cons, List.length_nil, Nat.reduceAdd, Nat.reduceSub, Array.replicate_succ, Array.replicate_zero, List.push_toArray, List.append_toArray, List.nil_append, List.cons_append]
  refine wpIn_seq_k (fun K1 hK1 => ?_)
  refine wpIn_region_lit ?_
  refine wpi_exG (v := .int .i64 0) (fun _ => trivial) (wn rfl) rfl (ex_assign rfl rfl) ?_
  refine wpListIn_nil ?_
  simp only [Act.put, List.setIfInBounds_toArray, List.set_cons_succ, List.set_cons_zero]
  refine then_normal (hK1 _ _ ?_)
  clear hK1 K1
  refine wpIn_seq_k (fun K2 hK2 => ?_)
  refine wpIn_region_lit ?_
  refine wpi_exG (v := .slice a l.length cap) (fun _ => trivial) (wn rfl) rfl (ex_move rfl rfl) ?_
  refine wpi_callG r7callable47 (fun _ => trivial) wideC rfl (wn rfl) rfl (args := #[.slice a l.length cap]) (by simp only [List.map_toArray, List.map_cons, List.map_nil]; rfl) ((refCut _ _ _ _ _ l (by omega) hok hr hv).mono ?_)
  rintro e w5 ⟨va3, vc4, rfl, hv⟩
  refine ⟨_, rfl, ?_⟩
  obtain ⟨C6, hB7, hv7, hrc, -⟩ := Inv.rowStays hv
  clear hv
  have hv := hv7
  clear hv7
  refine wpi_exG (v := .slice va3 (Disk.nsec l) vc4) (fun _ => trivial) (wn rfl) rfl (ex_assign rfl rfl) ?_
  refine wpListIn_nil ?_
  simp only [Act.put, List.setIfInBounds_toArray, List.set_cons_succ, List.set_cons_zero]
  refine then_normal (hK2 _ _ ?_)
  clear hK2 K2
  refine wpIn_seq_k (fun K8 hK8 => ?_)
  refine wpIn_seq_k (fun K9 hK9 => ?_)
  refine wpIn_region_lit ?_
  refine wpi_exG (v := .pointer (some ⟨p, 0, none⟩)) (fun _ => trivial) (wn rfl) rfl (ex_move rfl rfl) ?_
  refine wpi_exG (v := .int .i64 (at_ : Int)) (fun _ => trivial) (wn rfl) rfl (ex_move rfl rfl) ?_
  refine wpi_exG (v := .slice va3 (Disk.nsec l) vc4) (fun _ => trivial) (wn rfl) rfl (ex_move rfl rfl) ?_
  simp only [Act.put, List.setIfInBounds_toArray, List.set_cons_succ, List.set_cons_zero]
  refine wpi_exG (v := .int .i64 ((Disk.nsec l) : Int)) (fun _ => trivial) (wn rfl) rfl (ex_len0 Try.underlying97 rfl rfl) ?_
  refine wpi_callG r7callable48 (fun _ => trivial) wideC rfl (wn rfl) rfl (args := #[.pointer (some ⟨p, 0, none⟩), .int .i64 (at_ : Int), .int .i64 ((Disk.nsec l) : Int)]) (by simp only [List.map_toArray, List.map_cons, List.map_nil]; rfl) ((refThere _ _ _ p D _ _ _ _ _ _ at_ (Disk.nsec l) true (decide_eq_true (by omega)) hdm (by omega) (hv.front 0 rfl)).mono ?_)
  rintro e w10 ⟨rfl, rfl⟩
  refine ⟨_, rfl, ?_⟩
  refine wpi_exG (v := .bool false) (fun _ => trivial) (wn rfl) rfl (ex_not rfl rfl rfl) ?_
  refine wpListIn_nil ?_
  simp only [Act.put, List.setIfInBounds_toArray, List.set_cons_succ, List.set_cons_zero]
  refine then_normal (hK9 _ _ ?_)
  clear hK9 K9
  refine wpIn_cond_false rfl ?_
  refine wpIn_skip ?_
  refine then_normal (hK8 _ _ ?_)
  clear hK8 K8
  refine wpIn_seq_k (fun K11 hK11 => ?_)
  refine wpIn_seq_k (fun K12 hK12 => ?_)
  refine wpIn_region_lit ?_
  refine wpi_exG (v := .pointer (some ⟨p, 0, none⟩)) (fun _ => trivial) (wn rfl) rfl (ex_move rfl rfl) ?_
  refine wpi_callG r7callable49 (fun _ => trivial) wideC rfl (wn rfl) rfl (args := #[.pointer (some ⟨p, 0, none⟩)]) (by simp only [List.map_toArray, List.map_cons, List.map_nil]; rfl) ((refOn _ _ _ p D _ _ _ _ _ _ (hv.front 0 rfl)).mono ?_)
  rintro e w13 ⟨rfl, rfl⟩
  refine ⟨_, rfl, ?_⟩
  refine wpi_exG (v := .bool false) (fun _ => trivial) (wn rfl) rfl (ex_not rfl rfl rfl) ?_
  refine wpListIn_nil ?_
  simp only [Act.put, List.setIfInBounds_toArray, List.set_cons_succ, List.set_cons_zero]
  refine then_normal (hK12 _ _ ?_)
  clear hK12 K12
  refine wpIn_cond_false rfl ?_
  refine wpIn_skip ?_
  refine then_normal (hK11 _ _ ?_)
  clear hK11 K11
  refine wpIn_seq_k (fun K14 hK14 => ?_)
  refine wpIn_seq_k (fun K15 hK15 => ?_)
  refine wpIn_region_lit ?_
  refine wpi_exG (v := .int .i64 0) (fun _ => trivial) (wn rfl) rfl (ex_assign rfl rfl) ?_
  refine wpListIn_nil ?_
  simp only [Act.put, List.setIfInBounds_toArray, List.set_cons_succ, List.set_cons_zero]
  refine then_normal (hK15 _ _ ?_)
  clear hK15 K15
  refine wpIn_block ?_
  gi_loopw [8] (fun x8 wr => ∃ (i : Nat) (aa : Option Addr) (ac : Nat) (wa : Option Addr) (wc : Nat), x8 = .int .i64 (i : Int) ∧ i ≤ Disk.nsec l ∧ Inv C6 (Res.cell p [.slice sa D.dur.length sc, .slice aa (D.pend.length + i) ac, .slice wa (D.pend.length + i) wc, .int .i64 (-1)] 99 :: Res.row 9 1 (.slice sa D.dur.length sc) D.dur.length (D.dur.map strV) :: Res.row 3 1 (.slice aa (D.pend.length + i) ac) (D.pend.length + i) ((pendTo D at_ l i).map atV) :: Res.row 9 1 (.slice wa (D.pend.length + i) wc) (D.pend.length + i) ((pendTo D at_ l i).map whV) :: H) wr) (fun x8 _ => Disk.nsec l - (intOf x8).toNat)
  case atStart => exact ⟨0, aa, ac, wa, wc, rfl, by omega, by rw [pendTo_zero]; exact ((((hv.front 3 rfl).front 3 rfl).front 3 rfl).front 3 rfl)⟩
  case round =>
    obtain ⟨i, aa, ac, wa, wc, rfl, hi, hv⟩ := hrel
    refine wpIn_seq_k (fun K17 hK17 => ?_)
    refine wpIn_seq_k (fun K18 hK18 => ?_)
    refine wpIn_region_lit ?_
    refine wpi_exG (v := .int .i64 (i : Int)) (fun _ => trivial) (wn rfl) rfl (ex_move rfl rfl) ?_
    refine wpi_exG (v := .slice va3 (Disk.nsec l) vc4) (fun _ => trivial) (wn rfl) rfl (ex_move rfl rfl) ?_
    refine wpi_exG (v := .int .i64 ((Disk.nsec l) : Int)) (fun _ => trivial) (wn rfl) rfl (ex_len0 Try.underlying97 rfl rfl) ?_
    simp only [Act.put, List.setIfInBounds_toArray, List.set_cons_succ, List.set_cons_zero]
    by_cases hb19 : (i : Int) < ((Disk.nsec l) : Int)
    · have hcx := cut_at (l := l) (k := Disk.nsec l) (i := i) (by omega)
      obtain ⟨ab, aoff, rfl⟩ := rd_addr hrc hcx
      skip
      refine wpi_exG (v := .bool true) (fun _ => trivial) (wn rfl) rfl (ex_lss (k := .i64) (m := (i : Int)) (n := ((Disk.nsec l) : Int)) rfl rfl rfl (decide_eq_true hb19)) ?_
      refine wpListIn_nil ?_
      simp only [Act.put, List.setIfInBounds_toArray, List.set_cons_succ, List.set_cons_zero]
      refine then_normal (hK18 _ _ ?_)
      clear hK18 K18
      refine wpIn_cond_true rfl ?_
      refine wpIn_skip ?_
      refine then_normal (hK17 _ _ ?_)
      clear hK17 K17
      refine wpIn_seq_k (fun K20 hK20 => ?_)
      refine wpIn_block ?_
      refine wpIn_seq_k (fun K21 hK21 => ?_)
      refine wpIn_region_lit ?_
      refine wpi_exG (v := .pointer (some ⟨p, 0, none⟩)) (fun _ => trivial) (wn rfl) rfl (ex_move rfl rfl) ?_
      refine wpi_exG (v := .pointer (some ⟨p, 0, none⟩)) (fun _ => trivial) (wn rfl) rfl (ex_move rfl rfl) ?_
      refine wpi_exG (v := .pointer (some ⟨p, 0, none⟩)) (fun _ => trivial) (wn rfl) rfl (ex_nil rfl rfl) ?_
      simp only [Act.put, List.setIfInBounds_toArray, List.set_cons_succ, List.set_cons_zero]
      refine wpi_exG (v := .pointer (some ⟨p, 1, none⟩)) (fun _ => trivial) (wn rfl) rfl (ex_field rfl rfl (r7fa99_1 _ _ _)) ?_
      refine wpi_exG (v := .slice aa (D.pend.length + i) ac) (fun _ => trivial) (wn rfl) rfl (ex_load rfl rfl (run_load1 r7na44 (hv.load 0 1 rfl rfl))) ?_
      refine wpi_exG (v := .int .i64 (at_ : Int)) (fun _ => trivial) (wn rfl) rfl (ex_move rfl rfl) ?_
      simp only [Act.put, List.setIfInBounds_toArray, List.set_cons_succ, List.set_cons_zero]
      refine wpi_exG (v := .int .i64 (i : Int)) (fun _ => trivial) (wn rfl) rfl (ex_move rfl rfl) ?_
      refine wpi_exG (v := .int .i64 ((at_ + i : Nat) : Int)) (fun _ => trivial) (wn rfl) rfl (ex_add (m := (at_ : Int)) (n := (i : Int)) rfl rfl rfl (by rw [i64_in (by omega)]; omega)) ?_
      refine sl_rowOne (v := .int .i64 ((at_ + i : Nat) : Int)) (fun _ => trivial) (wn rfl) rfl rfl hv r7el44 rfl (fun b22 w23 hv => ?_)
      simp only [Act.put, List.setIfInBounds_toArray, List.set_cons_succ, List.set_cons_zero]
      replace hv := hv.front 3 rfl
      simp only [List.eraseIdx_cons_succ, List.eraseIdx_cons_zero] at hv
      refine sl_append (news := [Value.int .i64 ((at_ + i : Nat) : Int)]) (fun _ => trivial) (wn rfl) rfl rfl rfl r7el44 hv (ok_full (by omega)) rfl (rd_all (hv.get 1 rfl)) (one_int _) (by unfold maxLen; omega) (by omega) (fun v24 w27 hv => ?_)
      obtain ⟨va25, vc26, rfl⟩ := row_slice hv.head
      refine wpi_exG (v := .pointer (some ⟨p, 0, none⟩)) (fun _ => trivial) (wn rfl) rfl (ex_nil rfl rfl) ?_
      refine wpi_exG (v := .pointer (some ⟨p, 1, none⟩)) (fun _ => trivial) (wn rfl) rfl (ex_field rfl rfl (r7fa99_1 _ _ _)) ?_
      simp only [Act.put, List.setIfInBounds_toArray, List.set_cons_succ, List.set_cons_zero]
      refine sl_storeAt 2 (v := .slice va25 ((D.pend.length + i) + 1) vc26) (L' := [.slice sa D.dur.length sc, .slice va25 ((D.pend.length + i) + 1) vc26, .slice wa (D.pend.length + i) wc, .int .i64 (-1)]) (fun _ => trivial) (wn rfl) rfl rfl rfl hv rfl r7sz44 (by simp) rfl rfl rfl (fun w28 hv => ?_)
      simp only [List.set_cons_succ, List.set_cons_zero] at hv
      refine wpListIn_nil ?_
      simp only [Act.put, List.setIfInBounds_toArray, List.set_cons_succ, List.set_cons_zero]
      refine then_normal (hK21 _ _ ?_)
      clear hK21 K21
      refine region_st mixed [.pointer (some ⟨p, 0, none⟩), .pointer (some ⟨p, 0, none⟩), .pointer (some ⟨p, 0, none⟩), .pointer (some ⟨p, 2, none⟩), .slice wa (D.pend.length + i) wc, .slice (some ⟨ab, aoff, none⟩) (Disk.nsec l) vc4, .int .i64 (i : Int), .pointer (some ⟨ab, aoff + i, none⟩), .string ⟨(Disk.sector l i).toArray⟩, undef, undef, .pointer (some ⟨p, 0, none⟩), .pointer (some ⟨p, 2, none⟩), undef] [9, 10, 13] [⟨fun vals w => vals = [] ∧ Inv C6 (Res.row 3 1 (.slice va25 ((D.pend.length + i) + 1) vc26) ((D.pend.length + i) + 1) (((pendTo D at_ l i).map atV) ++ [Value.int .i64 ((at_ + i : Nat) : Int)]) :: Res.cell b22 [.int .i64 ((at_ + i : Nat) : Int)] 3 :: Res.cell p [.slice sa D.dur.length sc, .slice va25 ((D.pend.length + i) + 1) vc26, .slice wa (D.pend.length + i) wc, .int .i64 (-1)] 99 :: Res.row 9 1 (.slice sa D.dur.length sc) D.dur.length (D.dur.map strV) :: Res.row 9 1 (.slice wa (D.pend.length + i) wc) (D.pend.length + i) ((pendTo D at_ l i).map whV) :: H) w, fun _ _ _ ⟨h, hi⟩ he => ⟨h, hi.ext he⟩⟩, ⟨fun vals w => ∃ b29, vals = [.slice (some ⟨b29, 0, none⟩) 1 1] ∧ Inv C6 (Res.cell b29 [.string ⟨(Disk.sector l i).toArray⟩] 9 :: Res.row 3 1 (.slice va25 ((D.pend.length + i) + 1) vc26) ((D.pend.length + i) + 1) (((pendTo D at_ l i).map atV) ++ [Value.int .i64 ((at_ + i : Nat) : Int)]) :: Res.cell b22 [.int .i64 ((at_ + i : Nat) : Int)] 3 :: Res.cell p [.slice sa D.dur.length sc, .slice va25 ((D.pend.length + i) + 1) vc26, .slice wa (D.pend.length + i) wc, .int .i64 (-1)] 99 :: Res.row 9 1 (.slice sa D.dur.length sc) D.dur.length (D.dur.map strV) :: Res.row 9 1 (.slice wa (D.pend.length + i) wc) (D.pend.length + i) ((pendTo D at_ l i).map whV) :: H) w, fun _ _ _ ⟨b29, h, hi⟩ he => ⟨b29, h, hi.ext he⟩⟩, ⟨fun vals w => ∃ b29 va31 vc32, vals = [.slice (some ⟨b29, 0, none⟩) 1 1, .slice va31 ((D.pend.length + i) + 1) vc32] ∧ Inv C6 (Res.row 9 1 (.slice va31 ((D.pend.length + i) + 1) vc32) ((D.pend.length + i) + 1) (((pendTo D at_ l i).map whV) ++ [strV (Disk.sector l i)]) :: Res.cell b29 [.string ⟨(Disk.sector l i).toArray⟩] 9 :: Res.row 3 1 (.slice va25 ((D.pend.length + i) + 1) vc26) ((D.pend.length + i) + 1) (((pendTo D at_ l i).map atV) ++ [Value.int .i64 ((at_ + i : Nat) : Int)]) :: Res.cell b22 [.int .i64 ((at_ + i : Nat) : Int)] 3 :: Res.cell p [.slice sa D.dur.length sc, .slice va25 ((D.pend.length + i) + 1) vc26, .slice wa (D.pend.length + i) wc, .int .i64 (-1)] 99 :: Res.row 9 1 (.slice sa D.dur.length sc) D.dur.length (D.dur.map strV) :: H) w, fun _ _ _ ⟨b29, va31, vc32, h, hi⟩ he => ⟨b29, va31, vc32, h, hi.ext he⟩⟩, ⟨fun vals w => ∃ b29 va31 vc32, vals = [.slice (some ⟨b29, 0, none⟩) 1 1, .slice va31 ((D.pend.length + i) + 1) vc32, undef] ∧ Inv C6 (Res.row 9 1 (.slice va31 ((D.pend.length + i) + 1) vc32) ((D.pend.length + i) + 1) (((pendTo D at_ l i).map whV) ++ [strV (Disk.sector l i)]) :: Res.cell b29 [.string ⟨(Disk.sector l i).toArray⟩] 9 :: Res.row 3 1 (.slice va25 ((D.pend.length + i) + 1) vc26) ((D.pend.length + i) + 1) (((pendTo D at_ l i).map atV) ++ [Value.int .i64 ((at_ + i : Nat) : Int)]) :: Res.cell b22 [.int .i64 ((at_ + i : Nat) : Int)] 3 :: Res.cell p [.slice sa D.dur.length sc, .slice va25 ((D.pend.length + i) + 1) vc26, .slice va31 ((D.pend.length + i) + 1) vc32, .int .i64 (-1)] 99 :: Res.row 9 1 (.slice sa D.dur.length sc) D.dur.length (D.dur.map strV) :: H) w, fun _ _ _ ⟨b29, va31, vc32, h, hi⟩ he => ⟨b29, va31, vc32, h, hi.ext he⟩⟩] 51 rfl (by kernel_rfl) ⟨rfl, hv⟩ ⟨?_, ?_, ?_, ?_, ?_, ?_, ?_, ?_, ?_, ?_, ?_, ?_, ?_, ?_, trivial⟩ ?_
      · intro aa ww vals hJ hR
        exact add_step' rfl (Ex.adds' (ex_move rfl (show aa.eval (.tmp 0) = _ from hR.keep 0 rfl)) (wn rfl) rfl)
      · intro aa ww vals hJ hR
        exact add_step' rfl (Ex.adds' (ex_move rfl (show aa.eval (.tmp 0) = _ from hR.keep 0 rfl)) (wn rfl) rfl)
      · intro aa ww vals hJ hR
        exact add_step' rfl (Ex.adds' (ex_nil rfl (show aa.eval (.tmp 39) = _ from hR.v 1 39 rfl rfl rfl rfl)) (wn rfl) rfl)
      · intro aa ww vals hJ hR
        exact add_step' rfl (Ex.adds' (ex_field rfl (show aa.eval (.tmp 40) = _ from hR.v 2 40 rfl rfl rfl rfl) (r7fa99_2 _ _ _)) (wn rfl) rfl)
      · intro aa ww vals hJ hR
        have h2 : vals.length ≤ 1 := hR.hi 10 (by simp) rfl
        rcases (show vals.length = 0 ∨ vals.length = 1 by omega) with hl | hl
        · obtain ⟨hvals, hv⟩ := hJ.at0 hl
          exact add_step' rfl (Ex.adds' (ex_load rfl (show aa.eval (.tmp 41) = _ from hR.v 3 41 rfl rfl rfl rfl) (run_load1 r7na97 (hv.load 2 2 rfl rfl))) (wn rfl) rfl)
        · obtain ⟨b29, hvals, hv⟩ := hJ.at0 hl
          exact add_step' rfl (Ex.adds' (ex_load rfl (show aa.eval (.tmp 41) = _ from hR.v 3 41 rfl rfl rfl rfl) (run_load1 r7na97 (hv.load 3 2 rfl rfl))) (wn rfl) rfl)
      · intro aa ww vals hJ hR
        exact add_step' rfl (Ex.adds' (ex_move rfl (show aa.eval (.tmp 7) = _ from hR.keep 7 rfl)) (wn rfl) rfl)
      · intro aa ww vals hJ hR
        exact add_step' rfl (Ex.adds' (ex_move rfl (show aa.eval (.tmp 8) = _ from hR.keep 8 rfl)) (wn rfl) rfl)
      · intro aa ww vals hJ hR
        exact add_step' rfl (Ex.adds' (ex_index rfl (show aa.eval (.tmp 43) = _ from hR.v 5 43 rfl rfl rfl rfl) (show aa.eval (.tmp 44) = _ from hR.v 6 44 rfl rfl rfl rfl) (run_idx1 (k := i) Try.underlying97 r7es97 (by omega))) (wn rfl) rfl)
      · intro aa ww vals hJ hR
        have h2 : vals.length ≤ 0 := hR.hi 9 (by simp) rfl
        have hl : vals.length = 0 := by omega
        obtain ⟨hvals, hv⟩ := hJ.at0 hl
        exact add_step' rfl (Ex.adds' (ex_load rfl (show aa.eval (.tmp 45) = _ from hR.v 7 45 rfl rfl rfl rfl) (run_load1 r7na9 (rd_at hrc.any' hv hcx))) (wn rfl) rfl)
      · intro aa ww vals hJ hR
        refine mem_step' rfl fun hvl => ?_
        have hl : vals.length = 0 := hvl
        obtain ⟨hvals, hv⟩ := hJ.at0 hl
        refine mem_row1 (v := .string ⟨(Disk.sector l i).toArray⟩) (wn rfl) rfl (show aa.eval (.tmp 46) = _ from hR.v 8 46 rfl rfl rfl rfl) hv r7el97 rfl (fun b29 w30 hv => ?_)
        exact JS.next hl ⟨b29, by rw [hvals]; rfl, hv⟩
      · intro aa ww vals hJ hR
        refine mem_step' rfl fun hvl => ?_
        have hl : vals.length = 1 := hvl
        obtain ⟨b29, hvals, hv⟩ := hJ.at0 hl
        replace hv := hv.front 5 rfl
        simp only [List.eraseIdx_cons_succ, List.eraseIdx_cons_zero] at hv
        refine mem_append (news := [strV (Disk.sector l i)]) (wn rfl) rfl (show aa.eval (.tmp 42) = _ from hR.v 4 42 rfl rfl rfl rfl) (show aa.eval (.tmp 47) = _ from (hR.val 9 47 rfl rfl rfl).trans (by rw [hvals]; rfl)) r7el97 hv (ok_full (by omega)) rfl (rd_all (hv.get 1 rfl)) (one_str _) (by unfold maxLen; omega) (by omega) (fun v w33 hv => ?_)
        obtain ⟨va31, vc32, rfl⟩ := row_slice hv.head
        exact JS.next hl ⟨b29, va31, vc32, by rw [hvals]; rfl, hv⟩
      · intro aa ww vals hJ hR
        exact add_step' rfl (Ex.adds' (ex_nil rfl (show aa.eval (.tmp 38) = _ from hR.v 0 38 rfl rfl rfl rfl)) (wn rfl) rfl)
      · intro aa ww vals hJ hR
        exact add_step' rfl (Ex.adds' (ex_field rfl (show aa.eval (.tmp 49) = _ from hR.v 11 49 rfl rfl rfl rfl) (r7fa99_2 _ _ _)) (wn rfl) rfl)
      · intro aa ww vals hJ hR
        refine mem_step' rfl fun hvl => ?_
        have hl : vals.length = 2 := hvl
        obtain ⟨b29, va31, vc32, hvals, hv⟩ := hJ.at0 hl
        refine mem_storeAt 4 (v := .slice va31 ((D.pend.length + i) + 1) vc32) (L' := [.slice sa D.dur.length sc, .slice va25 ((D.pend.length + i) + 1) vc26, .slice va31 ((D.pend.length + i) + 1) vc32, .int .i64 (-1)]) (wn rfl) rfl (show aa.eval (.tmp 50) = _ from hR.v 12 50 rfl rfl rfl rfl) (show aa.eval (.tmp 48) = _ from (hR.val 10 48 rfl rfl rfl).trans (by rw [hvals]; rfl)) hv rfl r7sz97 (by simp) rfl rfl rfl (fun w34 hv => ?_)
        exact JS.next hl ⟨b29, va31, vc32, by rw [hvals]; rfl, hv⟩
      rintro w35 vals ⟨b29, va31, vc32, rfl, hv⟩
      rw [show mixV [9, 10, 13] [.slice (some ⟨b29, 0, none⟩) 1 1, .slice va31 ((D.pend.length + i) + 1) vc32, undef] 0 [.pointer (some ⟨p, 0, none⟩), .pointer (some ⟨p, 0, none⟩), .pointer (some ⟨p, 0, none⟩), .pointer (some ⟨p, 2, none⟩), .slice wa (D.pend.length + i) wc, .slice (some ⟨ab, aoff, none⟩) (Disk.nsec l) vc4, .int .i64 (i : Int), .pointer (some ⟨ab, aoff + i, none⟩), .string ⟨(Disk.sector l i).toArray⟩, undef, undef, .pointer (some ⟨p, 0, none⟩), .pointer (some ⟨p, 2, none⟩), undef] = [.pointer (some ⟨p, 0, none⟩), .pointer (some ⟨p, 0, none⟩), .pointer (some ⟨p, 0, none⟩), .pointer (some ⟨p, 2, none⟩), .slice wa (D.pend.length + i) wc, .slice (some ⟨ab, aoff, none⟩) (Disk.nsec l) vc4, .int .i64 (i : Int), .pointer (some ⟨ab, aoff + i, none⟩), .string ⟨(Disk.sector l i).toArray⟩, .slice (some ⟨b29, 0, none⟩) 1 1, .slice va31 ((D.pend.length + i) + 1) vc32, .pointer (some ⟨p, 0, none⟩), .pointer (some ⟨p, 2, none⟩), undef] from rfl]
      simp only [putAll, Act.put, List.setIfInBounds_toArray, List.set_cons_succ, List.set_cons_zero]
      refine blk_normal ?_
      refine then_normal (hK20 _ _ ?_)
      clear hK20 K20
      refine wpIn_region_lit ?_
      refine wpi_exG (v := .int .i64 (i : Int)) (fun _ => trivial) (wn rfl) rfl (ex_move rfl rfl) ?_
      refine wpi_exG (v := .int .i64 ((i : Int) + 1)) (fun _ => trivial) (wn rfl) rfl (ex_add (m := (i : Int)) (n := 1) rfl rfl rfl (i64_in (by omega))) ?_
      refine wpi_exG (v := .int .i64 ((i : Int) + 1)) (fun _ => trivial) (wn rfl) rfl (ex_assign rfl rfl) ?_
      refine wpListIn_nil ?_
      simp only [Act.put, List.setIfInBounds_toArray, List.set_cons_succ, List.set_cons_zero]
      refine then_normal ?_
      go_roundw
      case rel => 
          have hv9 := ((((hv.front 2 rfl).front 5 rfl).front 5 rfl).sub (List.Sublist.cons_cons _ (List.Sublist.cons_cons _ (List.Sublist.cons_cons _ (List.Sublist.cons_cons _ (List.Sublist.cons _ (List.Sublist.cons _ (List.Sublist.refl _))))))))
          rw [at_next, wh_next] at hv9
          exact ⟨i + 1, va25, vc26, va31, vc32, by simp, by omega, hv9⟩
      case measure => show Disk.nsec l - ((i : Int) + 1).toNat < Disk.nsec l - (i : Int).toNat; omega
    · refine wpi_exG (v := .bool false) (fun _ => trivial) (wn rfl) rfl (ex_lss (k := .i64) (m := (i : Int)) (n := ((Disk.nsec l) : Int)) rfl rfl rfl (decide_eq_false hb19)) ?_
      refine wpListIn_nil ?_
      simp only [Act.put, List.setIfInBounds_toArray, List.set_cons_succ, List.set_cons_zero]
      refine then_normal (hK18 _ _ ?_)
      clear hK18 K18
      refine wpIn_cond_false rfl ?_
      refine wpIn_exit ?_
      refine then_exit ?_
      clear hK17 K17
      refine then_exit ?_
      refine blk_hit ?_
      refine then_normal (hK14 _ _ ?_)
      clear hK14 K14
      refine wpIn_seq_k (fun K36 hK36 => ?_)
      refine wpIn_region_lit ?_
      refine wpi_exG (v := .int .i64 0) (fun _ => trivial) (wn rfl) rfl (ex_assign rfl rfl) ?_
      refine wpListIn_nil ?_
      simp only [Act.put, List.setIfInBounds_toArray, List.set_cons_succ, List.set_cons_zero]
      refine then_normal (hK36 _ _ ?_)
      clear hK36 K36
      refine wpIn_ret ?_
      refine bodyPost_ret (results_tmp rfl _ _ _) rfl ?_
      obtain rfl : i = Disk.nsec l := by omega
      have hv9 := (((((hv.front 3 rfl).front 3 rfl).front 3 rfl).front 3 rfl)).weak hB7
      rw [← pendTo_len D at_ l, ← write_pendTo] at hv9
      exact ⟨_, _, _, _, rfl, hv9⟩
set_option maxRecDepth 100000 in
set_option maxHeartbeats 1000000 in
theorem refWrite0 (B : Base) (H : List Res) (w : World) (p : Nat) (D : Disk) (sa : Option Addr) (sc : Nat) (aa : Option Addr) (ac : Nat) (wa : Option Addr) (wc : Nat) (at_ : Nat) (a : Option Addr) (cap : Nat) (l : List UInt8) (hl : l.length ≤ 1000000) (hok : SliceOk a l.length cap) (hr : RdV B [] a (l.map B8)) (hdm : D.dur.length ≤ 100000) (ham : at_ ≤ 100000) (hpm : D.pend.length ≤ 100000) (h0 : l.length = 0) (hv : Inv B (Res.cell p (refC D sa sc aa ac wa wc) 99 :: Res.row 9 1 (.slice sa D.dur.length sc) D.dur.length (D.dur.map strV) :: Res.row 3 1 (.slice aa D.pend.length ac) D.pend.length (D.pend.map atV) :: Res.row 9 1 (.slice wa D.pend.length wc) D.pend.length (D.pend.map whV) :: H) w) :
    Calls Try.prog 29 #[.pointer (some ⟨p, 0, none⟩), .int .i64 (at_ : Int), .slice a l.length cap] w fun e w' => e = .returned (.int .i64 2) ∧ Inv B (Res.cell p (refC D sa sc aa ac wa wc) 99 :: Res.row 9 1 (.slice sa D.dur.length sc) D.dur.length (D.dur.map strV) :: Res.row 3 1 (.slice aa D.pend.length ac) D.pend.length (D.pend.map atV) :: Res.row 9 1 (.slice wa D.pend.length wc) D.pend.length (D.pend.map whV) :: H) w' := by
  unfold refC at hv
  have hns : Disk.nsec l = 0 := by unfold Disk.nsec; omega
  refine (callsIn_wide (n := 5)).1 ?_
  refine callsIn_of_wp Try.func29 rfl trivial ?_
  simp only [Try.ntmps29, List.size_toArray, List.length_cons, List.length_nil, Nat.reduceAdd, Nat.reduceSub, Array.replicate_succ, Array.replicate_zero, List.push_toArray, List.append_toArray, List.nil_append, List.cons_append]
  refine wpIn_seq_k (fun K1 hK1 => ?_)
  refine wpIn_region_lit ?_
  refine wpi_exG (v := .int .i64 0) (fun _ => trivial) (wn rfl) rfl (ex_assign rfl rfl) ?_
  refine wpListIn_nil ?_
  simp only [Act.put, List.setIfInBounds_toArray, List.set_cons_succ, List.set_cons_zero]
  refine then_normal (hK1 _ _ ?_)
  clear hK1 K1
  refine wpIn_seq_k (fun K2 hK2 => ?_)
  refine wpIn_region_lit ?_
  refine wpi_exG (v := .slice a l.length cap) (fun _ => trivial) (wn rfl) rfl (ex_move rfl rfl) ?_
  refine wpi_callG r7callable47 (fun _ => trivial) wideC rfl (wn rfl) rfl (args := #[.slice a l.length cap]) (by simp only [List.map_toArray, List.map_cons, List.map_nil]; rfl) ((refCut _ _ _ _ _ l (by omega) hok hr hv).mono ?_)
  rintro e w5 ⟨va3, vc4, rfl, hv⟩
  refine ⟨_, rfl, ?_⟩
  obtain ⟨C6, hB7, hv7, hrc, -⟩ := Inv.rowStays hv
  clear hv
  have hv := hv7
  clear hv7
  refine wpi_exG (v := .slice va3 (Disk.nsec l) vc4) (fun _ => trivial) (wn rfl) rfl (ex_assign rfl rfl) ?_
  refine wpListIn_nil ?_
  simp only [Act.put, List.setIfInBounds_toArray, List.set_cons_succ, List.set_cons_zero]
  refine then_normal (hK2 _ _ ?_)
  clear hK2 K2
  refine wpIn_seq_k (fun K8 hK8 => ?_)
  refine wpIn_seq_k (fun K9 hK9 => ?_)
  refine wpIn_region_lit ?_
  refine wpi_exG (v := .pointer (some ⟨p, 0, none⟩)) (fun _ => trivial) (wn rfl) rfl (ex_move rfl rfl) ?_
  refine wpi_exG (v := .int .i64 (at_ : Int)) (fun _ => trivial) (wn rfl) rfl (ex_move rfl rfl) ?_
  refine wpi_exG (v := .slice va3 (Disk.nsec l) vc4) (fun _ => trivial) (wn rfl) rfl (ex_move rfl rfl) ?_
  simp only [Act.put, List.setIfInBounds_toArray, List.set_cons_succ, List.set_cons_zero]
  refine wpi_exG (v := .int .i64 ((Disk.nsec l) : Int)) (fun _ => trivial) (wn rfl) rfl (ex_len0 Try.underlying97 rfl rfl) ?_
  refine wpi_callG r7callable48 (fun _ => trivial) wideC rfl (wn rfl) rfl (args := #[.pointer (some ⟨p, 0, none⟩), .int .i64 (at_ : Int), .int .i64 ((Disk.nsec l) : Int)]) (by simp only [List.map_toArray, List.map_cons, List.map_nil]; rfl) ((refThere _ _ _ p D _ _ _ _ _ _ at_ (Disk.nsec l) false (decide_eq_false (by omega)) hdm (by omega) (hv.front 0 rfl)).mono ?_)
  rintro e w10 ⟨rfl, rfl⟩
  refine ⟨_, rfl, ?_⟩
  refine wpi_exG (v := .bool true) (fun _ => trivial) (wn rfl) rfl (ex_not rfl rfl rfl) ?_
  refine wpListIn_nil ?_
  simp only [Act.put, List.setIfInBounds_toArray, List.set_cons_succ, List.set_cons_zero]
  refine then_normal (hK9 _ _ ?_)
  clear hK9 K9
  refine wpIn_cond_true rfl ?_
  refine wpIn_seq_k (fun K11 hK11 => ?_)
  refine wpIn_region_lit ?_
  refine wpi_exG (v := .int .i64 2) (fun _ => trivial) (wn rfl) rfl (ex_assign rfl rfl) ?_
  refine wpListIn_nil ?_
  simp only [Act.put, List.setIfInBounds_toArray, List.set_cons_succ, List.set_cons_zero]
  refine then_normal (hK11 _ _ ?_)
  clear hK11 K11
  refine wpIn_ret ?_
  refine then_ret ?_
  clear hK8 K8
  refine bodyPost_ret (results_tmp rfl _ _ _) rfl ?_
  exact ⟨rfl, (((((hv.front 3 rfl).front 3 rfl).front 3 rfl).front 3 rfl)).weak hB7⟩
theorem r7es44 (w : World) : (sizeOf (Try.prog.elem 44)).run Try.prog w = .ok 1 w := by kernel_rfl
set_option maxRecDepth 100000 in
set_option maxHeartbeats 1000000 in
theorem refSee (B : Base) (H : List Res) (w : World) (p : Nat) (D : Disk) (sa : Option Addr) (sc : Nat) (aa : Option Addr) (ac : Nat) (wa : Option Addr) (wc : Nat) (i : Nat) (hi : i < D.dur.length) (hsa : RdV B [] sa (D.dur.map strV)) (haa : RdV B [] aa (D.pend.map atV)) (hwa : RdV B [] wa (D.pend.map whV)) (hdm : D.dur.length ≤ 100000) (hpm : D.pend.length ≤ 100000) (hv : Inv B (Res.cell p (refC D sa sc aa ac wa wc) 99 :: H) w) :
    Calls Try.prog 59 #[.pointer (some ⟨p, 0, none⟩), .int .i64 (i : Int)] w fun e w' => e = .returned (.string ⟨(D.see i).toArray⟩) ∧ Inv B (Res.cell p (refC D sa sc aa ac wa wc) 99 :: H) w' := by
  unfold refC at hv ⊢
  refine (callsIn_wide (n := 5)).1 ?_
  refine callsIn_of_wp Try.func59 rfl trivial ?_
  simp only [Try.ntmps59, List.size_toArray, List.length_cons, List.length_nil, Nat.reduceAdd, Nat.reduceSub, Array.replicate_succ, Array.replicate_zero, List.push_toArray, List.append_toArray, List.nil_append, List.cons_append]
  refine wpIn_seq_k (fun K1 hK1 => ?_)
  refine wpIn_region_lit ?_
  refine wpi_exG (v := .string ⟨([] : List UInt8).toArray⟩) (fun _ => trivial) (wn rfl) rfl (ex_assign rfl rfl) ?_
  refine wpListIn_nil ?_
  simp only [Act.put, List.setIfInBounds_toArray, List.set_cons_succ, List.set_cons_zero]
  refine then_normal (hK1 _ _ ?_)
  clear hK1 K1
  refine wpIn_seq_k (fun K2 hK2 => ?_)
  refine wpIn_seq_k (fun K3 hK3 => ?_)
  refine wpIn_region_lit ?_
  refine wpi_exG (v := .pointer (some ⟨p, 0, none⟩)) (fun _ => trivial) (wn rfl) rfl (ex_move rfl rfl) ?_
  refine wpi_exG (v := .pointer (some ⟨p, 0, none⟩)) (fun _ => trivial) (wn rfl) rfl (ex_nil rfl rfl) ?_
  refine wpi_exG (v := .pointer (some ⟨p, 1, none⟩)) (fun _ => trivial) (wn rfl) rfl (ex_field rfl rfl (r7fa99_1 _ _ _)) ?_
  simp only [Act.put, List.setIfInBounds_toArray, List.set_cons_succ, List.set_cons_zero]
  refine wpi_exG (v := .slice aa D.pend.length ac) (fun _ => trivial) (wn rfl) rfl (ex_load rfl rfl (run_load1 r7na44 (hv.load 0 1 rfl rfl))) ?_
  refine wpi_exG (v := .int .i64 (D.pend.length : Int)) (fun _ => trivial) (wn rfl) rfl (ex_len0 Try.underlying44 rfl rfl) ?_
  refine wpi_exG (v := .int .i64 ((D.pend.length : Int) - 1)) (fun _ => trivial) (wn rfl) rfl (ex_sub (m := (D.pend.length : Int)) (n := 1) rfl rfl rfl (i64_in (by omega))) ?_
  simp only [Act.put, List.setIfInBounds_toArray, List.set_cons_succ, List.set_cons_zero]
  refine wpi_exG (v := .int .i64 ((D.pend.length : Int) - 1)) (fun _ => trivial) (wn rfl) rfl (ex_assign rfl rfl) ?_
  refine wpListIn_nil ?_
  simp only [Act.put, List.setIfInBounds_toArray, List.set_cons_succ, List.set_cons_zero]
  refine then_normal (hK3 _ _ ?_)
  clear hK3 K3
  refine wpIn_block ?_
  gi_loopw [5] (fun x5 wr => ∃ k : Nat, x5 = .int .i64 ((k : Int) - 1) ∧ k ≤ D.pend.length ∧ D.see i = Disk.over (D.pend.take k) i (D.dur.getD i []) ∧ Inv B (Res.cell p [.slice sa D.dur.length sc, .slice aa D.pend.length ac, .slice wa D.pend.length wc, .int .i64 (-1)] 99 :: H) wr) (fun x5 _ => (intOf x5 + 1).toNat)
  case atStart => exact ⟨D.pend.length, rfl, by omega, by rw [List.take_length]; rfl, hv⟩
  case round =>
    obtain ⟨k, rfl, hk, hsee, hv⟩ := hrel
    refine wpIn_seq_k (fun K5 hK5 => ?_)
    refine wpIn_seq_k (fun K6 hK6 => ?_)
    refine wpIn_region_lit ?_
    refine wpi_exG (v := .int .i64 ((k : Int) - 1)) (fun _ => trivial) (wn rfl) rfl (ex_move rfl rfl) ?_
    by_cases hb7 : ((k : Int) - 1) ≥ 0
    · refine wpi_exG (v := .bool true) (fun _ => trivial) (wn rfl) rfl (ex_geq (k := .i64) (m := ((k : Int) - 1)) (n := 0) rfl rfl rfl (decide_eq_true hb7)) ?_
      obtain ⟨j, rfl⟩ : ∃ j, k = j + 1 := ⟨k - 1, by omega⟩
      rw [show (((j + 1 : Nat) : Int) - 1) = (j : Int) by omega]
      obtain ⟨x, hx⟩ : ∃ x, D.pend[j]? = some x := ⟨_, List.getElem?_eq_getElem (by omega)⟩
      obtain ⟨ab, aoff, rfl⟩ := rd_addr haa (map_at hx)
      obtain ⟨wb, woff, rfl⟩ := rd_addr hwa (map_at hx)
      refine wpListIn_nil ?_
      simp only [Act.put, List.setIfInBounds_toArray, List.set_cons_succ, List.set_cons_zero]
      refine then_normal (hK6 _ _ ?_)
      clear hK6 K6
      refine wpIn_cond_true rfl ?_
      refine wpIn_skip ?_
      refine then_normal (hK5 _ _ ?_)
      clear hK5 K5
      refine wpIn_seq_k (fun K8 hK8 => ?_)
      refine wpIn_block ?_
      refine wpIn_seq_k (fun K9 hK9 => ?_)
      refine wpIn_region_lit ?_
      refine wpi_exG (v := .pointer (some ⟨p, 0, none⟩)) (fun _ => trivial) (wn rfl) rfl (ex_move rfl rfl) ?_
      refine wpi_exG (v := .pointer (some ⟨p, 0, none⟩)) (fun _ => trivial) (wn rfl) rfl (ex_nil rfl rfl) ?_
      refine wpi_exG (v := .pointer (some ⟨p, 1, none⟩)) (fun _ => trivial) (wn rfl) rfl (ex_field rfl rfl (r7fa99_1 _ _ _)) ?_
      simp only [Act.put, List.setIfInBounds_toArray, List.set_cons_succ, List.set_cons_zero]
      refine wpi_exG (v := .slice (some ⟨ab, aoff, none⟩) D.pend.length ac) (fun _ => trivial) (wn rfl) rfl (ex_load rfl rfl (run_load1 r7na44 (hv.load 0 1 rfl rfl))) ?_
      refine wpi_exG (v := .int .i64 (j : Int)) (fun _ => trivial) (wn rfl) rfl (ex_move rfl rfl) ?_
      refine wpi_exG (v := .pointer (some ⟨ab, aoff + j, none⟩)) (fun _ => trivial) (wn rfl) rfl (ex_index rfl rfl rfl (run_idx1 (k := j) Try.underlying44 r7es44 (by omega))) ?_
      simp only [Act.put, List.setIfInBounds_toArray, List.set_cons_succ, List.set_cons_zero]
      refine wpi_exG (v := .int .i64 (x.1 : Int)) (fun _ => trivial) (wn rfl) rfl (ex_load rfl rfl (run_load1 r7na3 (rd_at haa.any' hv (map_at hx)))) ?_
      refine wpi_exG (v := .int .i64 (i : Int)) (fun _ => trivial) (wn rfl) rfl (ex_move rfl rfl) ?_
      by_cases hb10 : (x.1 : Int) = (i : Int)
      · refine wpi_exG (v := .bool true) (fun _ => trivial) (wn rfl) rfl (ex_eql (k := .i64) (m := (x.1 : Int)) (n := (i : Int)) rfl rfl rfl (decide_eq_true hb10)) ?_
        refine wpListIn_nil ?_
        simp only [Act.put, List.setIfInBounds_toArray, List.set_cons_succ, List.set_cons_zero]
        refine then_normal (hK9 _ _ ?_)
        clear hK9 K9
        refine wpIn_cond_true rfl ?_
        refine wpIn_seq_k (fun K11 hK11 => ?_)
        refine wpIn_region_lit ?_
        refine wpi_exG (v := .pointer (some ⟨p, 0, none⟩)) (fun _ => trivial) (wn rfl) rfl (ex_move rfl rfl) ?_
        refine wpi_exG (v := .pointer (some ⟨p, 0, none⟩)) (fun _ => trivial) (wn rfl) rfl (ex_nil rfl rfl) ?_
        refine wpi_exG (v := .pointer (some ⟨p, 2, none⟩)) (fun _ => trivial) (wn rfl) rfl (ex_field rfl rfl (r7fa99_2 _ _ _)) ?_
        simp only [Act.put, List.setIfInBounds_toArray, List.set_cons_succ, List.set_cons_zero]
        refine wpi_exG (v := .slice (some ⟨wb, woff, none⟩) D.pend.length wc) (fun _ => trivial) (wn rfl) rfl (ex_load rfl rfl (run_load1 r7na97 (hv.load 0 2 rfl rfl))) ?_
        refine wpi_exG (v := .int .i64 (j : Int)) (fun _ => trivial) (wn rfl) rfl (ex_move rfl rfl) ?_
        refine wpi_exG (v := .pointer (some ⟨wb, woff + j, none⟩)) (fun _ => trivial) (wn rfl) rfl (ex_index rfl rfl rfl (run_idx1 (k := j) Try.underlying97 r7es97 (by omega))) ?_
        simp only [Act.put, List.setIfInBounds_toArray, List.set_cons_succ, List.set_cons_zero]
        refine wpi_exG (v := .string ⟨x.2.toArray⟩) (fun _ => trivial) (wn rfl) rfl (ex_load rfl rfl (run_load1 r7na9 (rd_at hwa.any' hv (map_at hx)))) ?_
        refine wpi_exG (v := .string ⟨x.2.toArray⟩) (fun _ => trivial) (wn rfl) rfl (ex_assign rfl rfl) ?_
        refine wpListIn_nil ?_
        simp only [Act.put, List.setIfInBounds_toArray, List.set_cons_succ, List.set_cons_zero]
        refine then_normal (hK11 _ _ ?_)
        clear hK11 K11
        refine wpIn_ret ?_
        refine blk_ret ?_
        refine then_ret ?_
        clear hK8 K8
        refine then_ret ?_
        refine blk_ret ?_
        refine then_ret ?_
        clear hK2 K2
        refine bodyPost_ret (results_tmp rfl _ _ _) rfl ?_
        rw [(see_step hx hsee).1 (by omega)]
        exact ⟨rfl, hv⟩
      · refine wpi_exG (v := .bool false) (fun _ => trivial) (wn rfl) rfl (ex_eql (k := .i64) (m := (x.1 : Int)) (n := (i : Int)) rfl rfl rfl (decide_eq_false hb10)) ?_
        refine wpListIn_nil ?_
        simp only [Act.put, List.setIfInBounds_toArray, List.set_cons_succ, List.set_cons_zero]
        refine then_normal (hK9 _ _ ?_)
        clear hK9 K9
        refine wpIn_cond_false rfl ?_
        refine wpIn_skip ?_
        refine blk_normal ?_
        refine then_normal (hK8 _ _ ?_)
        clear hK8 K8
        refine wpIn_region_lit ?_
        refine wpi_exG (v := .int .i64 (j : Int)) (fun _ => trivial) (wn rfl) rfl (ex_move rfl rfl) ?_
        refine wpi_exG (v := .int .i64 ((j : Int) - 1)) (fun _ => trivial) (wn rfl) rfl (ex_sub (m := (j : Int)) (n := 1) rfl rfl rfl (i64_in (by omega))) ?_
        refine wpi_exG (v := .int .i64 ((j : Int) - 1)) (fun _ => trivial) (wn rfl) rfl (ex_assign rfl rfl) ?_
        refine wpListIn_nil ?_
        simp only [Act.put, List.setIfInBounds_toArray, List.set_cons_succ, List.set_cons_zero]
        refine then_normal ?_
        go_roundw
        case rel => exact ⟨j, rfl, by omega, (see_step hx hsee).2 (by omega), hv⟩
        case measure => show ((j : Int) - 1 + 1).toNat < (((j + 1 : Nat) : Int) - 1 + 1).toNat; omega
    · refine wpi_exG (v := .bool false) (fun _ => trivial) (wn rfl) rfl (ex_geq (k := .i64) (m := ((k : Int) - 1)) (n := 0) rfl rfl rfl (decide_eq_false hb7)) ?_
      refine wpListIn_nil ?_
      simp only [Act.put, List.setIfInBounds_toArray, List.set_cons_succ, List.set_cons_zero]
      refine then_normal (hK6 _ _ ?_)
      clear hK6 K6
      refine wpIn_cond_false rfl ?_
      refine wpIn_exit ?_
      refine then_exit ?_
      clear hK5 K5
      refine then_exit ?_
      refine blk_hit ?_
      refine then_normal (hK2 _ _ ?_)
      clear hK2 K2
      refine wpIn_seq_k (fun K12 hK12 => ?_)
      obtain ⟨y, hy⟩ : ∃ y, D.dur[i]? = some y := ⟨_, List.getElem?_eq_getElem (by omega)⟩
      obtain ⟨sb, soff, rfl⟩ := rd_addr hsa (map_at hy)
      refine wpIn_region_lit ?_
      refine wpi_exG (v := .pointer (some ⟨p, 0, none⟩)) (fun _ => trivial) (wn rfl) rfl (ex_move rfl rfl) ?_
      refine wpi_exG (v := .pointer (some ⟨p, 0, none⟩)) (fun _ => trivial) (wn rfl) rfl (ex_nil rfl rfl) ?_
      refine wpi_exG (v := .pointer (some ⟨p, 0, none⟩)) (fun _ => trivial) (wn rfl) rfl (ex_field rfl rfl (r7fa99_0 _ _ _)) ?_
      simp only [Act.put, List.setIfInBounds_toArray, List.set_cons_succ, List.set_cons_zero]
      refine wpi_exG (v := .slice (some ⟨sb, soff, none⟩) D.dur.length sc) (fun _ => trivial) (wn rfl) rfl (ex_load rfl rfl (run_load1 r7na97 (hv.load 0 0 rfl rfl))) ?_
      refine wpi_exG (v := .int .i64 (i : Int)) (fun _ => trivial) (wn rfl) rfl (ex_move rfl rfl) ?_
      refine wpi_exG (v := .pointer (some ⟨sb, soff + i, none⟩)) (fun _ => trivial) (wn rfl) rfl (ex_index rfl rfl rfl (run_idx1 (k := i) Try.underlying97 r7es97 (by omega))) ?_
      simp only [Act.put, List.setIfInBounds_toArray, List.set_cons_succ, List.set_cons_zero]
      refine wpi_exG (v := .string ⟨y.toArray⟩) (fun _ => trivial) (wn rfl) rfl (ex_load rfl rfl (run_load1 r7na9 (rd_at hsa.any' hv (map_at hy)))) ?_
      refine wpi_exG (v := .string ⟨y.toArray⟩) (fun _ => trivial) (wn rfl) rfl (ex_assign rfl rfl) ?_
      refine wpListIn_nil ?_
      simp only [Act.put, List.setIfInBounds_toArray, List.set_cons_succ, List.set_cons_zero]
      refine then_normal (hK12 _ _ ?_)
      clear hK12 K12
      refine wpIn_ret ?_
      refine bodyPost_ret (results_tmp rfl _ _ _) rfl ?_
      obtain rfl : k = 0 := by omega
      have e : D.see i = y := by rw [hsee, List.take_zero]; show D.dur.getD i [] = y; rw [List.getD_eq_getElem?_getD, hy]; rfl
      rw [e]
      exact ⟨rfl, hv⟩
theorem r7callable59 : Callable Try.prog 59 := ⟨_, Try.func59, by kernel_rfl, by kernel_rfl⟩
set_option maxRecDepth 100000 in
set_option maxHeartbeats 1000000 in
theorem refRead (B : Base) (H : List Res) (w : World) (p : Nat) (D : Disk) (sa : Option Addr) (sc : Nat) (aa : Option Addr) (ac : Nat) (wa : Option Addr) (wc : Nat) (at_ n : Nat) (hok : D.Ok) (h1 : 1 ≤ n) (hf : at_ + n ≤ D.dur.length) (hsa : RdV B [] sa (D.dur.map strV)) (haa : RdV B [] aa (D.pend.map atV)) (hwa : RdV B [] wa (D.pend.map whV)) (hdm : D.dur.length ≤ 100000) (hpm : D.pend.length ≤ 100000) (hv : Inv B (Res.cell p (refC D sa sc aa ac wa wc) 99 :: H) w) :
    Calls Try.prog 51 #[.pointer (some ⟨p, 0, none⟩), .int .i64 (at_ : Int), .int .i64 (n : Int)] w fun e w' => e = .returned (.tuple #[.string ⟨((D.view D.pend at_ n).flatten).toArray⟩, .int .i64 0]) ∧ Inv B (Res.cell p (refC D sa sc aa ac wa wc) 99 :: H) w' := by
  unfold refC at hv ⊢
  refine (callsIn_wide (n := 5)).1 ?_
  refine callsIn_of_wp Try.func51 rfl trivial ?_
  simp only [Try.ntmps51, List.size_toArray, List.length_cons, List.length_nil, Nat.reduceAdd, Nat.reduceSub, Array.replicate_succ, Array.replicate_zero, List.push_toArray, List.append_toArray, List.nil_append, List.cons_append]
  refine wpIn_seq_k (fun K1 hK1 => ?_)
  refine wpIn_region_lit ?_
  refine wpi_exG (v := .string ⟨([] : List UInt8).toArray⟩) (fun _ => trivial) (wn rfl) rfl (ex_assign rfl rfl) ?_
  refine wpi_exG (v := .int .i64 0) (fun _ => trivial) (wn rfl) rfl (ex_assign rfl rfl) ?_
  refine wpListIn_nil ?_
  simp only [Act.put, List.setIfInBounds_toArray, List.set_cons_succ, List.set_cons_zero]
  refine then_normal (hK1 _ _ ?_)
  clear hK1 K1
  refine wpIn_seq_k (fun K2 hK2 => ?_)
  refine wpIn_seq_k (fun K3 hK3 => ?_)
  refine wpIn_region_lit ?_
  refine wpi_exG (v := .pointer (some ⟨p, 0, none⟩)) (fun _ => trivial) (wn rfl) rfl (ex_move rfl rfl) ?_
  refine wpi_exG (v := .int .i64 (at_ : Int)) (fun _ => trivial) (wn rfl) rfl (ex_move rfl rfl) ?_
  refine wpi_exG (v := .int .i64 (n : Int)) (fun _ => trivial) (wn rfl) rfl (ex_move rfl rfl) ?_
  simp only [Act.put, List.setIfInBounds_toArray, List.set_cons_succ, List.set_cons_zero]
  refine wpi_callG r7callable48 (fun _ => trivial) wideC rfl (wn rfl) rfl (args := #[.pointer (some ⟨p, 0, none⟩), .int .i64 (at_ : Int), .int .i64 (n : Int)]) (by simp only [List.map_toArray, List.map_cons, List.map_nil]; rfl) ((refThere _ _ _ p D _ _ _ _ _ _ at_ n true (decide_eq_true (by omega)) hdm (by omega) (hv.front 0 rfl)).mono ?_)
  rintro e w4 ⟨rfl, rfl⟩
  refine ⟨_, rfl, ?_⟩
  refine wpi_exG (v := .bool false) (fun _ => trivial) (wn rfl) rfl (ex_not rfl rfl rfl) ?_
  refine wpListIn_nil ?_
  simp only [Act.put, List.setIfInBounds_toArray, List.set_cons_succ, List.set_cons_zero]
  refine then_normal (hK3 _ _ ?_)
  clear hK3 K3
  refine wpIn_cond_false rfl ?_
  refine wpIn_skip ?_
  refine then_normal (hK2 _ _ ?_)
  clear hK2 K2
  refine wpIn_seq_k (fun K5 hK5 => ?_)
  refine wpIn_seq_k (fun K6 hK6 => ?_)
  refine wpIn_region_lit ?_
  refine wpi_exG (v := .pointer (some ⟨p, 0, none⟩)) (fun _ => trivial) (wn rfl) rfl (ex_move rfl rfl) ?_
  refine wpi_callG r7callable49 (fun _ => trivial) wideC rfl (wn rfl) rfl (args := #[.pointer (some ⟨p, 0, none⟩)]) (by simp only [List.map_toArray, List.map_cons, List.map_nil]; rfl) ((refOn _ _ _ p D _ _ _ _ _ _ (hv.front 0 rfl)).mono ?_)
  rintro e w7 ⟨rfl, rfl⟩
  refine ⟨_, rfl, ?_⟩
  refine wpi_exG (v := .bool false) (fun _ => trivial) (wn rfl) rfl (ex_not rfl rfl rfl) ?_
  refine wpListIn_nil ?_
  simp only [Act.put, List.setIfInBounds_toArray, List.set_cons_succ, List.set_cons_zero]
  refine then_normal (hK6 _ _ ?_)
  clear hK6 K6
  refine wpIn_cond_false rfl ?_
  refine wpIn_skip ?_
  refine then_normal (hK5 _ _ ?_)
  clear hK5 K5
  refine wpIn_seq_k (fun K8 hK8 => ?_)
  refine wpIn_region_lit ?_
  refine wpi_exG (v := .string ⟨([] : List UInt8).toArray⟩) (fun _ => trivial) (wn rfl) rfl (ex_assign rfl rfl) ?_
  refine wpListIn_nil ?_
  simp only [Act.put, List.setIfInBounds_toArray, List.set_cons_succ, List.set_cons_zero]
  refine then_normal (hK8 _ _ ?_)
  clear hK8 K8
  refine wpIn_seq_k (fun K9 hK9 => ?_)
  refine wpIn_seq_k (fun K10 hK10 => ?_)
  refine wpIn_region_lit ?_
  refine wpi_exG (v := .int .i64 (at_ : Int)) (fun _ => trivial) (wn rfl) rfl (ex_move rfl rfl) ?_
  refine wpi_exG (v := .int .i64 (at_ : Int)) (fun _ => trivial) (wn rfl) rfl (ex_assign rfl rfl) ?_
  refine wpListIn_nil ?_
  simp only [Act.put, List.setIfInBounds_toArray, List.set_cons_succ, List.set_cons_zero]
  refine then_normal (hK10 _ _ ?_)
  clear hK10 K10
  refine wpIn_block ?_
  gi_loopw [8, 9] (fun x8 x9 wr => ∃ k : Nat, x8 = .string ⟨((D.view D.pend at_ k).flatten).toArray⟩ ∧ x9 = .int .i64 ((at_ + k : Nat) : Int) ∧ k ≤ n ∧ Inv B (Res.cell p [.slice sa D.dur.length sc, .slice aa D.pend.length ac, .slice wa D.pend.length wc, .int .i64 (-1)] 99 :: H) wr) (fun x8 x9 _ => at_ + n - (intOf x9).toNat)
  case atStart => exact ⟨0, rfl, rfl, by omega, hv⟩
  case round =>
    obtain ⟨k, rfl, rfl, hk, hv⟩ := hrel
    refine wpIn_seq_k (fun K12 hK12 => ?_)
    refine wpIn_seq_k (fun K13 hK13 => ?_)
    refine wpIn_region_lit ?_
    refine wpi_exG (v := .int .i64 ((at_ + k : Nat) : Int)) (fun _ => trivial) (wn rfl) rfl (ex_move rfl rfl) ?_
    refine wpi_exG (v := .int .i64 (at_ : Int)) (fun _ => trivial) (wn rfl) rfl (ex_move rfl rfl) ?_
    refine wpi_exG (v := .int .i64 (n : Int)) (fun _ => trivial) (wn rfl) rfl (ex_move rfl rfl) ?_
    simp only [Act.put, List.setIfInBounds_toArray, List.set_cons_succ, List.set_cons_zero]
    refine wpi_exG (v := .int .i64 ((at_ + n : Nat) : Int)) (fun _ => trivial) (wn rfl) rfl (ex_add (m := (at_ : Int)) (n := (n : Int)) rfl rfl rfl (by rw [i64_in (by omega)]; omega)) ?_
    by_cases hb14 : ((at_ + k : Nat) : Int) < ((at_ + n : Nat) : Int)
    · refine wpi_exG (v := .bool true) (fun _ => trivial) (wn rfl) rfl (ex_lss (k := .i64) (m := ((at_ + k : Nat) : Int)) (n := ((at_ + n : Nat) : Int)) rfl rfl rfl (decide_eq_true hb14)) ?_
      refine wpListIn_nil ?_
      simp only [Act.put, List.setIfInBounds_toArray, List.set_cons_succ, List.set_cons_zero]
      refine then_normal (hK13 _ _ ?_)
      clear hK13 K13
      refine wpIn_cond_true rfl ?_
      refine wpIn_skip ?_
      refine then_normal (hK12 _ _ ?_)
      clear hK12 K12
      refine wpIn_seq_k (fun K15 hK15 => ?_)
      refine wpIn_block ?_
      refine wpIn_region_lit ?_
      refine wpi_exG (v := .string ⟨((D.view D.pend at_ k).flatten).toArray⟩) (fun _ => trivial) (wn rfl) rfl (ex_move rfl rfl) ?_
      refine wpi_exG (v := .pointer (some ⟨p, 0, none⟩)) (fun _ => trivial) (wn rfl) rfl (ex_move rfl rfl) ?_
      refine wpi_exG (v := .int .i64 ((at_ + k : Nat) : Int)) (fun _ => trivial) (wn rfl) rfl (ex_move rfl rfl) ?_
      simp only [Act.put, List.setIfInBounds_toArray, List.set_cons_succ, List.set_cons_zero]
      refine wpi_callG r7callable59 (fun _ => trivial) wideC rfl (wn rfl) rfl (args := #[.pointer (some ⟨p, 0, none⟩), .int .i64 ((at_ + k : Nat) : Int)]) (by simp only [List.map_toArray, List.map_cons, List.map_nil]; rfl) ((refSee _ _ _ p D _ _ _ _ _ _ (at_ + k) (by omega) hsa haa hwa hdm hpm hv).mono ?_)
      rintro e w16 ⟨rfl, hv⟩
      refine ⟨_, rfl, ?_⟩
      refine wpi_exG (v := .string ⟨(((D.view D.pend at_ k).flatten) ++ (D.see (at_ + k))).toArray⟩) (fun _ => trivial) (wn rfl) rfl (ex_cat (s := ((D.view D.pend at_ k).flatten)) (s' := (D.see (at_ + k))) rfl rfl rfl (by rw [view_len64 hok (by omega), see_len hok (by omega)]; omega)) ?_
      refine wpi_exG (v := .string ⟨(((D.view D.pend at_ k).flatten) ++ (D.see (at_ + k))).toArray⟩) (fun _ => trivial) (wn rfl) rfl (ex_assign rfl rfl) ?_
      refine wpListIn_nil ?_
      simp only [Act.put, List.setIfInBounds_toArray, List.set_cons_succ, List.set_cons_zero]
      refine blk_normal ?_
      refine then_normal (hK15 _ _ ?_)
      clear hK15 K15
      refine wpIn_region_lit ?_
      refine wpi_exG (v := .int .i64 ((at_ + k : Nat) : Int)) (fun _ => trivial) (wn rfl) rfl (ex_move rfl rfl) ?_
      refine wpi_exG (v := .int .i64 (((at_ + k : Nat) : Int) + 1)) (fun _ => trivial) (wn rfl) rfl (ex_add (m := ((at_ + k : Nat) : Int)) (n := 1) rfl rfl rfl (i64_in (by omega))) ?_
      refine wpi_exG (v := .int .i64 (((at_ + k : Nat) : Int) + 1)) (fun _ => trivial) (wn rfl) rfl (ex_assign rfl rfl) ?_
      refine wpListIn_nil ?_
      simp only [Act.put, List.setIfInBounds_toArray, List.set_cons_succ, List.set_cons_zero]
      refine then_normal ?_
      go_roundw
      case rel => exact ⟨k + 1, by rw [view_next], by rfl, by omega, hv⟩
      case measure => show at_ + n - (((at_ + k : Nat) : Int) + 1).toNat < at_ + n - ((at_ + k : Nat) : Int).toNat; omega
    · refine wpi_exG (v := .bool false) (fun _ => trivial) (wn rfl) rfl (ex_lss (k := .i64) (m := ((at_ + k : Nat) : Int)) (n := ((at_ + n : Nat) : Int)) rfl rfl rfl (decide_eq_false hb14)) ?_
      refine wpListIn_nil ?_
      simp only [Act.put, List.setIfInBounds_toArray, List.set_cons_succ, List.set_cons_zero]
      refine then_normal (hK13 _ _ ?_)
      clear hK13 K13
      refine wpIn_cond_false rfl ?_
      refine wpIn_exit ?_
      refine then_exit ?_
      clear hK12 K12
      refine then_exit ?_
      refine blk_hit ?_
      refine then_normal (hK9 _ _ ?_)
      clear hK9 K9
      refine wpIn_seq_k (fun K17 hK17 => ?_)
      refine wpIn_region_lit ?_
      refine wpi_exG (v := .string ⟨((D.view D.pend at_ k).flatten).toArray⟩) (fun _ => trivial) (wn rfl) rfl (ex_move rfl rfl) ?_
      refine wpi_exG (v := .string ⟨((D.view D.pend at_ k).flatten).toArray⟩) (fun _ => trivial) (wn rfl) rfl (ex_assign rfl rfl) ?_
      refine wpi_exG (v := .int .i64 0) (fun _ => trivial) (wn rfl) rfl (ex_assign rfl rfl) ?_
      refine wpListIn_nil ?_
      simp only [Act.put, List.setIfInBounds_toArray, List.set_cons_succ, List.set_cons_zero]
      refine then_normal (hK17 _ _ ?_)
      clear hK17 K17
      refine wpIn_ret ?_
      refine bodyPost_ret (results_tmp2 rfl _ _ _) rfl ?_
      obtain rfl : k = n := by omega
      exact ⟨rfl, hv⟩
end Go.Proofs.Ytkannfkjnohdlaa
