/- log.write -/
import Derived.Test.YtkannfkjnohdlaaMgH
import Derived.Test.YtkannfkjnohdlaaMgD
import Derived.Test.YtkannfkjnohdlaaMgG
namespace Go.Proofs.Ytkannfkjnohdlaa
open Go.RowKit Go.Pm
set_option maxRecDepth 100000 in
set_option maxHeartbeats 1000000 in
theorem logPiecesC (w : World) (a : Option Addr) (n c : Nat) :
    Calls Try.prog 65 #[.slice a n c] w fun e w' => e = .returned (.func (.func 68) #[] #[.pointer (some ⟨w.heap.size, 0, none⟩)]) ∧ w' = w.alloc (.cells #[.slice a n c] 24) := by
  go_enter Try.func65, Try.ntmps65
  go_wp2_with fail
  go_ret
  exact ⟨rfl, rfl⟩
theorem logPiecesSl (B : Base) (H : List Res) (w : World) (a : Option Addr) (n c : Nat) (hv : Inv B H w) :
    Calls Try.prog 65 #[.slice a n c] w fun e w' => ∃ bx, e = .returned (.func (.func 68) #[] #[.pointer (some ⟨bx, 0, none⟩)]) ∧ Inv B (Res.cell bx [.slice a n c] 24 :: H) w' := by
  refine (logPiecesC w a n c).mono ?_
  rintro e w' ⟨rfl, rfl⟩
  exact ⟨_, rfl, hv.alloc _ _⟩
/-- the first k body sectors -/
def ptxt (l : List UInt8) (k : Nat) : List UInt8 := ((List.range k).map (bodySec l)).flatten
theorem ptxt_succ (l : List UInt8) (k : Nat) : ptxt l (k + 1) = ptxt l k ++ bodySec l k := by
  unfold ptxt
  rw [List.range_succ, List.map_append, List.flatten_append]
  simp
theorem ptxt_len (l : List UInt8) (k : Nat) : (ptxt l k).length = 64 * k := by
  induction k with
  | zero => rfl
  | succ k ih => rw [ptxt_succ, List.length_append, ih, bodySec_len]; omega
theorem pces_len {l : List UInt8} {k : Nat} (h1 : 63 * k ≥ l.length) (h2 : k = 0 ∨ 63 * (k - 1) < l.length) : k = secs l.length - 1 := by
  unfold secs
  split <;> omega
theorem body_cells (l : List UInt8) (i : Nat) (h : 63 * i < l.length) : (bodySec l i).map B8 = [Value.int .u8 0] ++ (piece l (63 * i) (rcM l.length i)).map B8 ++ List.replicate (63 - rcM l.length i) (Value.int .u8 0) := by
  have e : piece l (63 * i) 63 = piece l (63 * i) (rcM l.length i) := by
    unfold piece rcM
    rw [← List.length_drop (i := 63 * i) (l := l), List.take_eq_take_min]
  have e2 : (piece l (63 * i) (rcM l.length i)).length = rcM l.length i := piece_length (by unfold rcM; omega)
  unfold bodySec
  rw [e, e2, List.map_cons, List.map_append, List.map_replicate]
  rfl
theorem zeros64b {m : Nat} (h : m ≤ 63) : List.replicate 64 (Value.int .u8 0) = [Value.int .u8 0] ++ List.replicate m (Value.int .u8 0) ++ List.replicate (63 - m) (Value.int .u8 0) := by
  rw [List.append_assoc, List.replicate_append_replicate, show m + (63 - m) = 63 by omega]
  rfl

theorem row_cell {B : Base} {H : List Res} {w : World} {va : Option Addr} {n vc : Nat} {xs : List Value} {e : TypeId} (hv : Pm.Inv B (Res.row e 1 (.slice va n vc) n xs :: H) w) (hn : 0 < n) : ∃ b L, va = some ⟨b, 0, none⟩ ∧ L.take n = xs ∧ SliceOk va n vc ∧ Pm.Inv B (Res.cell b L e :: H) w := by
  have hok := hv.head
  rcases hok.2 with ⟨h0, h1⟩ | ⟨gg, cp, cur, h0, h1, h2, h3, h4, h5, h6⟩
  · omega
  · cases h0
    refine ⟨gg, cur.toList, rfl, by simpa using h6, ⟨h3, h4, fun h => by cases h⟩, hv.as (Res.cell gg cur.toList e) ?_ ?_⟩
    · show w.heap[gg]? = some (.cells cur.toList.toArray e)
      rw [Array.toArray_toList]
      exact h2
    · show List.Sublist [gg] [gg]
      exact List.Sublist.refl _
theorem log_map (st : Nat) (l : List UInt8) : (([B8 82] ++ (beOf 8 st).map B8) ++ (beOf 4 l.length).map B8) ++ (beOf 4 (Crc.sum l)).map B8 ++ List.replicate 47 (Value.int .u8 0) = (logHdr st l).map B8 := by
  simp only [logHdr, List.map_append, List.map_replicate, List.map_cons, List.map_nil]
  rfl
theorem zeros63r : [Value.int .u8 82] ++ List.replicate 63 (Value.int .u8 0) = [B8 82] ++ List.replicate 8 (Value.int .u8 0) ++ List.replicate 55 (Value.int .u8 0) := rfl
theorem take_get {α : Type} {L xs : List α} {n i : Nat} (h : L.take n = xs) (hi : i < xs.length) : L[i]? = some xs[i] := by
  subst h
  rw [List.getElem_take, List.getElem?_eq_getElem]
theorem nsec_hdr (st : Nat) (l : List UInt8) : Disk.nsec (logHdr st l) = 1 := by unfold Disk.nsec; rw [logHdr_len]
theorem rd_all8 {w : World} {b : Nat} {l : List UInt8} {t : TypeId} (h : Blk w b (l.map B8) t) : Src w (some ⟨b, 0, none⟩) (l.map B8) := src_mid (pre := []) (post := []) (by simpa using h) rfl

theorem g4fa111_1 (w : World) (b o : Nat) : (Instr.fieldAt 111 (.pointer (some ⟨b, o, none⟩)) 1).run Try.prog w = .ok (.pointer (some ⟨b, o + 1, none⟩)) w := by kernel_rfl
theorem g4na3 (w : World) : (isAgg 3).run Try.prog w = .ok false w := by kernel_rfl
theorem g4fa111_3 (w : World) (b o : Nat) : (Instr.fieldAt 111 (.pointer (some ⟨b, o, none⟩)) 3).run Try.prog w = .ok (.pointer (some ⟨b, o + 3, none⟩)) w := by kernel_rfl
theorem g4al24 (w : World) : (Instr.alloc 24 true (.tuple #[])).run Try.prog w = .ok (.pointer (some ⟨w.heap.size, 0, none⟩)) (w.alloc (.cells ([.slice none 0 0] : List Value).toArray 24)) := by kernel_rfl
theorem g4callable65 : Callable Try.prog 65 := ⟨_, Try.func65, by kernel_rfl, by kernel_rfl⟩
theorem g4al89 (w : World) : (Instr.alloc 89 true (.tuple #[])).run Try.prog w = .ok (.pointer (some ⟨w.heap.size, 0, none⟩)) (w.alloc (.cells ([.int .u8 0, .int .u8 0, .int .u8 0, .int .u8 0, .int .u8 0, .int .u8 0, .int .u8 0, .int .u8 0, .int .u8 0, .int .u8 0, .int .u8 0, .int .u8 0, .int .u8 0, .int .u8 0, .int .u8 0, .int .u8 0, .int .u8 0, .int .u8 0, .int .u8 0, .int .u8 0, .int .u8 0, .int .u8 0, .int .u8 0, .int .u8 0, .int .u8 0, .int .u8 0, .int .u8 0, .int .u8 0, .int .u8 0, .int .u8 0, .int .u8 0, .int .u8 0, .int .u8 0, .int .u8 0, .int .u8 0, .int .u8 0, .int .u8 0, .int .u8 0, .int .u8 0, .int .u8 0, .int .u8 0, .int .u8 0, .int .u8 0, .int .u8 0, .int .u8 0, .int .u8 0, .int .u8 0, .int .u8 0, .int .u8 0, .int .u8 0, .int .u8 0, .int .u8 0, .int .u8 0, .int .u8 0, .int .u8 0, .int .u8 0, .int .u8 0, .int .u8 0, .int .u8 0, .int .u8 0, .int .u8 0, .int .u8 0, .int .u8 0, .int .u8 0] : List Value).toArray 89)) := by kernel_rfl
theorem g4sb89_1_64 (w : World) (b o : Nat) : (Instr.sliceAt 89 (.pointer (some ⟨b, o, none⟩)) (some (.int .i64 1)) none none).run Try.prog w = .ok (.slice (some ⟨b, o + 1, none⟩) 63 63) w := by kernel_rfl
theorem g4na24 (w : World) : (isAgg 24).run Try.prog w = .ok false w := by kernel_rfl
theorem g4sa89 (w : World) (b o : Nat) : (Instr.sliceAt 89 (.pointer (some ⟨b, o, none⟩)) none none none).run Try.prog w = .ok (.slice (some ⟨b, o, none⟩) 64 64) w := by kernel_rfl
theorem g4mk5 : (Try.prog.info? 5).map (fun i => (i.zero, i.size, i.bytes)) = some (some (.int .u8 0), 1, 1) := by kernel_rfl
theorem g4el24 : Elem Try.prog 24 5 (.int .u8 0) 1 1 := elem_of Try.underlying24 g4mk5 (by rfl) (by decide)
theorem g4sz24 : (Try.prog.info? 24).map (·.size) = some 1 := by kernel_rfl
theorem g4fa111_0 (w : World) (b o : Nat) : (Instr.fieldAt 111 (.pointer (some ⟨b, o, none⟩)) 0).run Try.prog w = .ok (.pointer (some ⟨b, o + 0, none⟩)) w := by kernel_rfl
theorem g4na36 (w : World) : (isAgg 36).run Try.prog w = .ok false w := by kernel_rfl
theorem g4callable22 : Callable Try.prog 22 := ⟨_, Try.func22, by kernel_rfl, by kernel_rfl⟩
theorem g4callable24 : Callable Try.prog 24 := ⟨_, Try.func24, by kernel_rfl, by kernel_rfl⟩
theorem g4ea89 (w : World) : (sizeOf 5).run Try.prog w = .ok 1 w := by kernel_rfl
theorem g4ua89 : Try.prog.underlying 89 = some (.array 64 5) := by kernel_rfl
theorem g4sz5 : (Try.prog.info? 5).map (·.size) = some 1 := by kernel_rfl
theorem g4sb89_1_9 (w : World) (b o : Nat) : (Instr.sliceAt 89 (.pointer (some ⟨b, o, none⟩)) (some (.int .i64 1)) (some (.int .i64 9)) none).run Try.prog w = .ok (.slice (some ⟨b, o + 1, none⟩) 8 63) w := by kernel_rfl
theorem g4callable66 : Callable Try.prog 66 := ⟨_, Try.func66, by kernel_rfl, by kernel_rfl⟩
theorem g4sb89_9_13 (w : World) (b o : Nat) : (Instr.sliceAt 89 (.pointer (some ⟨b, o, none⟩)) (some (.int .i64 9)) (some (.int .i64 13)) none).run Try.prog w = .ok (.slice (some ⟨b, o + 9, none⟩) 4 55) w := by kernel_rfl
theorem g4sb89_13_17 (w : World) (b o : Nat) : (Instr.sliceAt 89 (.pointer (some ⟨b, o, none⟩)) (some (.int .i64 13)) (some (.int .i64 17)) none).run Try.prog w = .ok (.slice (some ⟨b, o + 13, none⟩) 4 51) w := by kernel_rfl
theorem g4mk24 : (Try.prog.info? 24).map (fun i => (i.zero, i.size, i.bytes)) = some (some (.slice none 0 0), 1, 24) := by kernel_rfl
theorem g4el22 : Elem Try.prog 22 24 (.slice none 0 0) 1 24 := elem_of Try.underlying22 g4mk24 (by rfl) (by decide)
theorem g4callable15 : Callable Try.prog 15 := ⟨_, Try.func15, by kernel_rfl, by kernel_rfl⟩
set_option maxRecDepth 100000 in
set_option maxHeartbeats 2000000 in
theorem logWrite (B : Base) (H : List Res) (w : World) (q p from_ kn used last : Nat) (failed : Bool) (D : Disk) (F : List Nat) (st : Nat) (a : Option Addr) (nb cap : Nat) (l : List UInt8) (at_ : Nat) (hat : from_ + used = at_) (hst : st ≤ 1152921504606846975) (hfit : at_ + secs l.length ≤ D.dur.length) (hdm : D.dur.length ≤ 65536) (hpl : D.pend.length ≤ 1000000) (hn : l.length = nb) (hb2 : nb ≤ 1048576) (hok : SliceOk a l.length cap) (hr : RdV B [] a (l.map B8)) (hv : Inv B (Res.cell q [.pointer (some ⟨p, 0, none⟩), .int .i64 (from_ : Int), .int .i64 (kn : Int), .int .i64 (used : Int), .int .i64 (last : Int), .bool failed] 111 :: diskR p D F :: H) w) :
    Calls Try.prog 56 #[.pointer (some ⟨q, 0, none⟩), .int .i64 (st : Int), .slice a nb cap] w fun e w' => ∃ F', e = .returned (.int .i64 (putAll' D at_ (logText l) (logHdr st l)).1) ∧ Inv B (Res.cell q [.pointer (some ⟨p, 0, none⟩), .int .i64 (from_ : Int), .int .i64 (kn : Int), .int .i64 (used : Int), .int .i64 (last : Int), .bool failed] 111 :: diskR p (putAll' D at_ (logText l) (logHdr st l)).2 F' :: H) w' := by
  subst hn
  have hcs := Crc.sum_lt l
  have hsp := secs_pos l.length
  have hll := logText_len l
  refine (callsIn_wide (n := 5)).1 ?_
  refine callsIn_of_wp_marks Try.func56 rfl trivial ?_ rfl
  simp only [Try.ntmps56, List.size_toArray, List.length_cons, List.length_nil, Nat.reduceAdd, Nat.reduceSub, Array.replicate_succ, Array.replicate_zero, List.push_toArray, List.append_toArray, List.nil_append, List.cons_append]
  refine wpIn_seq_k (fun K1 hK1 => ?_)
  refine wpIn_region_lit ?_
  refine wpi_exG (v := .int .i64 0) (fun _ => trivial) (wn rfl) rfl (ex_assign rfl rfl) ?_
  refine wpListIn_nil ?_
  simp only [Act.put, List.setIfInBounds_toArray, List.set_cons_succ, List.set_cons_zero]
  refine then_normal (hK1 _ _ ?_)
  clear hK1 K1
  refine wpIn_seq_k (fun K2 hK2 => ?_)
  refine region_st mixed [.pointer (some ⟨q, 0, none⟩), .pointer (some ⟨q, 0, none⟩), .pointer (some ⟨q, 1, none⟩), .int .i64 (from_ : Int), .pointer (some ⟨q, 0, none⟩), .pointer (some ⟨q, 0, none⟩), .pointer (some ⟨q, 3, none⟩), .int .i64 (used : Int), .int .i64 (at_ : Int), .int .i64 (at_ : Int)] [] [⟨fun vals w => vals = [] ∧ Inv B (Res.cell q [.pointer (some ⟨p, 0, none⟩), .int .i64 (from_ : Int), .int .i64 (kn : Int), .int .i64 (used : Int), .int .i64 (last : Int), .bool failed] 111 :: diskR p D F :: H) w, fun _ _ _ ⟨h, hi⟩ he => ⟨h, hi.ext he⟩⟩] 86 rfl (by kernel_rfl) ⟨rfl, hv⟩ ⟨?_, ?_, ?_, ?_, ?_, ?_, ?_, ?_, ?_, ?_, trivial⟩ ?_
  · intro aa ww vals hJ hR
    exact add_step' rfl (Ex.adds' (ex_move rfl (show aa.eval (.tmp 0) = _ from hR.keep 0 rfl)) (wn rfl) rfl)
  · intro aa ww vals hJ hR
    exact add_step' rfl (Ex.adds' (ex_nil rfl (show aa.eval (.tmp 15) = _ from hR.v 0 15 rfl rfl rfl rfl)) (wn rfl) rfl)
  · intro aa ww vals hJ hR
    exact add_step' rfl (Ex.adds' (ex_field rfl (show aa.eval (.tmp 16) = _ from hR.v 1 16 rfl rfl rfl rfl) (g4fa111_1 _ _ _)) (wn rfl) rfl)
  · intro aa ww vals hJ hR
    have hl : vals.length = 0 := by have := JS.le (n := 0) (by rfl) hJ; omega
    obtain ⟨hvals, hv⟩ := hJ.at0 hl
    exact add_step' rfl (Ex.adds' (ex_load rfl (show aa.eval (.tmp 17) = _ from hR.v 2 17 rfl rfl rfl rfl) (run_load1 g4na3 (hv.load 0 1 rfl rfl))) (wn rfl) rfl)
  · intro aa ww vals hJ hR
    exact add_step' rfl (Ex.adds' (ex_move rfl (show aa.eval (.tmp 0) = _ from hR.keep 0 rfl)) (wn rfl) rfl)
  · intro aa ww vals hJ hR
    exact add_step' rfl (Ex.adds' (ex_nil rfl (show aa.eval (.tmp 19) = _ from hR.v 4 19 rfl rfl rfl rfl)) (wn rfl) rfl)
  · intro aa ww vals hJ hR
    exact add_step' rfl (Ex.adds' (ex_field rfl (show aa.eval (.tmp 20) = _ from hR.v 5 20 rfl rfl rfl rfl) (g4fa111_3 _ _ _)) (wn rfl) rfl)
  · intro aa ww vals hJ hR
    have hl : vals.length = 0 := by have := JS.le (n := 0) (by rfl) hJ; omega
    obtain ⟨hvals, hv⟩ := hJ.at0 hl
    exact add_step' rfl (Ex.adds' (ex_load rfl (show aa.eval (.tmp 21) = _ from hR.v 6 21 rfl rfl rfl rfl) (run_load1 g4na3 (hv.load 0 3 rfl rfl))) (wn rfl) rfl)
  · intro aa ww vals hJ hR
    exact add_step' rfl (Ex.adds' (ex_add (m := (from_ : Int)) (n := (used : Int)) rfl (show aa.eval (.tmp 18) = _ from hR.v 3 18 rfl rfl rfl rfl) (show aa.eval (.tmp 22) = _ from hR.v 7 22 rfl rfl rfl rfl) (by rw [i64_in (by omega)]; omega)) (wn rfl) rfl)
  · intro aa ww vals hJ hR
    exact add_step' rfl (Ex.adds' (ex_assign rfl (show aa.eval (.tmp 23) = _ from hR.v 8 23 rfl rfl rfl rfl)) (wn rfl) rfl)
  rintro w3 vals ⟨rfl, hv⟩
  rw [show mixV [] [] 0 [.pointer (some ⟨q, 0, none⟩), .pointer (some ⟨q, 0, none⟩), .pointer (some ⟨q, 1, none⟩), .int .i64 (from_ : Int), .pointer (some ⟨q, 0, none⟩), .pointer (some ⟨q, 0, none⟩), .pointer (some ⟨q, 3, none⟩), .int .i64 (used : Int), .int .i64 (at_ : Int), .int .i64 (at_ : Int)] = [.pointer (some ⟨q, 0, none⟩), .pointer (some ⟨q, 0, none⟩), .pointer (some ⟨q, 1, none⟩), .int .i64 (from_ : Int), .pointer (some ⟨q, 0, none⟩), .pointer (some ⟨q, 0, none⟩), .pointer (some ⟨q, 3, none⟩), .int .i64 (used : Int), .int .i64 (at_ : Int), .int .i64 (at_ : Int)] from rfl]
  simp only [putAll, Act.put, List.setIfInBounds_toArray, List.set_cons_succ, List.set_cons_zero]
  refine then_normal (hK2 _ _ ?_)
  clear hK2 K2
  refine wpIn_seq_k (fun K4 hK4 => ?_)
  refine wpIn_region_lit ?_
  refine sl_alloc (fun _ => trivial) (wn rfl) rfl hv g4al24 (fun b5 w6 hv => ?_)
  refine wpListIn_nil ?_
  simp only [Act.put, List.setIfInBounds_toArray, List.set_cons_succ, List.set_cons_zero]
  refine then_normal (hK4 _ _ ?_)
  clear hK4 K4
  refine wpIn_seq_k (fun K7 hK7 => ?_)
  refine wpIn_seq_k (fun K8 hK8 => ?_)
  refine wpIn_region_lit ?_
  refine wpi_exG (v := .slice a l.length cap) (fun _ => trivial) (wn rfl) rfl (ex_move rfl rfl) ?_
  refine wpi_callG g4callable65 (fun _ => trivial) wideC rfl (wn rfl) rfl (args := #[.slice a l.length cap]) (by simp only [List.map_toArray, List.map_cons, List.map_nil]; rfl) ((logPiecesSl _ _ _ _ _ _ hv).mono ?_)
  rintro e w10 ⟨bx9, rfl, hv⟩
  refine ⟨_, rfl, ?_⟩
  refine wpListIn_nil ?_
  simp only [Act.put, List.setIfInBounds_toArray, List.set_cons_succ, List.set_cons_zero]
  refine then_normal (hK8 _ _ ?_)
  clear hK8 K8
  refine wpIn_block ?_
  replace hv := hv.new (Ext.rfl' _) (Res.row 5 1 (.slice none 0 0) 0 []) (World.ownsRow_nil _ _ _ _) (fun b hb => by simp [Value.ownBlock] at hb) (by simp [Value.ownBlock])
  replace hv := hv.front 2 rfl
  simp only [List.eraseIdx_cons_succ, List.eraseIdx_cons_zero] at hv
  replace hv := hv.front 1 rfl
  simp only [List.eraseIdx_cons_succ, List.eraseIdx_cons_zero] at hv
  replace hv := hv.front 2 rfl
  simp only [List.eraseIdx_cons_succ, List.eraseIdx_cons_zero] at hv
  obtain ⟨TT, hTT⟩ : ∃ TT : List Res, TT = (Res.cell q [.pointer (some ⟨p, 0, none⟩), .int .i64 (from_ : Int), .int .i64 (kn : Int), .int .i64 (used : Int), .int .i64 (last : Int), .bool failed] 111 :: diskR p D F :: H) := ⟨_, rfl⟩
  rw [← hTT] at hv
  refine sl_rangeP (by omega) rfl (enters_of Try.func68 (by kernel_rfl) rfl) (R0 := [Res.cell bx9 [.slice a l.length cap] 24]) (logPieces _ B bx9 a cap l hok hr) (fun x => rfl) (fun pre R => ∃ va vc, R = Res.row 5 1 (.slice va (64 * pre.length) vc) (64 * pre.length) ((ptxt l pre.length).map B8) :: Res.cell b5 [.slice va (64 * pre.length) vc] 24 :: TT) (fun x => { tmps := #[.pointer (some ⟨q, 0, none⟩), .int .i64 (st : Int), .slice a l.length cap, undef, undef, undef, .int .i64 0, .int .i64 (at_ : Int), .pointer (some ⟨b5, 0, none⟩), .slice x.ad (rcM l.length x.i) x.c, undef, undef, undef, undef, undef, .pointer (some ⟨q, 0, none⟩), .pointer (some ⟨q, 0, none⟩), .pointer (some ⟨q, 1, none⟩), .int .i64 (from_ : Int), .pointer (some ⟨q, 0, none⟩), .pointer (some ⟨q, 0, none⟩), .pointer (some ⟨q, 3, none⟩), .int .i64 (used : Int), .int .i64 (at_ : Int), .slice a l.length cap, .func (.func 68) #[] #[.pointer (some ⟨bx9, 0, none⟩)], .slice x.ad (rcM l.length x.i) x.c, undef, undef, undef, undef, undef, undef, undef, undef, undef, undef, undef, undef, undef, undef, undef, undef, undef, undef, undef, undef, undef, undef, undef, undef, undef, undef, undef, undef, undef, undef, undef, undef, undef, undef, undef, undef, undef, undef, undef, undef, undef, undef, undef, undef, undef, undef, undef, undef, undef, undef, undef, undef, undef, undef, undef, undef, undef, undef, undef], defers := [] }) ⟨none, 0, rfl⟩ hv ?assign ?body ?done
  case assign =>
    rintro ll pre x R T W hst hR hv
    simp only [pceEnc, List.zip_toArray, List.zip_cons_cons, List.zip_nil_left, List.zip_nil_right, List.foldl_toArray', List.foldl_cons, List.foldl_nil, List.setIfInBounds_toArray, List.set_cons_succ, List.set_cons_zero]
    refine wpIn_region_lit ?_
    refine wpi_exG (v := .slice x.ad (rcM l.length x.i) x.c) (fun _ => trivial) (wn rfl) rfl (ex_assign rfl rfl) ?_
    refine wpListIn_nil ?_
    simp only [Act.put, List.setIfInBounds_toArray, List.set_cons_succ, List.set_cons_zero]
    exact ⟨by trivial, by trivial, hv⟩
  case body =>
    rintro ll pre x _ T W hst ⟨va, vc, rfl⟩ hv
    obtain ⟨TU, hTU⟩ : ∃ TU : List Res, TU = TT ++ T := ⟨_, rfl⟩
    simp only [List.cons_append] at hv; rw [← hTU] at hv
    have hi := hst.i; have hlt := hst.lt; have hm := rcM_le l.length x.i; have hpl : 63 * pre.length < l.length := by omega
    refine wpIn_block ?_
    refine wpIn_seq_k (fun K11 hK11 => ?_)
    refine wpIn_region_lit ?_
    refine sl_alloc (fun _ => trivial) (wn rfl) rfl hv g4al89 (fun b12 w13 hv => ?_)
    refine wpListIn_nil ?_
    simp only [Act.put, List.setIfInBounds_toArray, List.set_cons_succ, List.set_cons_zero]
    refine then_normal (hK11 _ _ ?_)
    clear hK11 K11
    refine wpIn_seq_k (fun K14 hK14 => ?_)
    refine wpIn_region_lit ?_
    refine wpi_exG (v := .slice (some ⟨b12, 1, none⟩) 63 63) (fun _ => trivial) (wn rfl) rfl (ex_slice (lo' := (some (.int .i64 1))) (hi' := none) rfl rfl rfl rfl rfl (g4sb89_1_64 _ _ _)) ?_
    refine wpi_exG (v := .slice x.ad (rcM l.length x.i) x.c) (fun _ => trivial) (wn rfl) rfl (ex_move rfl rfl) ?_
    rw [zeros64, zeros64b hm] at hv
    have hbk := hv.get 0 rfl
    have hcp := fun (ty : TypeId) => run_copy_mid (P := Try.prog) (dT := 24) (el := 5) (ty := ty) (dLen := 63) (dCap := 63) (sLen := rcM l.length x.i) (sCap := x.c) (cs := (piece l (63 * x.i) (rcM l.length x.i)).map B8) Try.underlying24 (by kernel_rfl) (show Blk _ b12 ([Value.int .u8 0] ++ List.replicate (rcM l.length x.i) (Value.int .u8 0) ++ List.replicate (63 - rcM l.length x.i) (Value.int .u8 0)) _ from hbk) 1 rfl (by rw [List.length_replicate, List.length_map, piece_length (by unfold rcM; omega)]) (by rw [List.length_map, piece_length (by unfold rcM; omega)]; exact (Nat.min_eq_left hm).symm) hst.ok ((hst.rd.more (Base.Le.refl _) (fun r hr => by cases hr)).src hv) (oneCell_bytes _)
    refine wpi_exG (v := .int .i64 ((rcM l.length x.i : Nat) : Int)) (fun _ => trivial) (wn rfl) rfl (ex_copy rfl rfl rfl (by have := hcp 3; rw [List.length_map, piece_length (by unfold rcM; omega), ← body_cells l x.i hlt] at this; exact this)) ?_
    replace hv := hv.putAt 0 rfl ((bodySec l x.i).map B8)
    simp only [List.set_cons_succ, List.set_cons_zero] at hv
    refine wpListIn_nil ?_
    simp only [Act.put, List.setIfInBounds_toArray, List.set_cons_succ, List.set_cons_zero]
    refine then_normal (hK14 _ _ ?_)
    clear hK14 K14
    replace hv := hv.front 1 rfl
    simp only [List.eraseIdx_cons_succ, List.eraseIdx_cons_zero] at hv
    refine region_stR mixed (fun ⟨_, _, h⟩ => by simp [Exit.then, Exit.inBlock] at h) [.slice va (64 * pre.length) vc, .slice (some ⟨b12, 0, none⟩) 64 64, undef, undef] [2, 3] [⟨fun vals w => vals = [] ∧ Inv B (Res.row 5 1 (.slice va (64 * pre.length) vc) (64 * pre.length) ((ptxt l pre.length).map B8) :: Res.cell b12 ((bodySec l x.i).map B8) 89 :: Res.cell b5 [.slice va (64 * pre.length) vc] 24 :: TU) w, fun _ _ _ ⟨h, hi⟩ he => ⟨h, hi.ext he⟩⟩, ⟨fun vals w => ∃ va15 vc16, vals = [.slice va15 (64 * pre.length + 64) vc16] ∧ Inv B (Res.row 5 1 (.slice va15 (64 * pre.length + 64) vc16) (64 * pre.length + 64) ((ptxt l pre.length).map B8 ++ (bodySec l x.i).map B8) :: Res.cell b12 ((bodySec l x.i).map B8) 89 :: Res.cell b5 [.slice va (64 * pre.length) vc] 24 :: TU) w, fun _ _ _ ⟨va15, vc16, h, hi⟩ he => ⟨va15, vc16, h, hi.ext he⟩⟩, ⟨fun vals w => ∃ va15 vc16, vals = [.slice va15 (64 * pre.length + 64) vc16, undef] ∧ Inv B (Res.row 5 1 (.slice va15 (64 * pre.length + 64) vc16) (64 * pre.length + 64) ((ptxt l pre.length).map B8 ++ (bodySec l x.i).map B8) :: Res.cell b12 ((bodySec l x.i).map B8) 89 :: Res.cell b5 [.slice va15 (64 * pre.length + 64) vc16] 24 :: TU) w, fun _ _ _ ⟨va15, vc16, h, hi⟩ he => ⟨va15, vc16, h, hi.ext he⟩⟩] 86 rfl (by kernel_rfl) (by kernel_rfl) ⟨rfl, hv⟩ ⟨?_, ?_, ?_, ?_, trivial⟩ ?_
    · intro aa ww vals hJ hR
      have h2 : vals.length ≤ 0 := hR.hi 2 (by simp) rfl
      have hl : vals.length = 0 := by omega
      obtain ⟨hvals, hv⟩ := hJ.at0 hl
      exact add_step' rfl (Ex.adds' (ex_load rfl (show aa.eval (.tmp 8) = _ from hR.keep 8 rfl) (run_load1 g4na24 (hv.load 2 0 rfl rfl))) (wn rfl) rfl)
    · intro aa ww vals hJ hR
      exact add_step' rfl (Ex.adds' (ex_slice rfl (show aa.eval (.tmp 10) = _ from hR.keep 10 rfl) rfl rfl rfl (g4sa89 _ _ _)) (wn rfl) rfl)
    · intro aa ww vals hJ hR
      refine mem_step' rfl fun hvl => ?_
      have hl : vals.length = 0 := hvl
      obtain ⟨hvals, hv⟩ := hJ.at0 hl
      refine mem_append (news := (bodySec l x.i).map B8) (wn rfl) rfl (show aa.eval (.tmp 30) = _ from hR.v 0 30 rfl rfl rfl rfl) (show aa.eval (.tmp 31) = _ from hR.v 1 31 rfl rfl rfl rfl) g4el24 hv (ok_full (by omega)) (by rw [List.length_map, bodySec_len]) (rd_all8 (hv.get 1 rfl)) (oneCell_bytes _) (by unfold maxLen; omega) (by omega) (fun v w17 hv => ?_)
      obtain ⟨va15, vc16, rfl⟩ := row_slice hv.head
      exact JS.next hl ⟨va15, vc16, by rw [hvals]; rfl, hv⟩
    · intro aa ww vals hJ hR
      refine mem_step' rfl fun hvl => ?_
      have hl : vals.length = 1 := hvl
      obtain ⟨va15, vc16, hvals, hv⟩ := hJ.at0 hl
      refine mem_storeAt 2 (v := .slice va15 (64 * pre.length + 64) vc16) (L' := [.slice va15 (64 * pre.length + 64) vc16]) (wn rfl) rfl (show aa.eval (.tmp 8) = _ from hR.keep 8 rfl) (show aa.eval (.tmp 32) = _ from (hR.val 2 32 rfl rfl rfl).trans (by rw [hvals]; rfl)) hv rfl g4sz24 (by simp) rfl rfl rfl (fun w18 hv => ?_)
      exact JS.next hl ⟨va15, vc16, by rw [hvals]; rfl, hv⟩
    rintro w19 vals ⟨va15, vc16, rfl, hv⟩
    rw [show mixV [2, 3] [.slice va15 (64 * pre.length + 64) vc16, undef] 0 [.slice va (64 * pre.length) vc, .slice (some ⟨b12, 0, none⟩) 64 64, undef, undef] = [.slice va (64 * pre.length) vc, .slice (some ⟨b12, 0, none⟩) 64 64, .slice va15 (64 * pre.length + 64) vc16, undef] from rfl]
    simp only [putAll, Act.put, List.setIfInBounds_toArray, List.set_cons_succ, List.set_cons_zero]
    refine blk_normal ?_
    have hv9 := (((hv.front 2 rfl).front 1 rfl).sub (List.Sublist.cons_cons _ (List.Sublist.cons_cons _ (List.Sublist.cons _ (List.Sublist.refl _)))))
    rw [hTU] at hv9
    refine ⟨by trivial, _, ⟨va15, vc16, rfl⟩, ?_⟩
    rw [List.length_append, List.length_singleton, show 64 * (pre.length + 1) = 64 * pre.length + 64 by omega, ptxt_succ, List.map_append]
    rw [hi] at hv9
    exact hv9
  case done =>
    rintro d20 xs _ w21 ⟨hS1, hS2⟩ ⟨va, vc, rfl⟩ hv
    have hxs := pces_len hS1 hS2
    rw [hTT, hxs, show ptxt l (secs l.length - 1) = logText l from rfl, ← logText_len] at hv
    refine blk_normal ?_
    refine then_normal (hK7 _ _ ?_)
    clear hK7 K7
    refine wpIn_seq_k (fun K22 hK22 => ?_)
    refine wpIn_seq_k (fun K23 hK23 => ?_)
    refine wpIn_region_lit ?_
    refine wpi_exG (v := .slice va ((logText l).length) vc) (fun _ => trivial) (wn rfl) rfl (ex_load rfl rfl (run_load1 g4na24 (hv.load 2 0 rfl rfl))) ?_
    refine wpi_exG (v := .int .i64 (((logText l).length) : Int)) (fun _ => trivial) (wn rfl) rfl (ex_len0 Try.underlying24 rfl rfl) ?_
    by_cases hb24 : (((logText l).length) : Int) > 0
    · refine wpi_exG (v := .bool true) (fun _ => trivial) (wn rfl) rfl (ex_gtr (k := .i64) (m := (((logText l).length) : Int)) (n := 0) rfl rfl rfl (decide_eq_true hb24)) ?_
      refine wpListIn_nil ?_
      simp only [Act.put, List.setIfInBounds_toArray, List.set_cons_succ, List.set_cons_zero]
      refine then_normal (hK23 _ _ ?_)
      clear hK23 K23
      refine wpIn_cond_true rfl ?_
      refine wpIn_seq_k (fun K25 hK25 => ?_)
      refine wpIn_seq_k (fun K26 hK26 => ?_)
      replace hv := hv.front 1 rfl
      simp only [List.eraseIdx_cons_succ, List.eraseIdx_cons_zero] at hv
      obtain ⟨bl, LL, rfl, hLL, hlok, hv9⟩ := row_cell hv (by omega)
      replace hv := hv9
      by_cases hb27 : D.left = 0
      · refine region_st mixed [.pointer (some ⟨q, 0, none⟩), .pointer (some ⟨q, 0, none⟩), .pointer (some ⟨q, 0, none⟩), .pointer (some ⟨p, 0, none⟩), .int .i64 (at_ : Int), .int .i64 ((at_ + 1 : Nat) : Int), .slice (some ⟨bl, 0, none⟩) ((logText l).length) vc, undef, .int .i64 20] [7] [⟨fun vals w => vals = [] ∧ Inv B (Res.cell bl LL 5 :: Res.defd d20 :: Res.cell b5 [.slice (some ⟨bl, 0, none⟩) ((logText l).length) vc] 24 :: Res.cell q [.pointer (some ⟨p, 0, none⟩), .int .i64 (from_ : Int), .int .i64 (kn : Int), .int .i64 (used : Int), .int .i64 (last : Int), .bool failed] 111 :: diskR p D F :: H) w, fun _ _ _ ⟨h, hi⟩ he => ⟨h, hi.ext he⟩⟩, ⟨fun vals w => ∃ F28, vals = [.int .i64 20] ∧ Inv B (diskR p D F28 :: Res.cell bl LL 5 :: Res.defd d20 :: Res.cell b5 [.slice (some ⟨bl, 0, none⟩) ((logText l).length) vc] 24 :: Res.cell q [.pointer (some ⟨p, 0, none⟩), .int .i64 (from_ : Int), .int .i64 (kn : Int), .int .i64 (used : Int), .int .i64 (last : Int), .bool failed] 111 :: H) w, fun _ _ _ ⟨F28, h, hi⟩ he => ⟨F28, h, hi.ext he⟩⟩] 86 rfl (by kernel_rfl) ⟨rfl, hv⟩ ⟨?_, ?_, ?_, ?_, ?_, ?_, ?_, ?_, ?_, trivial⟩ ?_
        · intro aa ww vals hJ hR
          exact add_step' rfl (Ex.adds' (ex_move rfl (show aa.eval (.tmp 0) = _ from hR.keep 0 rfl)) (wn rfl) rfl)
        · intro aa ww vals hJ hR
          exact add_step' rfl (Ex.adds' (ex_nil rfl (show aa.eval (.tmp 36) = _ from hR.v 0 36 rfl rfl rfl rfl)) (wn rfl) rfl)
        · intro aa ww vals hJ hR
          exact add_step' rfl (Ex.adds' (ex_field rfl (show aa.eval (.tmp 37) = _ from hR.v 1 37 rfl rfl rfl rfl) (g4fa111_0 _ _ _)) (wn rfl) rfl)
        · intro aa ww vals hJ hR
          have h2 : vals.length ≤ 0 := hR.hi 7 (by simp) rfl
          have hl : vals.length = 0 := by omega
          obtain ⟨hvals, hv⟩ := hJ.at0 hl
          exact add_step' rfl (Ex.adds' (ex_load rfl (show aa.eval (.tmp 38) = _ from hR.v 2 38 rfl rfl rfl rfl) (run_load1 g4na36 (hv.load 3 0 rfl rfl))) (wn rfl) rfl)
        · intro aa ww vals hJ hR
          exact add_step' rfl (Ex.adds' (ex_move rfl (show aa.eval (.tmp 7) = _ from hR.keep 7 rfl)) (wn rfl) rfl)
        · intro aa ww vals hJ hR
          exact add_step' rfl (Ex.adds' (ex_add (m := (at_ : Int)) (n := 1) rfl (show aa.eval (.tmp 40) = _ from hR.v 4 40 rfl rfl rfl rfl) rfl (by rw [i64_in (by omega)]; omega)) (wn rfl) rfl)
        · intro aa ww vals hJ hR
          have h2 : vals.length ≤ 0 := hR.hi 7 (by simp) rfl
          have hl : vals.length = 0 := by omega
          obtain ⟨hvals, hv⟩ := hJ.at0 hl
          exact add_step' rfl (Ex.adds' (ex_load rfl (show aa.eval (.tmp 8) = _ from hR.keep 8 rfl) (run_load1 g4na24 (hv.load 2 0 rfl rfl))) (wn rfl) rfl)
        · intro aa ww vals hJ hR
          refine mem_step' rfl fun hvl => ?_
          have hl : vals.length = 0 := hvl
          obtain ⟨hvals, hv⟩ := hJ.at0 hl
          replace hv := hv.front 4 rfl
          simp only [List.eraseIdx_cons_succ, List.eraseIdx_cons_zero] at hv
          refine stepMem_calls g4callable22 (wn rfl) rfl (args := #[.pointer (some ⟨p, 0, none⟩), .int .i64 ((at_ + 1 : Nat) : Int), .slice (some ⟨bl, 0, none⟩) ((logText l).length) vc]) (by simp only [List.map_toArray, List.map_cons, List.map_nil]; rw [show aa.eval (.tmp 39) = .pointer (some ⟨p, 0, none⟩) from hR.v 3 39 rfl rfl rfl rfl, show aa.eval (.tmp 41) = .int .i64 ((at_ + 1 : Nat) : Int) from hR.v 5 41 rfl rfl rfl rfl, show aa.eval (.tmp 42) = .slice (some ⟨bl, 0, none⟩) ((logText l).length) vc from hR.v 6 42 rfl rfl rfl rfl] <;> rfl) ((diskWriteOffSl _ _ _ p _ _ _ _ _ _ (logText l) hv (by omega) (rfl) (by omega) (has_of (by rw [logText_nsec]; omega) (by rw [logText_nsec]; omega)) hb27).mono ?_)
          rintro e w29 ⟨F28, rfl, hv⟩
          refine ⟨_, rfl, JS.next hl ⟨F28, by rw [hvals]; rfl, hv⟩⟩
        · intro aa ww vals hJ hR
          have h1 : 0 < vals.length := hR.lo 7 (by simp) rfl
          have hl : vals.length = 1 := by have := JS.le (n := 1) (by rfl) hJ; omega
          obtain ⟨F28, hvals, hv⟩ := hJ.at0 hl
          exact add_step' rfl (Ex.adds' (ex_assign rfl (show aa.eval (.tmp 43) = _ from (hR.val 7 43 rfl rfl rfl).trans (by rw [hvals]; rfl))) (wn rfl) rfl)
        rintro w30 vals ⟨F28, rfl, hv⟩
        rw [show mixV [7] [.int .i64 20] 0 [.pointer (some ⟨q, 0, none⟩), .pointer (some ⟨q, 0, none⟩), .pointer (some ⟨q, 0, none⟩), .pointer (some ⟨p, 0, none⟩), .int .i64 (at_ : Int), .int .i64 ((at_ + 1 : Nat) : Int), .slice (some ⟨bl, 0, none⟩) ((logText l).length) vc, undef, .int .i64 20] = [.pointer (some ⟨q, 0, none⟩), .pointer (some ⟨q, 0, none⟩), .pointer (some ⟨q, 0, none⟩), .pointer (some ⟨p, 0, none⟩), .int .i64 (at_ : Int), .int .i64 ((at_ + 1 : Nat) : Int), .slice (some ⟨bl, 0, none⟩) ((logText l).length) vc, .int .i64 20, .int .i64 20] from rfl]
        simp only [putAll, Act.put, List.setIfInBounds_toArray, List.set_cons_succ, List.set_cons_zero]
        refine then_normal (hK26 _ _ ?_)
        clear hK26 K26
        refine wpIn_seq_k (fun K31 hK31 => ?_)
        refine wpIn_region_lit ?_
        refine wpi_exG (v := .int .i64 20) (fun _ => trivial) (wn rfl) rfl (ex_move rfl rfl) ?_
        refine wpi_exG (v := .bool true) (fun _ => trivial) (wn rfl) rfl (ex_neq (k := .i64) (m := 20) (n := 0) rfl rfl rfl (by decide)) ?_
        refine wpListIn_nil ?_
        simp only [Act.put, List.setIfInBounds_toArray, List.set_cons_succ, List.set_cons_zero]
        refine then_normal (hK31 _ _ ?_)
        clear hK31 K31
        refine wpIn_cond_true rfl ?_
        refine wpIn_seq_k (fun K32 hK32 => ?_)
        refine wpIn_region_lit ?_
        refine wpi_exG (v := .int .i64 20) (fun _ => trivial) (wn rfl) rfl (ex_move rfl rfl) ?_
        refine wpi_exG (v := .int .i64 20) (fun _ => trivial) (wn rfl) rfl (ex_assign rfl rfl) ?_
        refine wpListIn_nil ?_
        simp only [Act.put, List.setIfInBounds_toArray, List.set_cons_succ, List.set_cons_zero]
        refine then_normal (hK32 _ _ ?_)
        clear hK32 K32
        refine wpIn_ret ?_
        refine then_ret ?_
        clear hK25 K25
        refine then_ret ?_
        clear hK22 K22
        replace hv := hv.front 2 rfl
        simp only [List.eraseIdx_cons_succ, List.eraseIdx_cons_zero] at hv
        refine sl_end1 hv (fun w33 hv => ⟨_, results_tmp rfl _ _ _, ?_⟩)
        have hres : putAll' D at_ (logText l) (logHdr st l) = (20, D) := by
          simp only [putAll', putHead, if_neg (show ¬ (logText l).length = 0 by omega), if_pos hb27]
        rw [hres]
        exact ⟨_, rfl, ((hv.front 3 rfl).sub (List.Sublist.cons_cons _ (List.Sublist.cons_cons _ (List.Sublist.cons _ (List.Sublist.cons _ (List.Sublist.refl _))))))⟩
      · refine region_st mixed [.pointer (some ⟨q, 0, none⟩), .pointer (some ⟨q, 0, none⟩), .pointer (some ⟨q, 0, none⟩), .pointer (some ⟨p, 0, none⟩), .int .i64 (at_ : Int), .int .i64 ((at_ + 1 : Nat) : Int), .slice (some ⟨bl, 0, none⟩) ((logText l).length) vc, undef, .int .i64 0] [7] [⟨fun vals w => vals = [] ∧ Inv B (Res.cell bl LL 5 :: Res.defd d20 :: Res.cell b5 [.slice (some ⟨bl, 0, none⟩) ((logText l).length) vc] 24 :: Res.cell q [.pointer (some ⟨p, 0, none⟩), .int .i64 (from_ : Int), .int .i64 (kn : Int), .int .i64 (used : Int), .int .i64 (last : Int), .bool failed] 111 :: diskR p D F :: H) w, fun _ _ _ ⟨h, hi⟩ he => ⟨h, hi.ext he⟩⟩, ⟨fun vals w => ∃ F34, vals = [.int .i64 0] ∧ Inv B (diskR p (D.write (at_ + 1 : Nat) (logText l)) F34 :: Res.cell bl LL 5 :: Res.defd d20 :: Res.cell b5 [.slice (some ⟨bl, 0, none⟩) ((logText l).length) vc] 24 :: Res.cell q [.pointer (some ⟨p, 0, none⟩), .int .i64 (from_ : Int), .int .i64 (kn : Int), .int .i64 (used : Int), .int .i64 (last : Int), .bool failed] 111 :: H) w, fun _ _ _ ⟨F34, h, hi⟩ he => ⟨F34, h, hi.ext he⟩⟩] 86 rfl (by kernel_rfl) ⟨rfl, hv⟩ ⟨?_, ?_, ?_, ?_, ?_, ?_, ?_, ?_, ?_, trivial⟩ ?_
        · intro aa ww vals hJ hR
          exact add_step' rfl (Ex.adds' (ex_move rfl (show aa.eval (.tmp 0) = _ from hR.keep 0 rfl)) (wn rfl) rfl)
        · intro aa ww vals hJ hR
          exact add_step' rfl (Ex.adds' (ex_nil rfl (show aa.eval (.tmp 36) = _ from hR.v 0 36 rfl rfl rfl rfl)) (wn rfl) rfl)
        · intro aa ww vals hJ hR
          exact add_step' rfl (Ex.adds' (ex_field rfl (show aa.eval (.tmp 37) = _ from hR.v 1 37 rfl rfl rfl rfl) (g4fa111_0 _ _ _)) (wn rfl) rfl)
        · intro aa ww vals hJ hR
          have h2 : vals.length ≤ 0 := hR.hi 7 (by simp) rfl
          have hl : vals.length = 0 := by omega
          obtain ⟨hvals, hv⟩ := hJ.at0 hl
          exact add_step' rfl (Ex.adds' (ex_load rfl (show aa.eval (.tmp 38) = _ from hR.v 2 38 rfl rfl rfl rfl) (run_load1 g4na36 (hv.load 3 0 rfl rfl))) (wn rfl) rfl)
        · intro aa ww vals hJ hR
          exact add_step' rfl (Ex.adds' (ex_move rfl (show aa.eval (.tmp 7) = _ from hR.keep 7 rfl)) (wn rfl) rfl)
        · intro aa ww vals hJ hR
          exact add_step' rfl (Ex.adds' (ex_add (m := (at_ : Int)) (n := 1) rfl (show aa.eval (.tmp 40) = _ from hR.v 4 40 rfl rfl rfl rfl) rfl (by rw [i64_in (by omega)]; omega)) (wn rfl) rfl)
        · intro aa ww vals hJ hR
          have h2 : vals.length ≤ 0 := hR.hi 7 (by simp) rfl
          have hl : vals.length = 0 := by omega
          obtain ⟨hvals, hv⟩ := hJ.at0 hl
          exact add_step' rfl (Ex.adds' (ex_load rfl (show aa.eval (.tmp 8) = _ from hR.keep 8 rfl) (run_load1 g4na24 (hv.load 2 0 rfl rfl))) (wn rfl) rfl)
        · intro aa ww vals hJ hR
          refine mem_step' rfl fun hvl => ?_
          have hl : vals.length = 0 := hvl
          obtain ⟨hvals, hv⟩ := hJ.at0 hl
          replace hv := hv.front 4 rfl
          simp only [List.eraseIdx_cons_succ, List.eraseIdx_cons_zero] at hv
          refine stepMem_calls g4callable22 (wn rfl) rfl (args := #[.pointer (some ⟨p, 0, none⟩), .int .i64 ((at_ + 1 : Nat) : Int), .slice (some ⟨bl, 0, none⟩) ((logText l).length) vc]) (by simp only [List.map_toArray, List.map_cons, List.map_nil]; rw [show aa.eval (.tmp 39) = .pointer (some ⟨p, 0, none⟩) from hR.v 3 39 rfl rfl rfl rfl, show aa.eval (.tmp 41) = .int .i64 ((at_ + 1 : Nat) : Int) from hR.v 5 41 rfl rfl rfl rfl, show aa.eval (.tmp 42) = .slice (some ⟨bl, 0, none⟩) ((logText l).length) vc from hR.v 6 42 rfl rfl rfl rfl] <;> rfl) ((diskWriteSl _ _ _ p _ _ (at_ + 1 : Nat) _ _ _ (logText l) hv (rfl) (hlok) ((rdV_cell (L := LL) (t := 5) 0 (List.mem_of_getElem? (show (_ : List Res)[0]? = _ from rfl)) (fun i hi => by rw [Nat.zero_add]; exact take_get hLL hi))) (has_of (by rw [logText_nsec]; omega) (by rw [logText_nsec]; omega)) hb27 (by omega)).mono ?_)
          rintro e w35 ⟨F34, rfl, hv⟩
          refine ⟨_, rfl, JS.next hl ⟨F34, by rw [hvals]; rfl, hv⟩⟩
        · intro aa ww vals hJ hR
          have h1 : 0 < vals.length := hR.lo 7 (by simp) rfl
          have hl : vals.length = 1 := by have := JS.le (n := 1) (by rfl) hJ; omega
          obtain ⟨F34, hvals, hv⟩ := hJ.at0 hl
          exact add_step' rfl (Ex.adds' (ex_assign rfl (show aa.eval (.tmp 43) = _ from (hR.val 7 43 rfl rfl rfl).trans (by rw [hvals]; rfl))) (wn rfl) rfl)
        rintro w36 vals ⟨F34, rfl, hv⟩
        rw [show mixV [7] [.int .i64 0] 0 [.pointer (some ⟨q, 0, none⟩), .pointer (some ⟨q, 0, none⟩), .pointer (some ⟨q, 0, none⟩), .pointer (some ⟨p, 0, none⟩), .int .i64 (at_ : Int), .int .i64 ((at_ + 1 : Nat) : Int), .slice (some ⟨bl, 0, none⟩) ((logText l).length) vc, undef, .int .i64 0] = [.pointer (some ⟨q, 0, none⟩), .pointer (some ⟨q, 0, none⟩), .pointer (some ⟨q, 0, none⟩), .pointer (some ⟨p, 0, none⟩), .int .i64 (at_ : Int), .int .i64 ((at_ + 1 : Nat) : Int), .slice (some ⟨bl, 0, none⟩) ((logText l).length) vc, .int .i64 0, .int .i64 0] from rfl]
        simp only [putAll, Act.put, List.setIfInBounds_toArray, List.set_cons_succ, List.set_cons_zero]
        refine then_normal (hK26 _ _ ?_)
        clear hK26 K26
        refine wpIn_seq_k (fun K37 hK37 => ?_)
        refine wpIn_region_lit ?_
        refine wpi_exG (v := .int .i64 0) (fun _ => trivial) (wn rfl) rfl (ex_move rfl rfl) ?_
        refine wpi_exG (v := .bool false) (fun _ => trivial) (wn rfl) rfl (ex_neq (k := .i64) (m := 0) (n := 0) rfl rfl rfl (by decide)) ?_
        refine wpListIn_nil ?_
        simp only [Act.put, List.setIfInBounds_toArray, List.set_cons_succ, List.set_cons_zero]
        refine then_normal (hK37 _ _ ?_)
        clear hK37 K37
        refine wpIn_cond_false rfl ?_
        refine wpIn_skip ?_
        refine then_normal (hK25 _ _ ?_)
        clear hK25 K25
        refine wpIn_seq_k (fun K38 hK38 => ?_)
        refine wpIn_region_lit ?_
        refine wpi_exG (v := .pointer (some ⟨q, 0, none⟩)) (fun _ => trivial) (wn rfl) rfl (ex_move rfl rfl) ?_
        refine wpi_exG (v := .pointer (some ⟨q, 0, none⟩)) (fun _ => trivial) (wn rfl) rfl (ex_nil rfl rfl) ?_
        refine wpi_exG (v := .pointer (some ⟨q, 0, none⟩)) (fun _ => trivial) (wn rfl) rfl (ex_field rfl rfl (g4fa111_0 _ _ _)) ?_
        simp only [Act.put, List.setIfInBounds_toArray, List.set_cons_succ, List.set_cons_zero]
        refine wpi_exG (v := .pointer (some ⟨p, 0, none⟩)) (fun _ => trivial) (wn rfl) rfl (ex_load rfl rfl (run_load1 g4na36 (hv.load 4 0 rfl rfl))) ?_
        by_cases hl39 : (D.write (at_ + 1 : Nat) (logText l)).left = 0
        · refine wpi_callG g4callable24 (fun _ => trivial) wideC rfl (wn rfl) rfl (args := #[.pointer (some ⟨p, 0, none⟩)]) (by simp only [List.map_toArray, List.map_cons, List.map_nil]; rfl) ((diskSyncOffSl _ _ _ p _ _ hv hl39).mono ?_)
          rintro e w41 ⟨F40, rfl, hv⟩
          refine ⟨_, rfl, ?_⟩
          refine wpi_exG (v := .int .i64 20) (fun _ => trivial) (wn rfl) rfl (ex_assign rfl rfl) ?_
          refine wpListIn_nil ?_
          simp only [Act.put, List.setIfInBounds_toArray, List.set_cons_succ, List.set_cons_zero]
          refine then_normal (hK38 _ _ ?_)
          clear hK38 K38
          refine wpIn_seq_k (fun K42 hK42 => ?_)
          refine wpIn_region_lit ?_
          refine wpi_exG (v := .int .i64 20) (fun _ => trivial) (wn rfl) rfl (ex_move rfl rfl) ?_
          refine wpi_exG (v := .bool true) (fun _ => trivial) (wn rfl) rfl (ex_neq (k := .i64) (m := 20) (n := 0) rfl rfl rfl (by decide)) ?_
          refine wpListIn_nil ?_
          simp only [Act.put, List.setIfInBounds_toArray, List.set_cons_succ, List.set_cons_zero]
          refine then_normal (hK42 _ _ ?_)
          clear hK42 K42
          refine wpIn_cond_true rfl ?_
          refine wpIn_seq_k (fun K43 hK43 => ?_)
          refine wpIn_region_lit ?_
          refine wpi_exG (v := .int .i64 20) (fun _ => trivial) (wn rfl) rfl (ex_move rfl rfl) ?_
          refine wpi_exG (v := .int .i64 20) (fun _ => trivial) (wn rfl) rfl (ex_assign rfl rfl) ?_
          refine wpListIn_nil ?_
          simp only [Act.put, List.setIfInBounds_toArray, List.set_cons_succ, List.set_cons_zero]
          refine then_normal (hK43 _ _ ?_)
          clear hK43 K43
          refine wpIn_ret ?_
          refine then_ret ?_
          clear hK22 K22
          replace hv := hv.front 2 rfl
          simp only [List.eraseIdx_cons_succ, List.eraseIdx_cons_zero] at hv
          refine sl_end1 hv (fun w44 hv => ⟨_, results_tmp rfl _ _ _, ?_⟩)
          have hres : putAll' D at_ (logText l) (logHdr st l) = (20, D.write (at_ + 1 : Nat) (logText l)) := by
            simp only [putAll', putHead, if_neg (show ¬ (logText l).length = 0 by omega), if_neg hb27, if_pos hl39]
          rw [hres]
          exact ⟨_, rfl, ((hv.front 3 rfl).sub (List.Sublist.cons_cons _ (List.Sublist.cons_cons _ (List.Sublist.cons _ (List.Sublist.cons _ (List.Sublist.refl _))))))⟩
        · refine wpi_callG g4callable24 (fun _ => trivial) wideC rfl (wn rfl) rfl (args := #[.pointer (some ⟨p, 0, none⟩)]) (by simp only [List.map_toArray, List.map_cons, List.map_nil]; rfl) ((diskSyncSl _ _ _ p _ _ hv hl39 (by simp only [write_dur, sync_dur, write_pend, sync_pend, nsec_hdr, logText_nsec]; omega)).mono ?_)
          rintro e w46 ⟨F45, rfl, hv⟩
          refine ⟨_, rfl, ?_⟩
          refine wpi_exG (v := .int .i64 0) (fun _ => trivial) (wn rfl) rfl (ex_assign rfl rfl) ?_
          refine wpListIn_nil ?_
          simp only [Act.put, List.setIfInBounds_toArray, List.set_cons_succ, List.set_cons_zero]
          refine then_normal (hK38 _ _ ?_)
          clear hK38 K38
          refine wpIn_seq_k (fun K47 hK47 => ?_)
          refine wpIn_region_lit ?_
          refine wpi_exG (v := .int .i64 0) (fun _ => trivial) (wn rfl) rfl (ex_move rfl rfl) ?_
          refine wpi_exG (v := .bool false) (fun _ => trivial) (wn rfl) rfl (ex_neq (k := .i64) (m := 0) (n := 0) rfl rfl rfl (by decide)) ?_
          refine wpListIn_nil ?_
          simp only [Act.put, List.setIfInBounds_toArray, List.set_cons_succ, List.set_cons_zero]
          refine then_normal (hK47 _ _ ?_)
          clear hK47 K47
          refine wpIn_cond_false rfl ?_
          refine wpIn_skip ?_
          refine then_normal (hK22 _ _ ?_)
          clear hK22 K22
          refine wpIn_seq_k (fun K48 hK48 => ?_)
          refine wpIn_region_lit ?_
          refine sl_alloc (fun _ => trivial) (wn rfl) rfl hv g4al89 (fun b49 w50 hv => ?_)
          refine wpListIn_nil ?_
          simp only [Act.put, List.setIfInBounds_toArray, List.set_cons_succ, List.set_cons_zero]
          refine then_normal (hK48 _ _ ?_)
          clear hK48 K48
          refine wpIn_seq_k (fun K51 hK51 => ?_)
          refine wpIn_region_lit ?_
          refine wpi_exG (v := .pointer (some ⟨b49, 0 + 0, none⟩)) (fun _ => trivial) (wn rfl) rfl (ex_index rfl rfl rfl (run_idxA1 (k := 0) g4ua89 g4ea89 (by omega))) ?_
          rw [zeros64] at hv
          refine sl_storeAt 0 (v := .int .u8 82) (L' := [B8 82] ++ List.replicate 8 (Value.int .u8 0) ++ List.replicate 55 (Value.int .u8 0)) (fun _ => trivial) (wn rfl) rfl rfl rfl hv rfl g4sz5 (by rw [List.length_replicate]; decide) rfl rfl rfl (fun w52 hv => ?_)
          simp only [List.set_cons_succ, List.set_cons_zero] at hv
          refine wpListIn_nil ?_
          simp only [Act.put, List.setIfInBounds_toArray, List.set_cons_succ, List.set_cons_zero]
          refine then_normal (hK51 _ _ ?_)
          clear hK51 K51
          refine wpIn_seq_k (fun K53 hK53 => ?_)
          refine wpIn_region_lit ?_
          refine wpi_exG (v := .slice (some ⟨b49, 1, none⟩) 8 63) (fun _ => trivial) (wn rfl) rfl (ex_slice (lo' := (some (.int .i64 1))) (hi' := (some (.int .i64 9))) rfl rfl rfl rfl rfl (g4sb89_1_9 _ _ _)) ?_
          refine wpi_exG (v := .int .i64 (st : Int)) (fun _ => trivial) (wn rfl) rfl (ex_move rfl rfl) ?_
          refine wpi_exG (v := .int .u64 (st : Int)) (fun _ => trivial) (wn rfl) rfl (ex_int (m := (st : Int)) Try.underlying3 Try.underlying114 rfl rfl (u64_in (by omega))) ?_
          simp only [Act.put, List.setIfInBounds_toArray, List.set_cons_succ, List.set_cons_zero]
          refine wpi_callG g4callable66 (fun _ => trivial) wideC rfl (wn rfl) rfl (args := #[.slice (some ⟨b49, 1, none⟩) 8 63, .int .u64 (st : Int)]) (by simp only [List.map_toArray, List.map_cons, List.map_nil]; rfl) ((logPut _ _ _ b49 1 _ 8 (st) ([B8 82]) (List.replicate 8 (Value.int .u8 0)) (List.replicate 55 (Value.int .u8 0)) _ (by simp [beOf_length]) List.length_replicate (by omega) (by omega) hv).mono ?_)
          rintro e w54 ⟨rfl, hv⟩
          refine ⟨_, rfl, ?_⟩
          rw [rep_split (Value.int .u8 0) 55 4 51 rfl, ← List.append_assoc] at hv
          refine wpListIn_nil ?_
          simp only [Act.put, List.setIfInBounds_toArray, List.set_cons_succ, List.set_cons_zero]
          refine then_normal (hK53 _ _ ?_)
          clear hK53 K53
          refine wpIn_seq_k (fun K55 hK55 => ?_)
          refine wpIn_region_lit ?_
          refine wpi_exG (v := .slice (some ⟨b49, 9, none⟩) 4 55) (fun _ => trivial) (wn rfl) rfl (ex_slice (lo' := (some (.int .i64 9))) (hi' := (some (.int .i64 13))) rfl rfl rfl rfl rfl (g4sb89_9_13 _ _ _)) ?_
          refine wpi_exG (v := .slice a l.length cap) (fun _ => trivial) (wn rfl) rfl (ex_move rfl rfl) ?_
          refine wpi_exG (v := .int .i64 (l.length : Int)) (fun _ => trivial) (wn rfl) rfl (ex_len0 Try.underlying24 rfl rfl) ?_
          simp only [Act.put, List.setIfInBounds_toArray, List.set_cons_succ, List.set_cons_zero]
          refine wpi_exG (v := .int .u64 (l.length : Int)) (fun _ => trivial) (wn rfl) rfl (ex_int (m := (l.length : Int)) Try.underlying3 Try.underlying114 rfl rfl (u64_in (by omega))) ?_
          refine wpi_callG g4callable66 (fun _ => trivial) wideC rfl (wn rfl) rfl (args := #[.slice (some ⟨b49, 9, none⟩) 4 55, .int .u64 (l.length : Int)]) (by simp only [List.map_toArray, List.map_cons, List.map_nil]; rfl) ((logPut _ _ _ b49 9 _ 4 (l.length) ([B8 82] ++ (beOf 8 st).map B8) (List.replicate 4 (Value.int .u8 0)) (List.replicate 51 (Value.int .u8 0)) _ (by simp [beOf_length]) List.length_replicate (by omega) (by omega) hv).mono ?_)
          rintro e w56 ⟨rfl, hv⟩
          refine ⟨_, rfl, ?_⟩
          rw [rep_split (Value.int .u8 0) 51 4 47 rfl, ← List.append_assoc] at hv
          refine wpListIn_nil ?_
          simp only [Act.put, List.setIfInBounds_toArray, List.set_cons_succ, List.set_cons_zero]
          refine then_normal (hK55 _ _ ?_)
          clear hK55 K55
          refine wpIn_seq_k (fun K57 hK57 => ?_)
          refine region_st mixed [.slice (some ⟨b49, 13, none⟩) 4 51, .slice a l.length cap, undef, undef, .int .u64 (Crc.sum (l) : Int), undef] [2, 3, 5] [⟨fun vals w => vals = [] ∧ Inv B (Res.cell b49 ((([B8 82] ++ (beOf 8 st).map B8) ++ (beOf 4 l.length).map B8) ++ List.replicate 4 (Value.int .u8 0) ++ List.replicate 47 (Value.int .u8 0)) 89 :: diskR p ((D.write (at_ + 1 : Nat) (logText l)).sync) F45 :: Res.cell bl LL 5 :: Res.defd d20 :: Res.cell b5 [.slice (some ⟨bl, 0, none⟩) ((logText l).length) vc] 24 :: Res.cell q [.pointer (some ⟨p, 0, none⟩), .int .i64 (from_ : Int), .int .i64 (kn : Int), .int .i64 (used : Int), .int .i64 (last : Int), .bool failed] 111 :: H) w, fun _ _ _ ⟨h, hi⟩ he => ⟨h, hi.ext he⟩⟩, ⟨fun vals w => ∃ b58, vals = [.slice (some ⟨b58, 0, none⟩) 1 1] ∧ Inv B (Res.cell b58 [.slice a l.length cap] 24 :: Res.cell b49 ((([B8 82] ++ (beOf 8 st).map B8) ++ (beOf 4 l.length).map B8) ++ List.replicate 4 (Value.int .u8 0) ++ List.replicate 47 (Value.int .u8 0)) 89 :: diskR p ((D.write (at_ + 1 : Nat) (logText l)).sync) F45 :: Res.cell bl LL 5 :: Res.defd d20 :: Res.cell b5 [.slice (some ⟨bl, 0, none⟩) ((logText l).length) vc] 24 :: Res.cell q [.pointer (some ⟨p, 0, none⟩), .int .i64 (from_ : Int), .int .i64 (kn : Int), .int .i64 (used : Int), .int .i64 (last : Int), .bool failed] 111 :: H) w, fun _ _ _ ⟨b58, h, hi⟩ he => ⟨b58, h, hi.ext he⟩⟩, ⟨fun vals w => ∃ b58, vals = [.slice (some ⟨b58, 0, none⟩) 1 1, .int .u32 (Crc.sum (l) : Int)] ∧ Inv B (Res.cell b58 [.slice a l.length cap] 24 :: Res.cell b49 ((([B8 82] ++ (beOf 8 st).map B8) ++ (beOf 4 l.length).map B8) ++ List.replicate 4 (Value.int .u8 0) ++ List.replicate 47 (Value.int .u8 0)) 89 :: diskR p ((D.write (at_ + 1 : Nat) (logText l)).sync) F45 :: Res.cell bl LL 5 :: Res.defd d20 :: Res.cell b5 [.slice (some ⟨bl, 0, none⟩) ((logText l).length) vc] 24 :: Res.cell q [.pointer (some ⟨p, 0, none⟩), .int .i64 (from_ : Int), .int .i64 (kn : Int), .int .i64 (used : Int), .int .i64 (last : Int), .bool failed] 111 :: H) w, fun _ _ _ ⟨b58, h, hi⟩ he => ⟨b58, h, hi.ext he⟩⟩, ⟨fun vals w => ∃ b58, vals = [.slice (some ⟨b58, 0, none⟩) 1 1, .int .u32 (Crc.sum (l) : Int), .tuple #[]] ∧ Inv B (Res.cell b49 ((logHdr st l).map B8) 89 :: Res.cell b58 [.slice a l.length cap] 24 :: diskR p ((D.write (at_ + 1 : Nat) (logText l)).sync) F45 :: Res.cell bl LL 5 :: Res.defd d20 :: Res.cell b5 [.slice (some ⟨bl, 0, none⟩) ((logText l).length) vc] 24 :: Res.cell q [.pointer (some ⟨p, 0, none⟩), .int .i64 (from_ : Int), .int .i64 (kn : Int), .int .i64 (used : Int), .int .i64 (last : Int), .bool failed] 111 :: H) w, fun _ _ _ ⟨b58, h, hi⟩ he => ⟨b58, h, hi.ext he⟩⟩] 86 rfl (by kernel_rfl) ⟨rfl, hv⟩ ⟨?_, ?_, ?_, ?_, ?_, ?_, trivial⟩ ?_
          · intro aa ww vals hJ hR
            exact add_step' rfl (Ex.adds' (ex_slice (lo' := (some (.int .i64 13))) (hi' := (some (.int .i64 17))) rfl (show aa.eval (.tmp 13) = _ from hR.keep 13 rfl) rfl rfl rfl (g4sb89_13_17 _ _ _)) (wn rfl) rfl)
          · intro aa ww vals hJ hR
            exact add_step' rfl (Ex.adds' (ex_move rfl (show aa.eval (.tmp 2) = _ from hR.keep 2 rfl)) (wn rfl) rfl)
          · intro aa ww vals hJ hR
            refine mem_step' rfl fun hvl => ?_
            have hl : vals.length = 0 := hvl
            obtain ⟨hvals, hv⟩ := hJ.at0 hl
            refine mem_row1 (v := .slice a l.length cap) (wn rfl) rfl (show aa.eval (.tmp 66) = _ from hR.v 1 66 rfl rfl rfl rfl) hv g4el22 rfl (fun b58 w59 hv => ?_)
            exact JS.next hl ⟨b58, by rw [hvals]; rfl, hv⟩
          · intro aa ww vals hJ hR
            refine mem_step' rfl fun hvl => ?_
            have hl : vals.length = 1 := hvl
            obtain ⟨b58, hvals, hv⟩ := hJ.at0 hl
            refine stepMem_calls g4callable15 (wn rfl) rfl (args := #[.slice (some ⟨b58, 0, none⟩) 1 1]) (by simp only [List.map_toArray, List.map_cons, List.map_nil]; rw [show aa.eval (.tmp 67) = .slice (some ⟨b58, 0, none⟩) 1 1 from (hR.val 2 67 rfl rfl rfl).trans (by rw [hvals]; rfl)] <;> rfl) ((crcSumSl _ _ _ _ _ _ _ (l) 0 hv rfl (hr.more (Base.Le.refl _) (fun r hr => by cases hr)) (rfl) (hok)).mono ?_)
            rintro e w60 ⟨rfl, hv⟩
            refine ⟨_, rfl, JS.next hl ⟨b58, by rw [hvals]; rfl, hv⟩⟩
          · intro aa ww vals hJ hR
            have h1 : 1 < vals.length := hR.lo 3 (by simp) rfl
            have h2 : vals.length ≤ 2 := hR.hi 5 (by simp) rfl
            have hl : vals.length = 2 := by omega
            obtain ⟨b58, hvals, hv⟩ := hJ.at0 hl
            exact add_step' rfl (Ex.adds' (ex_int (m := (Crc.sum (l) : Int)) Try.underlying25 Try.underlying114 rfl (show aa.eval (.tmp 68) = _ from (hR.val 3 68 rfl rfl rfl).trans (by rw [hvals]; rfl)) (u64_in (by omega))) (wn rfl) rfl)
          · intro aa ww vals hJ hR
            refine mem_step' rfl fun hvl => ?_
            have hl : vals.length = 2 := hvl
            obtain ⟨b58, hvals, hv⟩ := hJ.at0 hl
            replace hv := hv.front 1 rfl
            simp only [List.eraseIdx_cons_succ, List.eraseIdx_cons_zero] at hv
            refine stepMem_calls g4callable66 (wn rfl) rfl (args := #[.slice (some ⟨b49, 13, none⟩) 4 51, .int .u64 (Crc.sum (l) : Int)]) (by simp only [List.map_toArray, List.map_cons, List.map_nil]; rw [show aa.eval (.tmp 65) = .slice (some ⟨b49, 13, none⟩) 4 51 from hR.v 0 65 rfl rfl rfl rfl, show aa.eval (.tmp 69) = .int .u64 (Crc.sum (l) : Int) from hR.v 4 69 rfl rfl rfl rfl] <;> rfl) ((logPut _ _ _ b49 13 _ 4 (Crc.sum l) (([B8 82] ++ (beOf 8 st).map B8) ++ (beOf 4 l.length).map B8) (List.replicate 4 (Value.int .u8 0)) (List.replicate 47 (Value.int .u8 0)) _ (by simp [beOf_length]) List.length_replicate (by omega) (by omega) hv).mono ?_)
            rintro e w61 ⟨rfl, hv⟩
            rw [log_map] at hv
            refine ⟨_, rfl, JS.next hl ⟨b58, by rw [hvals]; rfl, hv⟩⟩
          rintro w62 vals ⟨b58, rfl, hv⟩
          rw [show mixV [2, 3, 5] [.slice (some ⟨b58, 0, none⟩) 1 1, .int .u32 (Crc.sum (l) : Int), .tuple #[]] 0 [.slice (some ⟨b49, 13, none⟩) 4 51, .slice a l.length cap, undef, undef, .int .u64 (Crc.sum (l) : Int), undef] = [.slice (some ⟨b49, 13, none⟩) 4 51, .slice a l.length cap, .slice (some ⟨b58, 0, none⟩) 1 1, .int .u32 (Crc.sum (l) : Int), .int .u64 (Crc.sum (l) : Int), .tuple #[]] from rfl]
          simp only [putAll, Act.put, List.setIfInBounds_toArray, List.set_cons_succ, List.set_cons_zero]
          refine then_normal (hK57 _ _ ?_)
          clear hK57 K57
          refine wpIn_seq_k (fun K63 hK63 => ?_)
          refine wpIn_seq_k (fun K64 hK64 => ?_)
          by_cases hb65 : ((D.write (at_ + 1 : Nat) (logText l)).sync).left = 0
          · refine region_st mixed [.pointer (some ⟨q, 0, none⟩), .pointer (some ⟨q, 0, none⟩), .pointer (some ⟨q, 0, none⟩), .pointer (some ⟨p, 0, none⟩), .int .i64 (at_ : Int), .slice (some ⟨b49, 0, none⟩) 64 64, undef, .int .i64 20] [6] [⟨fun vals w => vals = [] ∧ Inv B (Res.cell b49 ((logHdr st l).map B8) 89 :: Res.cell b58 [.slice a l.length cap] 24 :: diskR p ((D.write (at_ + 1 : Nat) (logText l)).sync) F45 :: Res.cell bl LL 5 :: Res.defd d20 :: Res.cell b5 [.slice (some ⟨bl, 0, none⟩) ((logText l).length) vc] 24 :: Res.cell q [.pointer (some ⟨p, 0, none⟩), .int .i64 (from_ : Int), .int .i64 (kn : Int), .int .i64 (used : Int), .int .i64 (last : Int), .bool failed] 111 :: H) w, fun _ _ _ ⟨h, hi⟩ he => ⟨h, hi.ext he⟩⟩, ⟨fun vals w => ∃ F66, vals = [.int .i64 20] ∧ Inv B (diskR p ((D.write (at_ + 1 : Nat) (logText l)).sync) F66 :: Res.cell b49 ((logHdr st l).map B8) 89 :: Res.cell b58 [.slice a l.length cap] 24 :: Res.cell bl LL 5 :: Res.defd d20 :: Res.cell b5 [.slice (some ⟨bl, 0, none⟩) ((logText l).length) vc] 24 :: Res.cell q [.pointer (some ⟨p, 0, none⟩), .int .i64 (from_ : Int), .int .i64 (kn : Int), .int .i64 (used : Int), .int .i64 (last : Int), .bool failed] 111 :: H) w, fun _ _ _ ⟨F66, h, hi⟩ he => ⟨F66, h, hi.ext he⟩⟩] 86 rfl (by kernel_rfl) ⟨rfl, hv⟩ ⟨?_, ?_, ?_, ?_, ?_, ?_, ?_, ?_, trivial⟩ ?_
            · intro aa ww vals hJ hR
              exact add_step' rfl (Ex.adds' (ex_move rfl (show aa.eval (.tmp 0) = _ from hR.keep 0 rfl)) (wn rfl) rfl)
            · intro aa ww vals hJ hR
              exact add_step' rfl (Ex.adds' (ex_nil rfl (show aa.eval (.tmp 71) = _ from hR.v 0 71 rfl rfl rfl rfl)) (wn rfl) rfl)
            · intro aa ww vals hJ hR
              exact add_step' rfl (Ex.adds' (ex_field rfl (show aa.eval (.tmp 72) = _ from hR.v 1 72 rfl rfl rfl rfl) (g4fa111_0 _ _ _)) (wn rfl) rfl)
            · intro aa ww vals hJ hR
              have h2 : vals.length ≤ 0 := hR.hi 6 (by simp) rfl
              have hl : vals.length = 0 := by omega
              obtain ⟨hvals, hv⟩ := hJ.at0 hl
              exact add_step' rfl (Ex.adds' (ex_load rfl (show aa.eval (.tmp 73) = _ from hR.v 2 73 rfl rfl rfl rfl) (run_load1 g4na36 (hv.load 6 0 rfl rfl))) (wn rfl) rfl)
            · intro aa ww vals hJ hR
              exact add_step' rfl (Ex.adds' (ex_move rfl (show aa.eval (.tmp 7) = _ from hR.keep 7 rfl)) (wn rfl) rfl)
            · intro aa ww vals hJ hR
              exact add_step' rfl (Ex.adds' (ex_slice rfl (show aa.eval (.tmp 13) = _ from hR.keep 13 rfl) rfl rfl rfl (g4sa89 _ _ _)) (wn rfl) rfl)
            · intro aa ww vals hJ hR
              refine mem_step' rfl fun hvl => ?_
              have hl : vals.length = 0 := hvl
              obtain ⟨hvals, hv⟩ := hJ.at0 hl
              replace hv := hv.front 2 rfl
              simp only [List.eraseIdx_cons_succ, List.eraseIdx_cons_zero] at hv
              refine stepMem_calls g4callable22 (wn rfl) rfl (args := #[.pointer (some ⟨p, 0, none⟩), .int .i64 (at_ : Int), .slice (some ⟨b49, 0, none⟩) 64 64]) (by simp only [List.map_toArray, List.map_cons, List.map_nil]; rw [show aa.eval (.tmp 74) = .pointer (some ⟨p, 0, none⟩) from hR.v 3 74 rfl rfl rfl rfl, show aa.eval (.tmp 75) = .int .i64 (at_ : Int) from hR.v 4 75 rfl rfl rfl rfl, show aa.eval (.tmp 76) = .slice (some ⟨b49, 0, none⟩) 64 64 from hR.v 5 76 rfl rfl rfl rfl] <;> rfl) ((diskWriteOffSl _ _ _ p _ _ _ _ _ _ (logHdr st l) hv (by omega) (logHdr_len _ _) (by omega) (has_of (by rw [nsec_hdr]; omega) (by rw [nsec_hdr]; simp only [write_dur, sync_dur, write_pend, sync_pend]; omega)) hb65).mono ?_)
              rintro e w67 ⟨F66, rfl, hv⟩
              refine ⟨_, rfl, JS.next hl ⟨F66, by rw [hvals]; rfl, hv⟩⟩
            · intro aa ww vals hJ hR
              have h1 : 0 < vals.length := hR.lo 6 (by simp) rfl
              have hl : vals.length = 1 := by have := JS.le (n := 1) (by rfl) hJ; omega
              obtain ⟨F66, hvals, hv⟩ := hJ.at0 hl
              exact add_step' rfl (Ex.adds' (ex_assign rfl (show aa.eval (.tmp 77) = _ from (hR.val 6 77 rfl rfl rfl).trans (by rw [hvals]; rfl))) (wn rfl) rfl)
            rintro w68 vals ⟨F66, rfl, hv⟩
            rw [show mixV [6] [.int .i64 20] 0 [.pointer (some ⟨q, 0, none⟩), .pointer (some ⟨q, 0, none⟩), .pointer (some ⟨q, 0, none⟩), .pointer (some ⟨p, 0, none⟩), .int .i64 (at_ : Int), .slice (some ⟨b49, 0, none⟩) 64 64, undef, .int .i64 20] = [.pointer (some ⟨q, 0, none⟩), .pointer (some ⟨q, 0, none⟩), .pointer (some ⟨q, 0, none⟩), .pointer (some ⟨p, 0, none⟩), .int .i64 (at_ : Int), .slice (some ⟨b49, 0, none⟩) 64 64, .int .i64 20, .int .i64 20] from rfl]
            simp only [putAll, Act.put, List.setIfInBounds_toArray, List.set_cons_succ, List.set_cons_zero]
            refine then_normal (hK64 _ _ ?_)
            clear hK64 K64
            refine wpIn_seq_k (fun K69 hK69 => ?_)
            refine wpIn_region_lit ?_
            refine wpi_exG (v := .int .i64 20) (fun _ => trivial) (wn rfl) rfl (ex_move rfl rfl) ?_
            refine wpi_exG (v := .bool true) (fun _ => trivial) (wn rfl) rfl (ex_neq (k := .i64) (m := 20) (n := 0) rfl rfl rfl (by decide)) ?_
            refine wpListIn_nil ?_
            simp only [Act.put, List.setIfInBounds_toArray, List.set_cons_succ, List.set_cons_zero]
            refine then_normal (hK69 _ _ ?_)
            clear hK69 K69
            refine wpIn_cond_true rfl ?_
            refine wpIn_seq_k (fun K70 hK70 => ?_)
            refine wpIn_region_lit ?_
            refine wpi_exG (v := .int .i64 20) (fun _ => trivial) (wn rfl) rfl (ex_move rfl rfl) ?_
            refine wpi_exG (v := .int .i64 20) (fun _ => trivial) (wn rfl) rfl (ex_assign rfl rfl) ?_
            refine wpListIn_nil ?_
            simp only [Act.put, List.setIfInBounds_toArray, List.set_cons_succ, List.set_cons_zero]
            refine then_normal (hK70 _ _ ?_)
            clear hK70 K70
            refine wpIn_ret ?_
            refine then_ret ?_
            clear hK63 K63
            replace hv := hv.front 4 rfl
            simp only [List.eraseIdx_cons_succ, List.eraseIdx_cons_zero] at hv
            refine sl_end1 hv (fun w71 hv => ⟨_, results_tmp rfl _ _ _, ?_⟩)
            have hres : putAll' D at_ (logText l) (logHdr st l) = (20, (D.write (at_ + 1 : Nat) (logText l)).sync) := by
              simp only [putAll', putHead, if_neg (show ¬ (logText l).length = 0 by omega), if_neg hb27, if_neg hl39, if_pos hb65]
            rw [hres]
            exact ⟨_, rfl, ((hv.front 5 rfl).sub (List.Sublist.cons_cons _ (List.Sublist.cons_cons _ (List.Sublist.cons _ (List.Sublist.cons _ (List.Sublist.cons _ (List.Sublist.cons _ (List.Sublist.refl _))))))))⟩
          · refine region_st mixed [.pointer (some ⟨q, 0, none⟩), .pointer (some ⟨q, 0, none⟩), .pointer (some ⟨q, 0, none⟩), .pointer (some ⟨p, 0, none⟩), .int .i64 (at_ : Int), .slice (some ⟨b49, 0, none⟩) 64 64, undef, .int .i64 0] [6] [⟨fun vals w => vals = [] ∧ Inv B (Res.cell b49 ((logHdr st l).map B8) 89 :: Res.cell b58 [.slice a l.length cap] 24 :: diskR p ((D.write (at_ + 1 : Nat) (logText l)).sync) F45 :: Res.cell bl LL 5 :: Res.defd d20 :: Res.cell b5 [.slice (some ⟨bl, 0, none⟩) ((logText l).length) vc] 24 :: Res.cell q [.pointer (some ⟨p, 0, none⟩), .int .i64 (from_ : Int), .int .i64 (kn : Int), .int .i64 (used : Int), .int .i64 (last : Int), .bool failed] 111 :: H) w, fun _ _ _ ⟨h, hi⟩ he => ⟨h, hi.ext he⟩⟩, ⟨fun vals w => ∃ F72, vals = [.int .i64 0] ∧ Inv B (diskR p (((D.write (at_ + 1 : Nat) (logText l)).sync).write at_ (logHdr st l)) F72 :: Res.cell b49 ((logHdr st l).map B8) 89 :: Res.cell b58 [.slice a l.length cap] 24 :: Res.cell bl LL 5 :: Res.defd d20 :: Res.cell b5 [.slice (some ⟨bl, 0, none⟩) ((logText l).length) vc] 24 :: Res.cell q [.pointer (some ⟨p, 0, none⟩), .int .i64 (from_ : Int), .int .i64 (kn : Int), .int .i64 (used : Int), .int .i64 (last : Int), .bool failed] 111 :: H) w, fun _ _ _ ⟨F72, h, hi⟩ he => ⟨F72, h, hi.ext he⟩⟩] 86 rfl (by kernel_rfl) ⟨rfl, hv⟩ ⟨?_, ?_, ?_, ?_, ?_, ?_, ?_, ?_, trivial⟩ ?_
            · intro aa ww vals hJ hR
              exact add_step' rfl (Ex.adds' (ex_move rfl (show aa.eval (.tmp 0) = _ from hR.keep 0 rfl)) (wn rfl) rfl)
            · intro aa ww vals hJ hR
              exact add_step' rfl (Ex.adds' (ex_nil rfl (show aa.eval (.tmp 71) = _ from hR.v 0 71 rfl rfl rfl rfl)) (wn rfl) rfl)
            · intro aa ww vals hJ hR
              exact add_step' rfl (Ex.adds' (ex_field rfl (show aa.eval (.tmp 72) = _ from hR.v 1 72 rfl rfl rfl rfl) (g4fa111_0 _ _ _)) (wn rfl) rfl)
            · intro aa ww vals hJ hR
              have h2 : vals.length ≤ 0 := hR.hi 6 (by simp) rfl
              have hl : vals.length = 0 := by omega
              obtain ⟨hvals, hv⟩ := hJ.at0 hl
              exact add_step' rfl (Ex.adds' (ex_load rfl (show aa.eval (.tmp 73) = _ from hR.v 2 73 rfl rfl rfl rfl) (run_load1 g4na36 (hv.load 6 0 rfl rfl))) (wn rfl) rfl)
            · intro aa ww vals hJ hR
              exact add_step' rfl (Ex.adds' (ex_move rfl (show aa.eval (.tmp 7) = _ from hR.keep 7 rfl)) (wn rfl) rfl)
            · intro aa ww vals hJ hR
              exact add_step' rfl (Ex.adds' (ex_slice rfl (show aa.eval (.tmp 13) = _ from hR.keep 13 rfl) rfl rfl rfl (g4sa89 _ _ _)) (wn rfl) rfl)
            · intro aa ww vals hJ hR
              refine mem_step' rfl fun hvl => ?_
              have hl : vals.length = 0 := hvl
              obtain ⟨hvals, hv⟩ := hJ.at0 hl
              replace hv := hv.front 2 rfl
              simp only [List.eraseIdx_cons_succ, List.eraseIdx_cons_zero] at hv
              refine stepMem_calls g4callable22 (wn rfl) rfl (args := #[.pointer (some ⟨p, 0, none⟩), .int .i64 (at_ : Int), .slice (some ⟨b49, 0, none⟩) 64 64]) (by simp only [List.map_toArray, List.map_cons, List.map_nil]; rw [show aa.eval (.tmp 74) = .pointer (some ⟨p, 0, none⟩) from hR.v 3 74 rfl rfl rfl rfl, show aa.eval (.tmp 75) = .int .i64 (at_ : Int) from hR.v 4 75 rfl rfl rfl rfl, show aa.eval (.tmp 76) = .slice (some ⟨b49, 0, none⟩) 64 64 from hR.v 5 76 rfl rfl rfl rfl] <;> rfl) ((diskWriteSl _ _ _ p _ _ at_ _ _ _ (logHdr st l) hv (logHdr_len _ _) (ok_full (by omega)) (rd_own 0 rfl) (has_of (by rw [nsec_hdr]; omega) (by rw [nsec_hdr]; simp only [write_dur, sync_dur, write_pend, sync_pend]; omega)) hb65 (by simp only [write_dur, sync_dur, write_pend, sync_pend]; omega)).mono ?_)
              rintro e w73 ⟨F72, rfl, hv⟩
              refine ⟨_, rfl, JS.next hl ⟨F72, by rw [hvals]; rfl, hv⟩⟩
            · intro aa ww vals hJ hR
              have h1 : 0 < vals.length := hR.lo 6 (by simp) rfl
              have hl : vals.length = 1 := by have := JS.le (n := 1) (by rfl) hJ; omega
              obtain ⟨F72, hvals, hv⟩ := hJ.at0 hl
              exact add_step' rfl (Ex.adds' (ex_assign rfl (show aa.eval (.tmp 77) = _ from (hR.val 6 77 rfl rfl rfl).trans (by rw [hvals]; rfl))) (wn rfl) rfl)
            rintro w74 vals ⟨F72, rfl, hv⟩
            rw [show mixV [6] [.int .i64 0] 0 [.pointer (some ⟨q, 0, none⟩), .pointer (some ⟨q, 0, none⟩), .pointer (some ⟨q, 0, none⟩), .pointer (some ⟨p, 0, none⟩), .int .i64 (at_ : Int), .slice (some ⟨b49, 0, none⟩) 64 64, undef, .int .i64 0] = [.pointer (some ⟨q, 0, none⟩), .pointer (some ⟨q, 0, none⟩), .pointer (some ⟨q, 0, none⟩), .pointer (some ⟨p, 0, none⟩), .int .i64 (at_ : Int), .slice (some ⟨b49, 0, none⟩) 64 64, .int .i64 0, .int .i64 0] from rfl]
            simp only [putAll, Act.put, List.setIfInBounds_toArray, List.set_cons_succ, List.set_cons_zero]
            refine then_normal (hK64 _ _ ?_)
            clear hK64 K64
            refine wpIn_seq_k (fun K75 hK75 => ?_)
            refine wpIn_region_lit ?_
            refine wpi_exG (v := .int .i64 0) (fun _ => trivial) (wn rfl) rfl (ex_move rfl rfl) ?_
            refine wpi_exG (v := .bool false) (fun _ => trivial) (wn rfl) rfl (ex_neq (k := .i64) (m := 0) (n := 0) rfl rfl rfl (by decide)) ?_
            refine wpListIn_nil ?_
            simp only [Act.put, List.setIfInBounds_toArray, List.set_cons_succ, List.set_cons_zero]
            refine then_normal (hK75 _ _ ?_)
            clear hK75 K75
            refine wpIn_cond_false rfl ?_
            refine wpIn_skip ?_
            refine then_normal (hK63 _ _ ?_)
            clear hK63 K63
            refine wpIn_seq_k (fun K76 hK76 => ?_)
            refine wpIn_region_lit ?_
            refine wpi_exG (v := .pointer (some ⟨q, 0, none⟩)) (fun _ => trivial) (wn rfl) rfl (ex_move rfl rfl) ?_
            refine wpi_exG (v := .pointer (some ⟨q, 0, none⟩)) (fun _ => trivial) (wn rfl) rfl (ex_nil rfl rfl) ?_
            refine wpi_exG (v := .pointer (some ⟨q, 0, none⟩)) (fun _ => trivial) (wn rfl) rfl (ex_field rfl rfl (g4fa111_0 _ _ _)) ?_
            simp only [Act.put, List.setIfInBounds_toArray, List.set_cons_succ, List.set_cons_zero]
            refine wpi_exG (v := .pointer (some ⟨p, 0, none⟩)) (fun _ => trivial) (wn rfl) rfl (ex_load rfl rfl (run_load1 g4na36 (hv.load 6 0 rfl rfl))) ?_
            by_cases hl77 : (((D.write (at_ + 1 : Nat) (logText l)).sync).write at_ (logHdr st l)).left = 0
            · refine wpi_callG g4callable24 (fun _ => trivial) wideC rfl (wn rfl) rfl (args := #[.pointer (some ⟨p, 0, none⟩)]) (by simp only [List.map_toArray, List.map_cons, List.map_nil]; rfl) ((diskSyncOffSl _ _ _ p _ _ hv hl77).mono ?_)
              rintro e w79 ⟨F78, rfl, hv⟩
              refine ⟨_, rfl, ?_⟩
              refine wpi_exG (v := .int .i64 20) (fun _ => trivial) (wn rfl) rfl (ex_assign rfl rfl) ?_
              refine wpListIn_nil ?_
              simp only [Act.put, List.setIfInBounds_toArray, List.set_cons_succ, List.set_cons_zero]
              refine then_normal (hK76 _ _ ?_)
              clear hK76 K76
              refine wpIn_ret ?_
              replace hv := hv.front 4 rfl
              simp only [List.eraseIdx_cons_succ, List.eraseIdx_cons_zero] at hv
              refine sl_end1 hv (fun w80 hv => ⟨_, results_tmp rfl _ _ _, ?_⟩)
              have hres : putAll' D at_ (logText l) (logHdr st l) = (20, ((D.write (at_ + 1 : Nat) (logText l)).sync).write at_ (logHdr st l)) := by
                simp only [putAll', putHead, if_neg (show ¬ (logText l).length = 0 by omega), if_neg hb27, if_neg hl39, if_neg hb65, if_pos hl77]
              rw [hres]
              exact ⟨_, rfl, ((hv.front 5 rfl).sub (List.Sublist.cons_cons _ (List.Sublist.cons_cons _ (List.Sublist.cons _ (List.Sublist.cons _ (List.Sublist.cons _ (List.Sublist.cons _ (List.Sublist.refl _))))))))⟩
            · refine wpi_callG g4callable24 (fun _ => trivial) wideC rfl (wn rfl) rfl (args := #[.pointer (some ⟨p, 0, none⟩)]) (by simp only [List.map_toArray, List.map_cons, List.map_nil]; rfl) ((diskSyncSl _ _ _ p _ _ hv hl77 (by simp only [write_dur, sync_dur, write_pend, sync_pend, nsec_hdr, logText_nsec]; omega)).mono ?_)
              rintro e w82 ⟨F81, rfl, hv⟩
              refine ⟨_, rfl, ?_⟩
              refine wpi_exG (v := .int .i64 0) (fun _ => trivial) (wn rfl) rfl (ex_assign rfl rfl) ?_
              refine wpListIn_nil ?_
              simp only [Act.put, List.setIfInBounds_toArray, List.set_cons_succ, List.set_cons_zero]
              refine then_normal (hK76 _ _ ?_)
              clear hK76 K76
              refine wpIn_ret ?_
              replace hv := hv.front 4 rfl
              simp only [List.eraseIdx_cons_succ, List.eraseIdx_cons_zero] at hv
              refine sl_end1 hv (fun w83 hv => ⟨_, results_tmp rfl _ _ _, ?_⟩)
              have hres : putAll' D at_ (logText l) (logHdr st l) = (0, (((D.write (at_ + 1 : Nat) (logText l)).sync).write at_ (logHdr st l)).sync) := by
                simp only [putAll', putHead, if_neg (show ¬ (logText l).length = 0 by omega), if_neg hb27, if_neg hl39, if_neg hb65, if_neg hl77]
              rw [hres]
              exact ⟨_, rfl, ((hv.front 5 rfl).sub (List.Sublist.cons_cons _ (List.Sublist.cons_cons _ (List.Sublist.cons _ (List.Sublist.cons _ (List.Sublist.cons _ (List.Sublist.cons _ (List.Sublist.refl _))))))))⟩
    · refine wpi_exG (v := .bool false) (fun _ => trivial) (wn rfl) rfl (ex_gtr (k := .i64) (m := (((logText l).length) : Int)) (n := 0) rfl rfl rfl (decide_eq_false hb24)) ?_
      refine wpListIn_nil ?_
      simp only [Act.put, List.setIfInBounds_toArray, List.set_cons_succ, List.set_cons_zero]
      refine then_normal (hK23 _ _ ?_)
      clear hK23 K23
      refine wpIn_cond_false rfl ?_
      refine wpIn_skip ?_
      refine then_normal (hK22 _ _ ?_)
      clear hK22 K22
      refine wpIn_seq_k (fun K84 hK84 => ?_)
      refine wpIn_region_lit ?_
      refine sl_alloc (fun _ => trivial) (wn rfl) rfl hv g4al89 (fun b85 w86 hv => ?_)
      refine wpListIn_nil ?_
      simp only [Act.put, List.setIfInBounds_toArray, List.set_cons_succ, List.set_cons_zero]
      refine then_normal (hK84 _ _ ?_)
      clear hK84 K84
      refine wpIn_seq_k (fun K87 hK87 => ?_)
      refine wpIn_region_lit ?_
      refine wpi_exG (v := .pointer (some ⟨b85, 0 + 0, none⟩)) (fun _ => trivial) (wn rfl) rfl (ex_index rfl rfl rfl (run_idxA1 (k := 0) g4ua89 g4ea89 (by omega))) ?_
      rw [zeros64] at hv
      refine sl_storeAt 0 (v := .int .u8 82) (L' := [B8 82] ++ List.replicate 8 (Value.int .u8 0) ++ List.replicate 55 (Value.int .u8 0)) (fun _ => trivial) (wn rfl) rfl rfl rfl hv rfl g4sz5 (by rw [List.length_replicate]; decide) rfl rfl rfl (fun w88 hv => ?_)
      simp only [List.set_cons_succ, List.set_cons_zero] at hv
      refine wpListIn_nil ?_
      simp only [Act.put, List.setIfInBounds_toArray, List.set_cons_succ, List.set_cons_zero]
      refine then_normal (hK87 _ _ ?_)
      clear hK87 K87
      refine wpIn_seq_k (fun K89 hK89 => ?_)
      refine wpIn_region_lit ?_
      refine wpi_exG (v := .slice (some ⟨b85, 1, none⟩) 8 63) (fun _ => trivial) (wn rfl) rfl (ex_slice (lo' := (some (.int .i64 1))) (hi' := (some (.int .i64 9))) rfl rfl rfl rfl rfl (g4sb89_1_9 _ _ _)) ?_
      refine wpi_exG (v := .int .i64 (st : Int)) (fun _ => trivial) (wn rfl) rfl (ex_move rfl rfl) ?_
      refine wpi_exG (v := .int .u64 (st : Int)) (fun _ => trivial) (wn rfl) rfl (ex_int (m := (st : Int)) Try.underlying3 Try.underlying114 rfl rfl (u64_in (by omega))) ?_
      simp only [Act.put, List.setIfInBounds_toArray, List.set_cons_succ, List.set_cons_zero]
      refine wpi_callG g4callable66 (fun _ => trivial) wideC rfl (wn rfl) rfl (args := #[.slice (some ⟨b85, 1, none⟩) 8 63, .int .u64 (st : Int)]) (by simp only [List.map_toArray, List.map_cons, List.map_nil]; rfl) ((logPut _ _ _ b85 1 _ 8 (st) ([B8 82]) (List.replicate 8 (Value.int .u8 0)) (List.replicate 55 (Value.int .u8 0)) _ (by simp [beOf_length]) List.length_replicate (by omega) (by omega) hv).mono ?_)
      rintro e w90 ⟨rfl, hv⟩
      refine ⟨_, rfl, ?_⟩
      rw [rep_split (Value.int .u8 0) 55 4 51 rfl, ← List.append_assoc] at hv
      refine wpListIn_nil ?_
      simp only [Act.put, List.setIfInBounds_toArray, List.set_cons_succ, List.set_cons_zero]
      refine then_normal (hK89 _ _ ?_)
      clear hK89 K89
      refine wpIn_seq_k (fun K91 hK91 => ?_)
      refine wpIn_region_lit ?_
      refine wpi_exG (v := .slice (some ⟨b85, 9, none⟩) 4 55) (fun _ => trivial) (wn rfl) rfl (ex_slice (lo' := (some (.int .i64 9))) (hi' := (some (.int .i64 13))) rfl rfl rfl rfl rfl (g4sb89_9_13 _ _ _)) ?_
      refine wpi_exG (v := .slice a l.length cap) (fun _ => trivial) (wn rfl) rfl (ex_move rfl rfl) ?_
      refine wpi_exG (v := .int .i64 (l.length : Int)) (fun _ => trivial) (wn rfl) rfl (ex_len0 Try.underlying24 rfl rfl) ?_
      simp only [Act.put, List.setIfInBounds_toArray, List.set_cons_succ, List.set_cons_zero]
      refine wpi_exG (v := .int .u64 (l.length : Int)) (fun _ => trivial) (wn rfl) rfl (ex_int (m := (l.length : Int)) Try.underlying3 Try.underlying114 rfl rfl (u64_in (by omega))) ?_
      refine wpi_callG g4callable66 (fun _ => trivial) wideC rfl (wn rfl) rfl (args := #[.slice (some ⟨b85, 9, none⟩) 4 55, .int .u64 (l.length : Int)]) (by simp only [List.map_toArray, List.map_cons, List.map_nil]; rfl) ((logPut _ _ _ b85 9 _ 4 (l.length) ([B8 82] ++ (beOf 8 st).map B8) (List.replicate 4 (Value.int .u8 0)) (List.replicate 51 (Value.int .u8 0)) _ (by simp [beOf_length]) List.length_replicate (by omega) (by omega) hv).mono ?_)
      rintro e w92 ⟨rfl, hv⟩
      refine ⟨_, rfl, ?_⟩
      rw [rep_split (Value.int .u8 0) 51 4 47 rfl, ← List.append_assoc] at hv
      refine wpListIn_nil ?_
      simp only [Act.put, List.setIfInBounds_toArray, List.set_cons_succ, List.set_cons_zero]
      refine then_normal (hK91 _ _ ?_)
      clear hK91 K91
      refine wpIn_seq_k (fun K93 hK93 => ?_)
      refine region_st mixed [.slice (some ⟨b85, 13, none⟩) 4 51, .slice a l.length cap, undef, undef, .int .u64 (Crc.sum (l) : Int), undef] [2, 3, 5] [⟨fun vals w => vals = [] ∧ Inv B (Res.cell b85 ((([B8 82] ++ (beOf 8 st).map B8) ++ (beOf 4 l.length).map B8) ++ List.replicate 4 (Value.int .u8 0) ++ List.replicate 47 (Value.int .u8 0)) 89 :: Res.defd d20 :: Res.row 5 1 (.slice va ((logText l).length) vc) ((logText l).length) ((logText l).map B8) :: Res.cell b5 [.slice va ((logText l).length) vc] 24 :: Res.cell q [.pointer (some ⟨p, 0, none⟩), .int .i64 (from_ : Int), .int .i64 (kn : Int), .int .i64 (used : Int), .int .i64 (last : Int), .bool failed] 111 :: diskR p D F :: H) w, fun _ _ _ ⟨h, hi⟩ he => ⟨h, hi.ext he⟩⟩, ⟨fun vals w => ∃ b94, vals = [.slice (some ⟨b94, 0, none⟩) 1 1] ∧ Inv B (Res.cell b94 [.slice a l.length cap] 24 :: Res.cell b85 ((([B8 82] ++ (beOf 8 st).map B8) ++ (beOf 4 l.length).map B8) ++ List.replicate 4 (Value.int .u8 0) ++ List.replicate 47 (Value.int .u8 0)) 89 :: Res.defd d20 :: Res.row 5 1 (.slice va ((logText l).length) vc) ((logText l).length) ((logText l).map B8) :: Res.cell b5 [.slice va ((logText l).length) vc] 24 :: Res.cell q [.pointer (some ⟨p, 0, none⟩), .int .i64 (from_ : Int), .int .i64 (kn : Int), .int .i64 (used : Int), .int .i64 (last : Int), .bool failed] 111 :: diskR p D F :: H) w, fun _ _ _ ⟨b94, h, hi⟩ he => ⟨b94, h, hi.ext he⟩⟩, ⟨fun vals w => ∃ b94, vals = [.slice (some ⟨b94, 0, none⟩) 1 1, .int .u32 (Crc.sum (l) : Int)] ∧ Inv B (Res.cell b94 [.slice a l.length cap] 24 :: Res.cell b85 ((([B8 82] ++ (beOf 8 st).map B8) ++ (beOf 4 l.length).map B8) ++ List.replicate 4 (Value.int .u8 0) ++ List.replicate 47 (Value.int .u8 0)) 89 :: Res.defd d20 :: Res.row 5 1 (.slice va ((logText l).length) vc) ((logText l).length) ((logText l).map B8) :: Res.cell b5 [.slice va ((logText l).length) vc] 24 :: Res.cell q [.pointer (some ⟨p, 0, none⟩), .int .i64 (from_ : Int), .int .i64 (kn : Int), .int .i64 (used : Int), .int .i64 (last : Int), .bool failed] 111 :: diskR p D F :: H) w, fun _ _ _ ⟨b94, h, hi⟩ he => ⟨b94, h, hi.ext he⟩⟩, ⟨fun vals w => ∃ b94, vals = [.slice (some ⟨b94, 0, none⟩) 1 1, .int .u32 (Crc.sum (l) : Int), .tuple #[]] ∧ Inv B (Res.cell b85 ((logHdr st l).map B8) 89 :: Res.cell b94 [.slice a l.length cap] 24 :: Res.defd d20 :: Res.row 5 1 (.slice va ((logText l).length) vc) ((logText l).length) ((logText l).map B8) :: Res.cell b5 [.slice va ((logText l).length) vc] 24 :: Res.cell q [.pointer (some ⟨p, 0, none⟩), .int .i64 (from_ : Int), .int .i64 (kn : Int), .int .i64 (used : Int), .int .i64 (last : Int), .bool failed] 111 :: diskR p D F :: H) w, fun _ _ _ ⟨b94, h, hi⟩ he => ⟨b94, h, hi.ext he⟩⟩] 86 rfl (by kernel_rfl) ⟨rfl, hv⟩ ⟨?_, ?_, ?_, ?_, ?_, ?_, trivial⟩ ?_
      · intro aa ww vals hJ hR
        exact add_step' rfl (Ex.adds' (ex_slice (lo' := (some (.int .i64 13))) (hi' := (some (.int .i64 17))) rfl (show aa.eval (.tmp 13) = _ from hR.keep 13 rfl) rfl rfl rfl (g4sb89_13_17 _ _ _)) (wn rfl) rfl)
      · intro aa ww vals hJ hR
        exact add_step' rfl (Ex.adds' (ex_move rfl (show aa.eval (.tmp 2) = _ from hR.keep 2 rfl)) (wn rfl) rfl)
      · intro aa ww vals hJ hR
        refine mem_step' rfl fun hvl => ?_
        have hl : vals.length = 0 := hvl
        obtain ⟨hvals, hv⟩ := hJ.at0 hl
        refine mem_row1 (v := .slice a l.length cap) (wn rfl) rfl (show aa.eval (.tmp 66) = _ from hR.v 1 66 rfl rfl rfl rfl) hv g4el22 rfl (fun b94 w95 hv => ?_)
        exact JS.next hl ⟨b94, by rw [hvals]; rfl, hv⟩
      · intro aa ww vals hJ hR
        refine mem_step' rfl fun hvl => ?_
        have hl : vals.length = 1 := hvl
        obtain ⟨b94, hvals, hv⟩ := hJ.at0 hl
        refine stepMem_calls g4callable15 (wn rfl) rfl (args := #[.slice (some ⟨b94, 0, none⟩) 1 1]) (by simp only [List.map_toArray, List.map_cons, List.map_nil]; rw [show aa.eval (.tmp 67) = .slice (some ⟨b94, 0, none⟩) 1 1 from (hR.val 2 67 rfl rfl rfl).trans (by rw [hvals]; rfl)] <;> rfl) ((crcSumSl _ _ _ _ _ _ _ (l) 0 hv rfl (hr.more (Base.Le.refl _) (fun r hr => by cases hr)) (rfl) (hok)).mono ?_)
        rintro e w96 ⟨rfl, hv⟩
        refine ⟨_, rfl, JS.next hl ⟨b94, by rw [hvals]; rfl, hv⟩⟩
      · intro aa ww vals hJ hR
        have h1 : 1 < vals.length := hR.lo 3 (by simp) rfl
        have h2 : vals.length ≤ 2 := hR.hi 5 (by simp) rfl
        have hl : vals.length = 2 := by omega
        obtain ⟨b94, hvals, hv⟩ := hJ.at0 hl
        exact add_step' rfl (Ex.adds' (ex_int (m := (Crc.sum (l) : Int)) Try.underlying25 Try.underlying114 rfl (show aa.eval (.tmp 68) = _ from (hR.val 3 68 rfl rfl rfl).trans (by rw [hvals]; rfl)) (u64_in (by omega))) (wn rfl) rfl)
      · intro aa ww vals hJ hR
        refine mem_step' rfl fun hvl => ?_
        have hl : vals.length = 2 := hvl
        obtain ⟨b94, hvals, hv⟩ := hJ.at0 hl
        replace hv := hv.front 1 rfl
        simp only [List.eraseIdx_cons_succ, List.eraseIdx_cons_zero] at hv
        refine stepMem_calls g4callable66 (wn rfl) rfl (args := #[.slice (some ⟨b85, 13, none⟩) 4 51, .int .u64 (Crc.sum (l) : Int)]) (by simp only [List.map_toArray, List.map_cons, List.map_nil]; rw [show aa.eval (.tmp 65) = .slice (some ⟨b85, 13, none⟩) 4 51 from hR.v 0 65 rfl rfl rfl rfl, show aa.eval (.tmp 69) = .int .u64 (Crc.sum (l) : Int) from hR.v 4 69 rfl rfl rfl rfl] <;> rfl) ((logPut _ _ _ b85 13 _ 4 (Crc.sum l) (([B8 82] ++ (beOf 8 st).map B8) ++ (beOf 4 l.length).map B8) (List.replicate 4 (Value.int .u8 0)) (List.replicate 47 (Value.int .u8 0)) _ (by simp [beOf_length]) List.length_replicate (by omega) (by omega) hv).mono ?_)
        rintro e w97 ⟨rfl, hv⟩
        rw [log_map] at hv
        refine ⟨_, rfl, JS.next hl ⟨b94, by rw [hvals]; rfl, hv⟩⟩
      rintro w98 vals ⟨b94, rfl, hv⟩
      rw [show mixV [2, 3, 5] [.slice (some ⟨b94, 0, none⟩) 1 1, .int .u32 (Crc.sum (l) : Int), .tuple #[]] 0 [.slice (some ⟨b85, 13, none⟩) 4 51, .slice a l.length cap, undef, undef, .int .u64 (Crc.sum (l) : Int), undef] = [.slice (some ⟨b85, 13, none⟩) 4 51, .slice a l.length cap, .slice (some ⟨b94, 0, none⟩) 1 1, .int .u32 (Crc.sum (l) : Int), .int .u64 (Crc.sum (l) : Int), .tuple #[]] from rfl]
      simp only [putAll, Act.put, List.setIfInBounds_toArray, List.set_cons_succ, List.set_cons_zero]
      refine then_normal (hK93 _ _ ?_)
      clear hK93 K93
      refine wpIn_seq_k (fun K99 hK99 => ?_)
      refine wpIn_seq_k (fun K100 hK100 => ?_)
      by_cases hb101 : D.left = 0
      · refine region_st mixed [.pointer (some ⟨q, 0, none⟩), .pointer (some ⟨q, 0, none⟩), .pointer (some ⟨q, 0, none⟩), .pointer (some ⟨p, 0, none⟩), .int .i64 (at_ : Int), .slice (some ⟨b85, 0, none⟩) 64 64, undef, .int .i64 20] [6] [⟨fun vals w => vals = [] ∧ Inv B (Res.cell b85 ((logHdr st l).map B8) 89 :: Res.cell b94 [.slice a l.length cap] 24 :: Res.defd d20 :: Res.row 5 1 (.slice va ((logText l).length) vc) ((logText l).length) ((logText l).map B8) :: Res.cell b5 [.slice va ((logText l).length) vc] 24 :: Res.cell q [.pointer (some ⟨p, 0, none⟩), .int .i64 (from_ : Int), .int .i64 (kn : Int), .int .i64 (used : Int), .int .i64 (last : Int), .bool failed] 111 :: diskR p D F :: H) w, fun _ _ _ ⟨h, hi⟩ he => ⟨h, hi.ext he⟩⟩, ⟨fun vals w => ∃ F102, vals = [.int .i64 20] ∧ Inv B (diskR p D F102 :: Res.cell b85 ((logHdr st l).map B8) 89 :: Res.cell b94 [.slice a l.length cap] 24 :: Res.defd d20 :: Res.row 5 1 (.slice va ((logText l).length) vc) ((logText l).length) ((logText l).map B8) :: Res.cell b5 [.slice va ((logText l).length) vc] 24 :: Res.cell q [.pointer (some ⟨p, 0, none⟩), .int .i64 (from_ : Int), .int .i64 (kn : Int), .int .i64 (used : Int), .int .i64 (last : Int), .bool failed] 111 :: H) w, fun _ _ _ ⟨F102, h, hi⟩ he => ⟨F102, h, hi.ext he⟩⟩] 86 rfl (by kernel_rfl) ⟨rfl, hv⟩ ⟨?_, ?_, ?_, ?_, ?_, ?_, ?_, ?_, trivial⟩ ?_
        · intro aa ww vals hJ hR
          exact add_step' rfl (Ex.adds' (ex_move rfl (show aa.eval (.tmp 0) = _ from hR.keep 0 rfl)) (wn rfl) rfl)
        · intro aa ww vals hJ hR
          exact add_step' rfl (Ex.adds' (ex_nil rfl (show aa.eval (.tmp 71) = _ from hR.v 0 71 rfl rfl rfl rfl)) (wn rfl) rfl)
        · intro aa ww vals hJ hR
          exact add_step' rfl (Ex.adds' (ex_field rfl (show aa.eval (.tmp 72) = _ from hR.v 1 72 rfl rfl rfl rfl) (g4fa111_0 _ _ _)) (wn rfl) rfl)
        · intro aa ww vals hJ hR
          have h2 : vals.length ≤ 0 := hR.hi 6 (by simp) rfl
          have hl : vals.length = 0 := by omega
          obtain ⟨hvals, hv⟩ := hJ.at0 hl
          exact add_step' rfl (Ex.adds' (ex_load rfl (show aa.eval (.tmp 73) = _ from hR.v 2 73 rfl rfl rfl rfl) (run_load1 g4na36 (hv.load 5 0 rfl rfl))) (wn rfl) rfl)
        · intro aa ww vals hJ hR
          exact add_step' rfl (Ex.adds' (ex_move rfl (show aa.eval (.tmp 7) = _ from hR.keep 7 rfl)) (wn rfl) rfl)
        · intro aa ww vals hJ hR
          exact add_step' rfl (Ex.adds' (ex_slice rfl (show aa.eval (.tmp 13) = _ from hR.keep 13 rfl) rfl rfl rfl (g4sa89 _ _ _)) (wn rfl) rfl)
        · intro aa ww vals hJ hR
          refine mem_step' rfl fun hvl => ?_
          have hl : vals.length = 0 := hvl
          obtain ⟨hvals, hv⟩ := hJ.at0 hl
          replace hv := hv.front 6 rfl
          simp only [List.eraseIdx_cons_succ, List.eraseIdx_cons_zero] at hv
          refine stepMem_calls g4callable22 (wn rfl) rfl (args := #[.pointer (some ⟨p, 0, none⟩), .int .i64 (at_ : Int), .slice (some ⟨b85, 0, none⟩) 64 64]) (by simp only [List.map_toArray, List.map_cons, List.map_nil]; rw [show aa.eval (.tmp 74) = .pointer (some ⟨p, 0, none⟩) from hR.v 3 74 rfl rfl rfl rfl, show aa.eval (.tmp 75) = .int .i64 (at_ : Int) from hR.v 4 75 rfl rfl rfl rfl, show aa.eval (.tmp 76) = .slice (some ⟨b85, 0, none⟩) 64 64 from hR.v 5 76 rfl rfl rfl rfl] <;> rfl) ((diskWriteOffSl _ _ _ p _ _ _ _ _ _ (logHdr st l) hv (by omega) (logHdr_len _ _) (by omega) (has_of (by rw [nsec_hdr]; omega) (by rw [nsec_hdr]; omega)) hb101).mono ?_)
          rintro e w103 ⟨F102, rfl, hv⟩
          refine ⟨_, rfl, JS.next hl ⟨F102, by rw [hvals]; rfl, hv⟩⟩
        · intro aa ww vals hJ hR
          have h1 : 0 < vals.length := hR.lo 6 (by simp) rfl
          have hl : vals.length = 1 := by have := JS.le (n := 1) (by rfl) hJ; omega
          obtain ⟨F102, hvals, hv⟩ := hJ.at0 hl
          exact add_step' rfl (Ex.adds' (ex_assign rfl (show aa.eval (.tmp 77) = _ from (hR.val 6 77 rfl rfl rfl).trans (by rw [hvals]; rfl))) (wn rfl) rfl)
        rintro w104 vals ⟨F102, rfl, hv⟩
        rw [show mixV [6] [.int .i64 20] 0 [.pointer (some ⟨q, 0, none⟩), .pointer (some ⟨q, 0, none⟩), .pointer (some ⟨q, 0, none⟩), .pointer (some ⟨p, 0, none⟩), .int .i64 (at_ : Int), .slice (some ⟨b85, 0, none⟩) 64 64, undef, .int .i64 20] = [.pointer (some ⟨q, 0, none⟩), .pointer (some ⟨q, 0, none⟩), .pointer (some ⟨q, 0, none⟩), .pointer (some ⟨p, 0, none⟩), .int .i64 (at_ : Int), .slice (some ⟨b85, 0, none⟩) 64 64, .int .i64 20, .int .i64 20] from rfl]
        simp only [putAll, Act.put, List.setIfInBounds_toArray, List.set_cons_succ, List.set_cons_zero]
        refine then_normal (hK100 _ _ ?_)
        clear hK100 K100
        refine wpIn_seq_k (fun K105 hK105 => ?_)
        refine wpIn_region_lit ?_
        refine wpi_exG (v := .int .i64 20) (fun _ => trivial) (wn rfl) rfl (ex_move rfl rfl) ?_
        refine wpi_exG (v := .bool true) (fun _ => trivial) (wn rfl) rfl (ex_neq (k := .i64) (m := 20) (n := 0) rfl rfl rfl (by decide)) ?_
        refine wpListIn_nil ?_
        simp only [Act.put, List.setIfInBounds_toArray, List.set_cons_succ, List.set_cons_zero]
        refine then_normal (hK105 _ _ ?_)
        clear hK105 K105
        refine wpIn_cond_true rfl ?_
        refine wpIn_seq_k (fun K106 hK106 => ?_)
        refine wpIn_region_lit ?_
        refine wpi_exG (v := .int .i64 20) (fun _ => trivial) (wn rfl) rfl (ex_move rfl rfl) ?_
        refine wpi_exG (v := .int .i64 20) (fun _ => trivial) (wn rfl) rfl (ex_assign rfl rfl) ?_
        refine wpListIn_nil ?_
        simp only [Act.put, List.setIfInBounds_toArray, List.set_cons_succ, List.set_cons_zero]
        refine then_normal (hK106 _ _ ?_)
        clear hK106 K106
        refine wpIn_ret ?_
        refine then_ret ?_
        clear hK99 K99
        replace hv := hv.front 3 rfl
        simp only [List.eraseIdx_cons_succ, List.eraseIdx_cons_zero] at hv
        refine sl_end1 hv (fun w107 hv => ⟨_, results_tmp rfl _ _ _, ?_⟩)
        have hres : putAll' D at_ (logText l) (logHdr st l) = (20, D) := by
          simp only [putAll', putHead, if_pos (show (logText l).length = 0 by omega), if_pos hb101]
        rw [hres]
        exact ⟨_, rfl, ((hv.front 5 rfl).sub (List.Sublist.cons_cons _ (List.Sublist.cons_cons _ (List.Sublist.cons _ (List.Sublist.cons _ (List.Sublist.cons _ (List.Sublist.cons _ (List.Sublist.refl _))))))))⟩
      · refine region_st mixed [.pointer (some ⟨q, 0, none⟩), .pointer (some ⟨q, 0, none⟩), .pointer (some ⟨q, 0, none⟩), .pointer (some ⟨p, 0, none⟩), .int .i64 (at_ : Int), .slice (some ⟨b85, 0, none⟩) 64 64, undef, .int .i64 0] [6] [⟨fun vals w => vals = [] ∧ Inv B (Res.cell b85 ((logHdr st l).map B8) 89 :: Res.cell b94 [.slice a l.length cap] 24 :: Res.defd d20 :: Res.row 5 1 (.slice va ((logText l).length) vc) ((logText l).length) ((logText l).map B8) :: Res.cell b5 [.slice va ((logText l).length) vc] 24 :: Res.cell q [.pointer (some ⟨p, 0, none⟩), .int .i64 (from_ : Int), .int .i64 (kn : Int), .int .i64 (used : Int), .int .i64 (last : Int), .bool failed] 111 :: diskR p D F :: H) w, fun _ _ _ ⟨h, hi⟩ he => ⟨h, hi.ext he⟩⟩, ⟨fun vals w => ∃ F108, vals = [.int .i64 0] ∧ Inv B (diskR p (D.write at_ (logHdr st l)) F108 :: Res.cell b85 ((logHdr st l).map B8) 89 :: Res.cell b94 [.slice a l.length cap] 24 :: Res.defd d20 :: Res.row 5 1 (.slice va ((logText l).length) vc) ((logText l).length) ((logText l).map B8) :: Res.cell b5 [.slice va ((logText l).length) vc] 24 :: Res.cell q [.pointer (some ⟨p, 0, none⟩), .int .i64 (from_ : Int), .int .i64 (kn : Int), .int .i64 (used : Int), .int .i64 (last : Int), .bool failed] 111 :: H) w, fun _ _ _ ⟨F108, h, hi⟩ he => ⟨F108, h, hi.ext he⟩⟩] 86 rfl (by kernel_rfl) ⟨rfl, hv⟩ ⟨?_, ?_, ?_, ?_, ?_, ?_, ?_, ?_, trivial⟩ ?_
        · intro aa ww vals hJ hR
          exact add_step' rfl (Ex.adds' (ex_move rfl (show aa.eval (.tmp 0) = _ from hR.keep 0 rfl)) (wn rfl) rfl)
        · intro aa ww vals hJ hR
          exact add_step' rfl (Ex.adds' (ex_nil rfl (show aa.eval (.tmp 71) = _ from hR.v 0 71 rfl rfl rfl rfl)) (wn rfl) rfl)
        · intro aa ww vals hJ hR
          exact add_step' rfl (Ex.adds' (ex_field rfl (show aa.eval (.tmp 72) = _ from hR.v 1 72 rfl rfl rfl rfl) (g4fa111_0 _ _ _)) (wn rfl) rfl)
        · intro aa ww vals hJ hR
          have h2 : vals.length ≤ 0 := hR.hi 6 (by simp) rfl
          have hl : vals.length = 0 := by omega
          obtain ⟨hvals, hv⟩ := hJ.at0 hl
          exact add_step' rfl (Ex.adds' (ex_load rfl (show aa.eval (.tmp 73) = _ from hR.v 2 73 rfl rfl rfl rfl) (run_load1 g4na36 (hv.load 5 0 rfl rfl))) (wn rfl) rfl)
        · intro aa ww vals hJ hR
          exact add_step' rfl (Ex.adds' (ex_move rfl (show aa.eval (.tmp 7) = _ from hR.keep 7 rfl)) (wn rfl) rfl)
        · intro aa ww vals hJ hR
          exact add_step' rfl (Ex.adds' (ex_slice rfl (show aa.eval (.tmp 13) = _ from hR.keep 13 rfl) rfl rfl rfl (g4sa89 _ _ _)) (wn rfl) rfl)
        · intro aa ww vals hJ hR
          refine mem_step' rfl fun hvl => ?_
          have hl : vals.length = 0 := hvl
          obtain ⟨hvals, hv⟩ := hJ.at0 hl
          replace hv := hv.front 6 rfl
          simp only [List.eraseIdx_cons_succ, List.eraseIdx_cons_zero] at hv
          refine stepMem_calls g4callable22 (wn rfl) rfl (args := #[.pointer (some ⟨p, 0, none⟩), .int .i64 (at_ : Int), .slice (some ⟨b85, 0, none⟩) 64 64]) (by simp only [List.map_toArray, List.map_cons, List.map_nil]; rw [show aa.eval (.tmp 74) = .pointer (some ⟨p, 0, none⟩) from hR.v 3 74 rfl rfl rfl rfl, show aa.eval (.tmp 75) = .int .i64 (at_ : Int) from hR.v 4 75 rfl rfl rfl rfl, show aa.eval (.tmp 76) = .slice (some ⟨b85, 0, none⟩) 64 64 from hR.v 5 76 rfl rfl rfl rfl] <;> rfl) ((diskWriteSl _ _ _ p _ _ at_ _ _ _ (logHdr st l) hv (logHdr_len _ _) (ok_full (by omega)) (rd_own 0 rfl) (has_of (by rw [nsec_hdr]; omega) (by rw [nsec_hdr]; omega)) hb101 (by omega)).mono ?_)
          rintro e w109 ⟨F108, rfl, hv⟩
          refine ⟨_, rfl, JS.next hl ⟨F108, by rw [hvals]; rfl, hv⟩⟩
        · intro aa ww vals hJ hR
          have h1 : 0 < vals.length := hR.lo 6 (by simp) rfl
          have hl : vals.length = 1 := by have := JS.le (n := 1) (by rfl) hJ; omega
          obtain ⟨F108, hvals, hv⟩ := hJ.at0 hl
          exact add_step' rfl (Ex.adds' (ex_assign rfl (show aa.eval (.tmp 77) = _ from (hR.val 6 77 rfl rfl rfl).trans (by rw [hvals]; rfl))) (wn rfl) rfl)
        rintro w110 vals ⟨F108, rfl, hv⟩
        rw [show mixV [6] [.int .i64 0] 0 [.pointer (some ⟨q, 0, none⟩), .pointer (some ⟨q, 0, none⟩), .pointer (some ⟨q, 0, none⟩), .pointer (some ⟨p, 0, none⟩), .int .i64 (at_ : Int), .slice (some ⟨b85, 0, none⟩) 64 64, undef, .int .i64 0] = [.pointer (some ⟨q, 0, none⟩), .pointer (some ⟨q, 0, none⟩), .pointer (some ⟨q, 0, none⟩), .pointer (some ⟨p, 0, none⟩), .int .i64 (at_ : Int), .slice (some ⟨b85, 0, none⟩) 64 64, .int .i64 0, .int .i64 0] from rfl]
        simp only [putAll, Act.put, List.setIfInBounds_toArray, List.set_cons_succ, List.set_cons_zero]
        refine then_normal (hK100 _ _ ?_)
        clear hK100 K100
        refine wpIn_seq_k (fun K111 hK111 => ?_)
        refine wpIn_region_lit ?_
        refine wpi_exG (v := .int .i64 0) (fun _ => trivial) (wn rfl) rfl (ex_move rfl rfl) ?_
        refine wpi_exG (v := .bool false) (fun _ => trivial) (wn rfl) rfl (ex_neq (k := .i64) (m := 0) (n := 0) rfl rfl rfl (by decide)) ?_
        refine wpListIn_nil ?_
        simp only [Act.put, List.setIfInBounds_toArray, List.set_cons_succ, List.set_cons_zero]
        refine then_normal (hK111 _ _ ?_)
        clear hK111 K111
        refine wpIn_cond_false rfl ?_
        refine wpIn_skip ?_
        refine then_normal (hK99 _ _ ?_)
        clear hK99 K99
        refine wpIn_seq_k (fun K112 hK112 => ?_)
        refine wpIn_region_lit ?_
        refine wpi_exG (v := .pointer (some ⟨q, 0, none⟩)) (fun _ => trivial) (wn rfl) rfl (ex_move rfl rfl) ?_
        refine wpi_exG (v := .pointer (some ⟨q, 0, none⟩)) (fun _ => trivial) (wn rfl) rfl (ex_nil rfl rfl) ?_
        refine wpi_exG (v := .pointer (some ⟨q, 0, none⟩)) (fun _ => trivial) (wn rfl) rfl (ex_field rfl rfl (g4fa111_0 _ _ _)) ?_
        simp only [Act.put, List.setIfInBounds_toArray, List.set_cons_succ, List.set_cons_zero]
        refine wpi_exG (v := .pointer (some ⟨p, 0, none⟩)) (fun _ => trivial) (wn rfl) rfl (ex_load rfl rfl (run_load1 g4na36 (hv.load 6 0 rfl rfl))) ?_
        by_cases hl113 : (D.write at_ (logHdr st l)).left = 0
        · refine wpi_callG g4callable24 (fun _ => trivial) wideC rfl (wn rfl) rfl (args := #[.pointer (some ⟨p, 0, none⟩)]) (by simp only [List.map_toArray, List.map_cons, List.map_nil]; rfl) ((diskSyncOffSl _ _ _ p _ _ hv hl113).mono ?_)
          rintro e w115 ⟨F114, rfl, hv⟩
          refine ⟨_, rfl, ?_⟩
          refine wpi_exG (v := .int .i64 20) (fun _ => trivial) (wn rfl) rfl (ex_assign rfl rfl) ?_
          refine wpListIn_nil ?_
          simp only [Act.put, List.setIfInBounds_toArray, List.set_cons_succ, List.set_cons_zero]
          refine then_normal (hK112 _ _ ?_)
          clear hK112 K112
          refine wpIn_ret ?_
          replace hv := hv.front 3 rfl
          simp only [List.eraseIdx_cons_succ, List.eraseIdx_cons_zero] at hv
          refine sl_end1 hv (fun w116 hv => ⟨_, results_tmp rfl _ _ _, ?_⟩)
          have hres : putAll' D at_ (logText l) (logHdr st l) = (20, D.write at_ (logHdr st l)) := by
            simp only [putAll', putHead, if_pos (show (logText l).length = 0 by omega), if_neg hb101, if_pos hl113]
          rw [hres]
          exact ⟨_, rfl, ((hv.front 5 rfl).sub (List.Sublist.cons_cons _ (List.Sublist.cons_cons _ (List.Sublist.cons _ (List.Sublist.cons _ (List.Sublist.cons _ (List.Sublist.cons _ (List.Sublist.refl _))))))))⟩
        · refine wpi_callG g4callable24 (fun _ => trivial) wideC rfl (wn rfl) rfl (args := #[.pointer (some ⟨p, 0, none⟩)]) (by simp only [List.map_toArray, List.map_cons, List.map_nil]; rfl) ((diskSyncSl _ _ _ p _ _ hv hl113 (by simp only [write_dur, sync_dur, write_pend, sync_pend, nsec_hdr, logText_nsec]; omega)).mono ?_)
          rintro e w118 ⟨F117, rfl, hv⟩
          refine ⟨_, rfl, ?_⟩
          refine wpi_exG (v := .int .i64 0) (fun _ => trivial) (wn rfl) rfl (ex_assign rfl rfl) ?_
          refine wpListIn_nil ?_
          simp only [Act.put, List.setIfInBounds_toArray, List.set_cons_succ, List.set_cons_zero]
          refine then_normal (hK112 _ _ ?_)
          clear hK112 K112
          refine wpIn_ret ?_
          replace hv := hv.front 3 rfl
          simp only [List.eraseIdx_cons_succ, List.eraseIdx_cons_zero] at hv
          refine sl_end1 hv (fun w119 hv => ⟨_, results_tmp rfl _ _ _, ?_⟩)
          have hres : putAll' D at_ (logText l) (logHdr st l) = (0, (D.write at_ (logHdr st l)).sync) := by
            simp only [putAll', putHead, if_pos (show (logText l).length = 0 by omega), if_neg hb101, if_neg hl113]
          rw [hres]
          exact ⟨_, rfl, ((hv.front 5 rfl).sub (List.Sublist.cons_cons _ (List.Sublist.cons_cons _ (List.Sublist.cons _ (List.Sublist.cons _ (List.Sublist.cons _ (List.Sublist.cons _ (List.Sublist.refl _))))))))⟩
end Go.Proofs.Ytkannfkjnohdlaa
/- log.Append -/
namespace Go.Proofs.Ytkannfkjnohdlaa
open Go.RowKit Go.Pm

theorem g5fa111_5 (w : World) (b o : Nat) : (Instr.fieldAt 111 (.pointer (some ⟨b, o, none⟩)) 5).run Try.prog w = .ok (.pointer (some ⟨b, o + 5, none⟩)) w := by kernel_rfl
theorem g5na4 (w : World) : (isAgg 4).run Try.prog w = .ok false w := by kernel_rfl
set_option maxRecDepth 100000 in
set_option maxHeartbeats 2000000 in
theorem logAppendOff (B : Base) (H : List Res) (w : World) (q p from_ kn used last : Nat) (D : Disk) (F : List Nat) (a : Option Addr) (nb cap : Nat) (l : List UInt8) (st : Int) (hv : Inv B (Res.cell q [.pointer (some ⟨p, 0, none⟩), .int .i64 (from_ : Int), .int .i64 (kn : Int), .int .i64 (used : Int), .int .i64 (last : Int), .bool true] 111 :: diskR p D F :: H) w) :
    Calls Try.prog 40 #[.pointer (some ⟨q, 0, none⟩), .int .i64 st, .slice a nb cap] w fun e w' => e = .returned (.int .i64 20) ∧ w = w' := by
  refine (callsIn_wide (n := 5)).1 ?_
  refine callsIn_of_wp Try.func40 rfl trivial ?_
  simp only [Try.ntmps40, List.size_toArray, List.length_cons, List.length_nil, Nat.reduceAdd, Nat.reduceSub, Array.replicate_succ, Array.replicate_zero, List.push_toArray, List.append_toArray, List.nil_append, List.cons_append]
  refine wpIn_seq_k (fun K1 hK1 => ?_)
  refine wpIn_region_lit ?_
  refine wpi_exG (v := .int .i64 0) (fun _ => trivial) (wn rfl) rfl (ex_assign rfl rfl) ?_
  refine wpListIn_nil ?_
  simp only [Act.put, List.setIfInBounds_toArray, List.set_cons_succ, List.set_cons_zero]
  refine then_normal (hK1 _ _ ?_)
  clear hK1 K1
  refine wpIn_seq_k (fun K2 hK2 => ?_)
  refine wpIn_block ?_
  refine wpIn_seq_k (fun K3 hK3 => ?_)
  refine wpIn_region_lit ?_
  refine wpi_exG (v := .pointer (some ⟨q, 0, none⟩)) (fun _ => trivial) (wn rfl) rfl (ex_move rfl rfl) ?_
  refine wpi_exG (v := .pointer (some ⟨q, 0, none⟩)) (fun _ => trivial) (wn rfl) rfl (ex_nil rfl rfl) ?_
  refine wpi_exG (v := .pointer (some ⟨q, 5, none⟩)) (fun _ => trivial) (wn rfl) rfl (ex_field rfl rfl (g5fa111_5 _ _ _)) ?_
  simp only [Act.put, List.setIfInBounds_toArray, List.set_cons_succ, List.set_cons_zero]
  refine wpi_exG (v := .bool true) (fun _ => trivial) (wn rfl) rfl (ex_load rfl rfl (run_load1 g5na4 (hv.load 0 5 rfl rfl))) ?_
  refine wpi_exG (v := .bool true) (fun _ => trivial) (wn rfl) rfl (ex_assign rfl rfl) ?_
  refine wpListIn_nil ?_
  simp only [Act.put, List.setIfInBounds_toArray, List.set_cons_succ, List.set_cons_zero]
  refine then_normal (hK3 _ _ ?_)
  clear hK3 K3
  refine wpIn_cond_true rfl ?_
  refine wpIn_seq_k (fun K4 hK4 => ?_)
  refine wpIn_region_lit ?_
  refine wpi_exG (v := .int .i64 20) (fun _ => trivial) (wn rfl) rfl (ex_assign rfl rfl) ?_
  refine wpListIn_nil ?_
  simp only [Act.put, List.setIfInBounds_toArray, List.set_cons_succ, List.set_cons_zero]
  refine then_normal (hK4 _ _ ?_)
  clear hK4 K4
  refine wpIn_ret ?_
  refine blk_ret ?_
  refine then_ret ?_
  clear hK2 K2
  refine bodyPost_ret (results_tmp rfl _ _ _) rfl ?_
  exact ⟨rfl, rfl⟩
theorem g5fa111_4 (w : World) (b o : Nat) : (Instr.fieldAt 111 (.pointer (some ⟨b, o, none⟩)) 4).run Try.prog w = .ok (.pointer (some ⟨b, o + 4, none⟩)) w := by kernel_rfl
theorem g5na3 (w : World) : (isAgg 3).run Try.prog w = .ok false w := by kernel_rfl
theorem g5callable54 : Callable Try.prog 54 := ⟨_, Try.func54, by kernel_rfl, by kernel_rfl⟩
theorem g5fa111_2 (w : World) (b o : Nat) : (Instr.fieldAt 111 (.pointer (some ⟨b, o, none⟩)) 2).run Try.prog w = .ok (.pointer (some ⟨b, o + 2, none⟩)) w := by kernel_rfl
theorem g5fa111_3 (w : World) (b o : Nat) : (Instr.fieldAt 111 (.pointer (some ⟨b, o, none⟩)) 3).run Try.prog w = .ok (.pointer (some ⟨b, o + 3, none⟩)) w := by kernel_rfl
theorem g5callable56 : Callable Try.prog 56 := ⟨_, Try.func56, by kernel_rfl, by kernel_rfl⟩
theorem g5sz4 : (Try.prog.info? 4).map (·.size) = some 1 := by kernel_rfl
theorem g5sz3 : (Try.prog.info? 3).map (·.size) = some 1 := by kernel_rfl
set_option maxRecDepth 100000 in
set_option maxHeartbeats 1000000 in
theorem logAppend (B : Base) (H : List Res) (w : World) (q p from_ kn used last : Nat) (D : Disk) (F : List Nat) (a : Option Addr) (nb cap : Nat) (l : List UInt8) (hst : last + 1 ≤ 1000000000) (huk : used ≤ kn) (hfit : from_ + kn ≤ D.dur.length) (hdm : D.dur.length ≤ 65536) (hpl : D.pend.length ≤ 1000000) (hn : l.length = nb) (hb2 : nb ≤ 1048576) (hok : SliceOk a l.length cap) (hr : RdV B [] a (l.map B8)) (hv : Inv B (Res.cell q [.pointer (some ⟨p, 0, none⟩), .int .i64 (from_ : Int), .int .i64 (kn : Int), .int .i64 (used : Int), .int .i64 (last : Int), .bool false] 111 :: diskR p D F :: H) w) :
    Calls Try.prog 40 #[.pointer (some ⟨q, 0, none⟩), .int .i64 ((last + 1 : Nat) : Int), .slice a nb cap] w fun e w' => (used + secs l.length > kn ∧ e = .returned (.int .i64 22) ∧ Inv B (Res.cell q [.pointer (some ⟨p, 0, none⟩), .int .i64 (from_ : Int), .int .i64 (kn : Int), .int .i64 (used : Int), .int .i64 (last : Int), .bool false] 111 :: diskR p D F :: H) w') ∨ (used + secs l.length ≤ kn ∧ (putAll' D (from_ + used) (logText l) (logHdr (last + 1) l)).1 ≠ 0 ∧ ∃ F', e = .returned (.int .i64 (putAll' D (from_ + used) (logText l) (logHdr (last + 1) l)).1) ∧ Inv B (Res.cell q [.pointer (some ⟨p, 0, none⟩), .int .i64 (from_ : Int), .int .i64 (kn : Int), .int .i64 (used : Int), .int .i64 (last : Int), .bool true] 111 :: diskR p (putAll' D (from_ + used) (logText l) (logHdr (last + 1) l)).2 F' :: H) w') ∨ (used + secs l.length ≤ kn ∧ (putAll' D (from_ + used) (logText l) (logHdr (last + 1) l)).1 = 0 ∧ ∃ F', e = .returned (.int .i64 0) ∧ Inv B (Res.cell q [.pointer (some ⟨p, 0, none⟩), .int .i64 (from_ : Int), .int .i64 (kn : Int), .int .i64 ((used + secs l.length : Nat) : Int), .int .i64 ((last + 1 : Nat) : Int), .bool false] 111 :: diskR p (putAll' D (from_ + used) (logText l) (logHdr (last + 1) l)).2 F' :: H) w') := by
  subst hn
  have hsp := secs_pos l.length
  refine (callsIn_wide (n := 5)).1 ?_
  refine callsIn_of_wp Try.func40 rfl trivial ?_
  simp only [Try.ntmps40, List.size_toArray, List.length_cons, List.length_nil, Nat.reduceAdd, Nat.reduceSub, Array.replicate_succ, Array.replicate_zero, List.push_toArray, List.append_toArray, List.nil_append, List.cons_append]
  refine wpIn_seq_k (fun K1 hK1 => ?_)
  refine wpIn_region_lit ?_
  refine wpi_exG (v := .int .i64 0) (fun _ => trivial) (wn rfl) rfl (ex_assign rfl rfl) ?_
  refine wpListIn_nil ?_
  simp only [Act.put, List.setIfInBounds_toArray, List.set_cons_succ, List.set_cons_zero]
  refine then_normal (hK1 _ _ ?_)
  clear hK1 K1
  refine wpIn_seq_k (fun K2 hK2 => ?_)
  refine wpIn_block ?_
  refine wpIn_seq_k (fun K3 hK3 => ?_)
  refine wpIn_region_lit ?_
  refine wpi_exG (v := .pointer (some ⟨q, 0, none⟩)) (fun _ => trivial) (wn rfl) rfl (ex_move rfl rfl) ?_
  refine wpi_exG (v := .pointer (some ⟨q, 0, none⟩)) (fun _ => trivial) (wn rfl) rfl (ex_nil rfl rfl) ?_
  refine wpi_exG (v := .pointer (some ⟨q, 5, none⟩)) (fun _ => trivial) (wn rfl) rfl (ex_field rfl rfl (g5fa111_5 _ _ _)) ?_
  simp only [Act.put, List.setIfInBounds_toArray, List.set_cons_succ, List.set_cons_zero]
  refine wpi_exG (v := .bool false) (fun _ => trivial) (wn rfl) rfl (ex_load rfl rfl (run_load1 g5na4 (hv.load 0 5 rfl rfl))) ?_
  refine wpi_exG (v := .bool false) (fun _ => trivial) (wn rfl) rfl (ex_assign rfl rfl) ?_
  refine wpListIn_nil ?_
  simp only [Act.put, List.setIfInBounds_toArray, List.set_cons_succ, List.set_cons_zero]
  refine then_normal (hK3 _ _ ?_)
  clear hK3 K3
  refine wpIn_cond_false rfl ?_
  refine wpIn_seq_k (fun K4 hK4 => ?_)
  refine wpIn_region_lit ?_
  refine wpi_exG (v := .int .i64 ((last + 1 : Nat) : Int)) (fun _ => trivial) (wn rfl) rfl (ex_move rfl rfl) ?_
  refine wpi_exG (v := .pointer (some ⟨q, 0, none⟩)) (fun _ => trivial) (wn rfl) rfl (ex_move rfl rfl) ?_
  refine wpi_exG (v := .pointer (some ⟨q, 0, none⟩)) (fun _ => trivial) (wn rfl) rfl (ex_nil rfl rfl) ?_
  simp only [Act.put, List.setIfInBounds_toArray, List.set_cons_succ, List.set_cons_zero]
  refine wpi_exG (v := .pointer (some ⟨q, 4, none⟩)) (fun _ => trivial) (wn rfl) rfl (ex_field rfl rfl (g5fa111_4 _ _ _)) ?_
  refine wpi_exG (v := .int .i64 (last : Int)) (fun _ => trivial) (wn rfl) rfl (ex_load rfl rfl (run_load1 g5na3 (hv.load 0 4 rfl rfl))) ?_
  refine wpi_exG (v := .int .i64 ((last + 1 : Nat) : Int)) (fun _ => trivial) (wn rfl) rfl (ex_add (m := (last : Int)) (n := 1) rfl rfl rfl (by rw [i64_in (by omega)]; omega)) ?_
  simp only [Act.put, List.setIfInBounds_toArray, List.set_cons_succ, List.set_cons_zero]
  refine wpi_exG (v := .bool false) (fun _ => trivial) (wn rfl) rfl (ex_neq (k := .i64) (m := ((last + 1 : Nat) : Int)) (n := ((last + 1 : Nat) : Int)) rfl rfl rfl (decide_eq_false (by omega))) ?_
  refine wpi_exG (v := .bool false) (fun _ => trivial) (wn rfl) rfl (ex_move rfl rfl) ?_
  refine wpi_exG (v := .int .i64 ((last + 1 : Nat) : Int)) (fun _ => trivial) (wanted_of (j := 7) (d := 21) (b := false) rfl rfl rfl) rfl (ex_move rfl rfl) ?_
  simp only [Act.put, List.setIfInBounds_toArray, List.set_cons_succ, List.set_cons_zero]
  refine wpi_exG (v := .bool false) (fun _ => trivial) (wanted_of (j := 7) (d := 21) (b := false) rfl rfl rfl) rfl (ex_gtr (k := .i64) (m := ((last + 1 : Nat) : Int)) (n := 1152921504606846975) rfl rfl rfl (decide_eq_false (by omega))) ?_
  refine wpi_exG (v := .bool false) (fun _ => trivial) (wn rfl) rfl (ex_pick (b := false) rfl rfl rfl) ?_
  refine wpi_exG (v := .bool false) (fun _ => trivial) (wn rfl) rfl (ex_assign rfl rfl) ?_
  refine wpListIn_nil ?_
  simp only [Act.put, List.setIfInBounds_toArray, List.set_cons_succ, List.set_cons_zero]
  refine then_normal (hK4 _ _ ?_)
  clear hK4 K4
  refine wpIn_cond_false rfl ?_
  refine wpIn_seq_k (fun K5 hK5 => ?_)
  refine wpIn_region_lit ?_
  refine wpi_exG (v := .slice a l.length cap) (fun _ => trivial) (wn rfl) rfl (ex_move rfl rfl) ?_
  refine wpi_exG (v := .int .i64 (l.length : Int)) (fun _ => trivial) (wn rfl) rfl (ex_len0 Try.underlying24 rfl rfl) ?_
  refine wpi_exG (v := .bool false) (fun _ => trivial) (wn rfl) rfl (ex_gtr (k := .i64) (m := (l.length : Int)) (n := 1048576) rfl rfl rfl (decide_eq_false (by omega))) ?_
  simp only [Act.put, List.setIfInBounds_toArray, List.set_cons_succ, List.set_cons_zero]
  refine wpi_exG (v := .bool false) (fun _ => trivial) (wn rfl) rfl (ex_assign rfl rfl) ?_
  refine wpListIn_nil ?_
  simp only [Act.put, List.setIfInBounds_toArray, List.set_cons_succ, List.set_cons_zero]
  refine then_normal (hK5 _ _ ?_)
  clear hK5 K5
  refine wpIn_cond_false rfl ?_
  refine wpIn_seq_k (fun K6 hK6 => ?_)
  by_cases hb8 : (secs l.length : Int) > ((kn : Int) - (used : Int))
  · refine region_st mixed [.slice a l.length cap, .int .i64 (l.length : Int), undef, .pointer (some ⟨q, 0, none⟩), .pointer (some ⟨q, 0, none⟩), .pointer (some ⟨q, 2, none⟩), .int .i64 (kn : Int), .pointer (some ⟨q, 0, none⟩), .pointer (some ⟨q, 0, none⟩), .pointer (some ⟨q, 3, none⟩), .int .i64 (used : Int), .int .i64 ((kn : Int) - (used : Int)), .bool true, .bool true] [2] [⟨fun vals w => vals = [] ∧ Inv B (Res.cell q [.pointer (some ⟨p, 0, none⟩), .int .i64 (from_ : Int), .int .i64 (kn : Int), .int .i64 (used : Int), .int .i64 (last : Int), .bool false] 111 :: diskR p D F :: H) w, fun _ _ _ ⟨h, hi⟩ he => ⟨h, hi.ext he⟩⟩, ⟨fun vals w => vals = [.int .i64 (secs l.length : Int)] ∧ Inv B (Res.cell q [.pointer (some ⟨p, 0, none⟩), .int .i64 (from_ : Int), .int .i64 (kn : Int), .int .i64 (used : Int), .int .i64 (last : Int), .bool false] 111 :: diskR p D F :: H) w, fun _ _ _ ⟨h, hi⟩ he => ⟨h, hi.ext he⟩⟩] 67 rfl (by kernel_rfl) ⟨rfl, hv⟩ ⟨?_, ?_, ?_, ?_, ?_, ?_, ?_, ?_, ?_, ?_, ?_, ?_, ?_, ?_, trivial⟩ ?_
    · intro aa ww vals hJ hR
      exact add_step' rfl (Ex.adds' (ex_move rfl (show aa.eval (.tmp 2) = _ from hR.keep 2 rfl)) (wn rfl) rfl)
    · intro aa ww vals hJ hR
      exact add_step' rfl (Ex.adds' (ex_len0 Try.underlying24 rfl (show aa.eval (.tmp 30) = _ from hR.v 0 30 rfl rfl rfl rfl)) (wn rfl) rfl)
    · intro aa ww vals hJ hR
      refine mem_step' rfl fun hvl => ?_
      have hl : vals.length = 0 := hvl
      obtain ⟨hvals, hv⟩ := hJ.at0 hl
      refine stepMem_calls g5callable54 (wn rfl) rfl (args := #[.int .i64 (l.length : Int)]) (by simp only [List.map_toArray, List.map_cons, List.map_nil]; rw [show aa.eval (.tmp 31) = .int .i64 (l.length : Int) from hR.v 1 31 rfl rfl rfl rfl] <;> rfl) ((logSectors _ l.length (by omega)).mono ?_)
      rintro e w9 ⟨rfl, rfl⟩
      refine ⟨_, rfl, JS.next hl ⟨by rw [hvals]; rfl, hv⟩⟩
    · intro aa ww vals hJ hR
      exact add_step' rfl (Ex.adds' (ex_move rfl (show aa.eval (.tmp 0) = _ from hR.keep 0 rfl)) (wn rfl) rfl)
    · intro aa ww vals hJ hR
      exact add_step' rfl (Ex.adds' (ex_nil rfl (show aa.eval (.tmp 33) = _ from hR.v 3 33 rfl rfl rfl rfl)) (wn rfl) rfl)
    · intro aa ww vals hJ hR
      exact add_step' rfl (Ex.adds' (ex_field rfl (show aa.eval (.tmp 34) = _ from hR.v 4 34 rfl rfl rfl rfl) (g5fa111_2 _ _ _)) (wn rfl) rfl)
    · intro aa ww vals hJ hR
      have h2 : vals.length ≤ 1 := JS.le (by rfl) hJ
      rcases (show vals.length = 0 ∨ vals.length = 1 by omega) with hl | hl
      · obtain ⟨hvals, hv⟩ := hJ.at0 hl
        exact add_step' rfl (Ex.adds' (ex_load rfl (show aa.eval (.tmp 35) = _ from hR.v 5 35 rfl rfl rfl rfl) (run_load1 g5na3 (hv.load 0 2 rfl rfl))) (wn rfl) rfl)
      · obtain ⟨hvals, hv⟩ := hJ.at0 hl
        exact add_step' rfl (Ex.adds' (ex_load rfl (show aa.eval (.tmp 35) = _ from hR.v 5 35 rfl rfl rfl rfl) (run_load1 g5na3 (hv.load 0 2 rfl rfl))) (wn rfl) rfl)
    · intro aa ww vals hJ hR
      exact add_step' rfl (Ex.adds' (ex_move rfl (show aa.eval (.tmp 0) = _ from hR.keep 0 rfl)) (wn rfl) rfl)
    · intro aa ww vals hJ hR
      exact add_step' rfl (Ex.adds' (ex_nil rfl (show aa.eval (.tmp 37) = _ from hR.v 7 37 rfl rfl rfl rfl)) (wn rfl) rfl)
    · intro aa ww vals hJ hR
      exact add_step' rfl (Ex.adds' (ex_field rfl (show aa.eval (.tmp 38) = _ from hR.v 8 38 rfl rfl rfl rfl) (g5fa111_3 _ _ _)) (wn rfl) rfl)
    · intro aa ww vals hJ hR
      have h2 : vals.length ≤ 1 := JS.le (by rfl) hJ
      rcases (show vals.length = 0 ∨ vals.length = 1 by omega) with hl | hl
      · obtain ⟨hvals, hv⟩ := hJ.at0 hl
        exact add_step' rfl (Ex.adds' (ex_load rfl (show aa.eval (.tmp 39) = _ from hR.v 9 39 rfl rfl rfl rfl) (run_load1 g5na3 (hv.load 0 3 rfl rfl))) (wn rfl) rfl)
      · obtain ⟨hvals, hv⟩ := hJ.at0 hl
        exact add_step' rfl (Ex.adds' (ex_load rfl (show aa.eval (.tmp 39) = _ from hR.v 9 39 rfl rfl rfl rfl) (run_load1 g5na3 (hv.load 0 3 rfl rfl))) (wn rfl) rfl)
    · intro aa ww vals hJ hR
      exact add_step' rfl (Ex.adds' (ex_sub (m := (kn : Int)) (n := (used : Int)) rfl (show aa.eval (.tmp 36) = _ from hR.v 6 36 rfl rfl rfl rfl) (show aa.eval (.tmp 40) = _ from hR.v 10 40 rfl rfl rfl rfl) (i64_in (by omega))) (wn rfl) rfl)
    · intro aa ww vals hJ hR
      have h1 : 0 < vals.length := hR.lo 2 (by simp) rfl
      have hl : vals.length = 1 := by have := JS.le (n := 1) (by rfl) hJ; omega
      obtain ⟨hvals, hv⟩ := hJ.at0 hl
      exact add_step' rfl (Ex.adds' (ex_gtr (k := .i64) (m := (secs l.length : Int)) (n := ((kn : Int) - (used : Int))) rfl (show aa.eval (.tmp 32) = _ from (hR.val 2 32 rfl rfl rfl).trans (by rw [hvals]; rfl)) (show aa.eval (.tmp 41) = _ from hR.v 11 41 rfl rfl rfl rfl) (decide_eq_true hb8)) (wn rfl) rfl)
    · intro aa ww vals hJ hR
      exact add_step' rfl (Ex.adds' (ex_assign rfl (show aa.eval (.tmp 42) = _ from hR.v 12 42 rfl rfl rfl rfl)) (wn rfl) rfl)
    rintro w10 vals ⟨rfl, hv⟩
    rw [show mixV [2] [.int .i64 (secs l.length : Int)] 0 [.slice a l.length cap, .int .i64 (l.length : Int), undef, .pointer (some ⟨q, 0, none⟩), .pointer (some ⟨q, 0, none⟩), .pointer (some ⟨q, 2, none⟩), .int .i64 (kn : Int), .pointer (some ⟨q, 0, none⟩), .pointer (some ⟨q, 0, none⟩), .pointer (some ⟨q, 3, none⟩), .int .i64 (used : Int), .int .i64 ((kn : Int) - (used : Int)), .bool true, .bool true] = [.slice a l.length cap, .int .i64 (l.length : Int), .int .i64 (secs l.length : Int), .pointer (some ⟨q, 0, none⟩), .pointer (some ⟨q, 0, none⟩), .pointer (some ⟨q, 2, none⟩), .int .i64 (kn : Int), .pointer (some ⟨q, 0, none⟩), .pointer (some ⟨q, 0, none⟩), .pointer (some ⟨q, 3, none⟩), .int .i64 (used : Int), .int .i64 ((kn : Int) - (used : Int)), .bool true, .bool true] from rfl]
    simp only [putAll, Act.put, List.setIfInBounds_toArray, List.set_cons_succ, List.set_cons_zero]
    refine then_normal (hK6 _ _ ?_)
    clear hK6 K6
    refine wpIn_cond_true rfl ?_
    refine wpIn_seq_k (fun K11 hK11 => ?_)
    refine wpIn_region_lit ?_
    refine wpi_exG (v := .int .i64 22) (fun _ => trivial) (wn rfl) rfl (ex_assign rfl rfl) ?_
    refine wpListIn_nil ?_
    simp only [Act.put, List.setIfInBounds_toArray, List.set_cons_succ, List.set_cons_zero]
    refine then_normal (hK11 _ _ ?_)
    clear hK11 K11
    refine wpIn_ret ?_
    refine blk_ret ?_
    refine then_ret ?_
    clear hK2 K2
    refine bodyPost_ret (results_tmp rfl _ _ _) rfl ?_
    exact .inl ⟨by omega, rfl, ((hv.front 1 rfl).front 1 rfl)⟩
  · refine region_st mixed [.slice a l.length cap, .int .i64 (l.length : Int), undef, .pointer (some ⟨q, 0, none⟩), .pointer (some ⟨q, 0, none⟩), .pointer (some ⟨q, 2, none⟩), .int .i64 (kn : Int), .pointer (some ⟨q, 0, none⟩), .pointer (some ⟨q, 0, none⟩), .pointer (some ⟨q, 3, none⟩), .int .i64 (used : Int), .int .i64 ((kn : Int) - (used : Int)), .bool false, .bool false] [2] [⟨fun vals w => vals = [] ∧ Inv B (Res.cell q [.pointer (some ⟨p, 0, none⟩), .int .i64 (from_ : Int), .int .i64 (kn : Int), .int .i64 (used : Int), .int .i64 (last : Int), .bool false] 111 :: diskR p D F :: H) w, fun _ _ _ ⟨h, hi⟩ he => ⟨h, hi.ext he⟩⟩, ⟨fun vals w => vals = [.int .i64 (secs l.length : Int)] ∧ Inv B (Res.cell q [.pointer (some ⟨p, 0, none⟩), .int .i64 (from_ : Int), .int .i64 (kn : Int), .int .i64 (used : Int), .int .i64 (last : Int), .bool false] 111 :: diskR p D F :: H) w, fun _ _ _ ⟨h, hi⟩ he => ⟨h, hi.ext he⟩⟩] 67 rfl (by kernel_rfl) ⟨rfl, hv⟩ ⟨?_, ?_, ?_, ?_, ?_, ?_, ?_, ?_, ?_, ?_, ?_, ?_, ?_, ?_, trivial⟩ ?_
    · intro aa ww vals hJ hR
      exact add_step' rfl (Ex.adds' (ex_move rfl (show aa.eval (.tmp 2) = _ from hR.keep 2 rfl)) (wn rfl) rfl)
    · intro aa ww vals hJ hR
      exact add_step' rfl (Ex.adds' (ex_len0 Try.underlying24 rfl (show aa.eval (.tmp 30) = _ from hR.v 0 30 rfl rfl rfl rfl)) (wn rfl) rfl)
    · intro aa ww vals hJ hR
      refine mem_step' rfl fun hvl => ?_
      have hl : vals.length = 0 := hvl
      obtain ⟨hvals, hv⟩ := hJ.at0 hl
      refine stepMem_calls g5callable54 (wn rfl) rfl (args := #[.int .i64 (l.length : Int)]) (by simp only [List.map_toArray, List.map_cons, List.map_nil]; rw [show aa.eval (.tmp 31) = .int .i64 (l.length : Int) from hR.v 1 31 rfl rfl rfl rfl] <;> rfl) ((logSectors _ l.length (by omega)).mono ?_)
      rintro e w12 ⟨rfl, rfl⟩
      refine ⟨_, rfl, JS.next hl ⟨by rw [hvals]; rfl, hv⟩⟩
    · intro aa ww vals hJ hR
      exact add_step' rfl (Ex.adds' (ex_move rfl (show aa.eval (.tmp 0) = _ from hR.keep 0 rfl)) (wn rfl) rfl)
    · intro aa ww vals hJ hR
      exact add_step' rfl (Ex.adds' (ex_nil rfl (show aa.eval (.tmp 33) = _ from hR.v 3 33 rfl rfl rfl rfl)) (wn rfl) rfl)
    · intro aa ww vals hJ hR
      exact add_step' rfl (Ex.adds' (ex_field rfl (show aa.eval (.tmp 34) = _ from hR.v 4 34 rfl rfl rfl rfl) (g5fa111_2 _ _ _)) (wn rfl) rfl)
    · intro aa ww vals hJ hR
      have h2 : vals.length ≤ 1 := JS.le (by rfl) hJ
      rcases (show vals.length = 0 ∨ vals.length = 1 by omega) with hl | hl
      · obtain ⟨hvals, hv⟩ := hJ.at0 hl
        exact add_step' rfl (Ex.adds' (ex_load rfl (show aa.eval (.tmp 35) = _ from hR.v 5 35 rfl rfl rfl rfl) (run_load1 g5na3 (hv.load 0 2 rfl rfl))) (wn rfl) rfl)
      · obtain ⟨hvals, hv⟩ := hJ.at0 hl
        exact add_step' rfl (Ex.adds' (ex_load rfl (show aa.eval (.tmp 35) = _ from hR.v 5 35 rfl rfl rfl rfl) (run_load1 g5na3 (hv.load 0 2 rfl rfl))) (wn rfl) rfl)
    · intro aa ww vals hJ hR
      exact add_step' rfl (Ex.adds' (ex_move rfl (show aa.eval (.tmp 0) = _ from hR.keep 0 rfl)) (wn rfl) rfl)
    · intro aa ww vals hJ hR
      exact add_step' rfl (Ex.adds' (ex_nil rfl (show aa.eval (.tmp 37) = _ from hR.v 7 37 rfl rfl rfl rfl)) (wn rfl) rfl)
    · intro aa ww vals hJ hR
      exact add_step' rfl (Ex.adds' (ex_field rfl (show aa.eval (.tmp 38) = _ from hR.v 8 38 rfl rfl rfl rfl) (g5fa111_3 _ _ _)) (wn rfl) rfl)
    · intro aa ww vals hJ hR
      have h2 : vals.length ≤ 1 := JS.le (by rfl) hJ
      rcases (show vals.length = 0 ∨ vals.length = 1 by omega) with hl | hl
      · obtain ⟨hvals, hv⟩ := hJ.at0 hl
        exact add_step' rfl (Ex.adds' (ex_load rfl (show aa.eval (.tmp 39) = _ from hR.v 9 39 rfl rfl rfl rfl) (run_load1 g5na3 (hv.load 0 3 rfl rfl))) (wn rfl) rfl)
      · obtain ⟨hvals, hv⟩ := hJ.at0 hl
        exact add_step' rfl (Ex.adds' (ex_load rfl (show aa.eval (.tmp 39) = _ from hR.v 9 39 rfl rfl rfl rfl) (run_load1 g5na3 (hv.load 0 3 rfl rfl))) (wn rfl) rfl)
    · intro aa ww vals hJ hR
      exact add_step' rfl (Ex.adds' (ex_sub (m := (kn : Int)) (n := (used : Int)) rfl (show aa.eval (.tmp 36) = _ from hR.v 6 36 rfl rfl rfl rfl) (show aa.eval (.tmp 40) = _ from hR.v 10 40 rfl rfl rfl rfl) (i64_in (by omega))) (wn rfl) rfl)
    · intro aa ww vals hJ hR
      have h1 : 0 < vals.length := hR.lo 2 (by simp) rfl
      have hl : vals.length = 1 := by have := JS.le (n := 1) (by rfl) hJ; omega
      obtain ⟨hvals, hv⟩ := hJ.at0 hl
      exact add_step' rfl (Ex.adds' (ex_gtr (k := .i64) (m := (secs l.length : Int)) (n := ((kn : Int) - (used : Int))) rfl (show aa.eval (.tmp 32) = _ from (hR.val 2 32 rfl rfl rfl).trans (by rw [hvals]; rfl)) (show aa.eval (.tmp 41) = _ from hR.v 11 41 rfl rfl rfl rfl) (decide_eq_false hb8)) (wn rfl) rfl)
    · intro aa ww vals hJ hR
      exact add_step' rfl (Ex.adds' (ex_assign rfl (show aa.eval (.tmp 42) = _ from hR.v 12 42 rfl rfl rfl rfl)) (wn rfl) rfl)
    rintro w13 vals ⟨rfl, hv⟩
    rw [show mixV [2] [.int .i64 (secs l.length : Int)] 0 [.slice a l.length cap, .int .i64 (l.length : Int), undef, .pointer (some ⟨q, 0, none⟩), .pointer (some ⟨q, 0, none⟩), .pointer (some ⟨q, 2, none⟩), .int .i64 (kn : Int), .pointer (some ⟨q, 0, none⟩), .pointer (some ⟨q, 0, none⟩), .pointer (some ⟨q, 3, none⟩), .int .i64 (used : Int), .int .i64 ((kn : Int) - (used : Int)), .bool false, .bool false] = [.slice a l.length cap, .int .i64 (l.length : Int), .int .i64 (secs l.length : Int), .pointer (some ⟨q, 0, none⟩), .pointer (some ⟨q, 0, none⟩), .pointer (some ⟨q, 2, none⟩), .int .i64 (kn : Int), .pointer (some ⟨q, 0, none⟩), .pointer (some ⟨q, 0, none⟩), .pointer (some ⟨q, 3, none⟩), .int .i64 (used : Int), .int .i64 ((kn : Int) - (used : Int)), .bool false, .bool false] from rfl]
    simp only [putAll, Act.put, List.setIfInBounds_toArray, List.set_cons_succ, List.set_cons_zero]
    refine then_normal (hK6 _ _ ?_)
    clear hK6 K6
    refine wpIn_cond_false rfl ?_
    refine wpIn_skip ?_
    refine blk_normal ?_
    refine then_normal (hK2 _ _ ?_)
    clear hK2 K2
    refine wpIn_seq_k (fun K14 hK14 => ?_)
    refine wpIn_seq_k (fun K15 hK15 => ?_)
    refine wpIn_region_lit ?_
    refine wpi_exG (v := .pointer (some ⟨q, 0, none⟩)) (fun _ => trivial) (wn rfl) rfl (ex_move rfl rfl) ?_
    refine wpi_exG (v := .int .i64 ((last + 1 : Nat) : Int)) (fun _ => trivial) (wn rfl) rfl (ex_move rfl rfl) ?_
    refine wpi_exG (v := .slice a l.length cap) (fun _ => trivial) (wn rfl) rfl (ex_move rfl rfl) ?_
    simp only [Act.put, List.setIfInBounds_toArray, List.set_cons_succ, List.set_cons_zero]
    replace hv := hv.front 1 rfl
    simp only [List.eraseIdx_cons_succ, List.eraseIdx_cons_zero] at hv
    replace hv := hv.front 1 rfl
    simp only [List.eraseIdx_cons_succ, List.eraseIdx_cons_zero] at hv
    refine wpi_callG g5callable56 (fun _ => trivial) wideC rfl (wn rfl) rfl (args := #[.pointer (some ⟨q, 0, none⟩), .int .i64 ((last + 1 : Nat) : Int), .slice a l.length cap]) (by simp only [List.map_toArray, List.map_cons, List.map_nil]; rfl) ((logWrite _ _ _ q p from_ kn used last false D _ (last + 1) a _ cap l (from_ + used) rfl (by omega) (by omega) hdm hpl rfl hb2 hok hr hv).mono ?_)
    rintro e w17 ⟨F16, rfl, hv⟩
    refine ⟨_, rfl, ?_⟩
    refine wpi_exG (v := .int .i64 ((putAll' D (from_ + used) (logText l) (logHdr (last + 1) l)).1)) (fun _ => trivial) (wn rfl) rfl (ex_assign rfl rfl) ?_
    refine wpListIn_nil ?_
    simp only [Act.put, List.setIfInBounds_toArray, List.set_cons_succ, List.set_cons_zero]
    refine then_normal (hK15 _ _ ?_)
    clear hK15 K15
    refine wpIn_seq_k (fun K18 hK18 => ?_)
    refine wpIn_region_lit ?_
    refine wpi_exG (v := .int .i64 ((putAll' D (from_ + used) (logText l) (logHdr (last + 1) l)).1)) (fun _ => trivial) (wn rfl) rfl (ex_move rfl rfl) ?_
    by_cases hb19 : ((putAll' D (from_ + used) (logText l) (logHdr (last + 1) l)).1) ≠ 0
    · refine wpi_exG (v := .bool true) (fun _ => trivial) (wn rfl) rfl (ex_neq (k := .i64) (m := ((putAll' D (from_ + used) (logText l) (logHdr (last + 1) l)).1)) (n := 0) rfl rfl rfl (decide_eq_true hb19)) ?_
      refine wpListIn_nil ?_
      simp only [Act.put, List.setIfInBounds_toArray, List.set_cons_succ, List.set_cons_zero]
      refine then_normal (hK18 _ _ ?_)
      clear hK18 K18
      refine wpIn_cond_true rfl ?_
      refine wpIn_seq_k (fun K20 hK20 => ?_)
      refine wpIn_region_lit ?_
      refine wpi_exG (v := .pointer (some ⟨q, 0, none⟩)) (fun _ => trivial) (wn rfl) rfl (ex_move rfl rfl) ?_
      refine wpi_exG (v := .pointer (some ⟨q, 0, none⟩)) (fun _ => trivial) (wn rfl) rfl (ex_nil rfl rfl) ?_
      refine wpi_exG (v := .pointer (some ⟨q, 5, none⟩)) (fun _ => trivial) (wn rfl) rfl (ex_field rfl rfl (g5fa111_5 _ _ _)) ?_
      simp only [Act.put, List.setIfInBounds_toArray, List.set_cons_succ, List.set_cons_zero]
      refine sl_storeAt 0 (v := .bool true) (L' := [.pointer (some ⟨p, 0, none⟩), .int .i64 (from_ : Int), .int .i64 (kn : Int), .int .i64 (used : Int), .int .i64 (last : Int), .bool true]) (fun _ => trivial) (wn rfl) rfl rfl rfl hv rfl g5sz4 (by simp) rfl rfl rfl (fun w21 hv => ?_)
      simp only [List.set_cons_succ, List.set_cons_zero] at hv
      refine wpListIn_nil ?_
      simp only [Act.put, List.setIfInBounds_toArray, List.set_cons_succ, List.set_cons_zero]
      refine then_normal (hK20 _ _ ?_)
      clear hK20 K20
      refine wpIn_seq_k (fun K22 hK22 => ?_)
      refine wpIn_region_lit ?_
      refine wpi_exG (v := .int .i64 ((putAll' D (from_ + used) (logText l) (logHdr (last + 1) l)).1)) (fun _ => trivial) (wn rfl) rfl (ex_move rfl rfl) ?_
      refine wpi_exG (v := .int .i64 ((putAll' D (from_ + used) (logText l) (logHdr (last + 1) l)).1)) (fun _ => trivial) (wn rfl) rfl (ex_assign rfl rfl) ?_
      refine wpListIn_nil ?_
      simp only [Act.put, List.setIfInBounds_toArray, List.set_cons_succ, List.set_cons_zero]
      refine then_normal (hK22 _ _ ?_)
      clear hK22 K22
      refine wpIn_ret ?_
      refine then_ret ?_
      clear hK14 K14
      refine bodyPost_ret (results_tmp rfl _ _ _) rfl ?_
      exact .inr (.inl ⟨by omega, by omega, _, rfl, ((hv.front 1 rfl).front 1 rfl)⟩)
    · refine wpi_exG (v := .bool false) (fun _ => trivial) (wn rfl) rfl (ex_neq (k := .i64) (m := ((putAll' D (from_ + used) (logText l) (logHdr (last + 1) l)).1)) (n := 0) rfl rfl rfl (decide_eq_false hb19)) ?_
      refine wpListIn_nil ?_
      simp only [Act.put, List.setIfInBounds_toArray, List.set_cons_succ, List.set_cons_zero]
      refine then_normal (hK18 _ _ ?_)
      clear hK18 K18
      refine wpIn_cond_false rfl ?_
      refine wpIn_skip ?_
      refine then_normal (hK14 _ _ ?_)
      clear hK14 K14
      refine wpIn_seq_k (fun K23 hK23 => ?_)
      refine wpIn_region_lit ?_
      refine wpi_exG (v := .pointer (some ⟨q, 0, none⟩)) (fun _ => trivial) (wn rfl) rfl (ex_move rfl rfl) ?_
      refine wpi_exG (v := .int .i64 ((last + 1 : Nat) : Int)) (fun _ => trivial) (wn rfl) rfl (ex_move rfl rfl) ?_
      refine wpi_exG (v := .pointer (some ⟨q, 0, none⟩)) (fun _ => trivial) (wn rfl) rfl (ex_nil rfl rfl) ?_
      simp only [Act.put, List.setIfInBounds_toArray, List.set_cons_succ, List.set_cons_zero]
      refine wpi_exG (v := .pointer (some ⟨q, 4, none⟩)) (fun _ => trivial) (wn rfl) rfl (ex_field rfl rfl (g5fa111_4 _ _ _)) ?_
      refine sl_storeAt 0 (v := .int .i64 ((last + 1 : Nat) : Int)) (L' := [.pointer (some ⟨p, 0, none⟩), .int .i64 (from_ : Int), .int .i64 (kn : Int), .int .i64 (used : Int), .int .i64 ((last + 1 : Nat) : Int), .bool false]) (fun _ => trivial) (wn rfl) rfl rfl rfl hv rfl g5sz3 (by simp) rfl rfl rfl (fun w24 hv => ?_)
      simp only [List.set_cons_succ, List.set_cons_zero] at hv
      refine wpListIn_nil ?_
      simp only [Act.put, List.setIfInBounds_toArray, List.set_cons_succ, List.set_cons_zero]
      refine then_normal (hK23 _ _ ?_)
      clear hK23 K23
      refine wpIn_seq_k (fun K25 hK25 => ?_)
      refine region_st mixed [.pointer (some ⟨q, 0, none⟩), .pointer (some ⟨q, 0, none⟩), .pointer (some ⟨q, 3, none⟩), .int .i64 (used : Int), .slice a l.length cap, .int .i64 (l.length : Int), undef, .int .i64 ((used + secs l.length : Nat) : Int), .pointer (some ⟨q, 0, none⟩), .pointer (some ⟨q, 3, none⟩), undef] [6, 10] [⟨fun vals w => vals = [] ∧ Inv B (Res.cell q [.pointer (some ⟨p, 0, none⟩), .int .i64 (from_ : Int), .int .i64 (kn : Int), .int .i64 (used : Int), .int .i64 ((last + 1 : Nat) : Int), .bool false] 111 :: diskR p ((putAll' D (from_ + used) (logText l) (logHdr (last + 1) l)).2) F16 :: H) w, fun _ _ _ ⟨h, hi⟩ he => ⟨h, hi.ext he⟩⟩, ⟨fun vals w => vals = [.int .i64 (secs l.length : Int)] ∧ Inv B (Res.cell q [.pointer (some ⟨p, 0, none⟩), .int .i64 (from_ : Int), .int .i64 (kn : Int), .int .i64 (used : Int), .int .i64 ((last + 1 : Nat) : Int), .bool false] 111 :: diskR p ((putAll' D (from_ + used) (logText l) (logHdr (last + 1) l)).2) F16 :: H) w, fun _ _ _ ⟨h, hi⟩ he => ⟨h, hi.ext he⟩⟩, ⟨fun vals w => vals = [.int .i64 (secs l.length : Int), undef] ∧ Inv B (Res.cell q [.pointer (some ⟨p, 0, none⟩), .int .i64 (from_ : Int), .int .i64 (kn : Int), .int .i64 ((used + secs l.length : Nat) : Int), .int .i64 ((last + 1 : Nat) : Int), .bool false] 111 :: diskR p ((putAll' D (from_ + used) (logText l) (logHdr (last + 1) l)).2) F16 :: H) w, fun _ _ _ ⟨h, hi⟩ he => ⟨h, hi.ext he⟩⟩] 67 rfl (by kernel_rfl) ⟨rfl, hv⟩ ⟨?_, ?_, ?_, ?_, ?_, ?_, ?_, ?_, ?_, ?_, ?_, trivial⟩ ?_
      · intro aa ww vals hJ hR
        exact add_step' rfl (Ex.adds' (ex_move rfl (show aa.eval (.tmp 0) = _ from hR.keep 0 rfl)) (wn rfl) rfl)
      · intro aa ww vals hJ hR
        exact add_step' rfl (Ex.adds' (ex_nil rfl (show aa.eval (.tmp 57) = _ from hR.v 0 57 rfl rfl rfl rfl)) (wn rfl) rfl)
      · intro aa ww vals hJ hR
        exact add_step' rfl (Ex.adds' (ex_field rfl (show aa.eval (.tmp 58) = _ from hR.v 1 58 rfl rfl rfl rfl) (g5fa111_3 _ _ _)) (wn rfl) rfl)
      · intro aa ww vals hJ hR
        have h2 : vals.length ≤ 1 := hR.hi 10 (by simp) rfl
        rcases (show vals.length = 0 ∨ vals.length = 1 by omega) with hl | hl
        · obtain ⟨hvals, hv⟩ := hJ.at0 hl
          exact add_step' rfl (Ex.adds' (ex_load rfl (show aa.eval (.tmp 59) = _ from hR.v 2 59 rfl rfl rfl rfl) (run_load1 g5na3 (hv.load 0 3 rfl rfl))) (wn rfl) rfl)
        · obtain ⟨hvals, hv⟩ := hJ.at0 hl
          exact add_step' rfl (Ex.adds' (ex_load rfl (show aa.eval (.tmp 59) = _ from hR.v 2 59 rfl rfl rfl rfl) (run_load1 g5na3 (hv.load 0 3 rfl rfl))) (wn rfl) rfl)
      · intro aa ww vals hJ hR
        exact add_step' rfl (Ex.adds' (ex_move rfl (show aa.eval (.tmp 2) = _ from hR.keep 2 rfl)) (wn rfl) rfl)
      · intro aa ww vals hJ hR
        exact add_step' rfl (Ex.adds' (ex_len0 Try.underlying24 rfl (show aa.eval (.tmp 61) = _ from hR.v 4 61 rfl rfl rfl rfl)) (wn rfl) rfl)
      · intro aa ww vals hJ hR
        refine mem_step' rfl fun hvl => ?_
        have hl : vals.length = 0 := hvl
        obtain ⟨hvals, hv⟩ := hJ.at0 hl
        refine stepMem_calls g5callable54 (wn rfl) rfl (args := #[.int .i64 (l.length : Int)]) (by simp only [List.map_toArray, List.map_cons, List.map_nil]; rw [show aa.eval (.tmp 62) = .int .i64 (l.length : Int) from hR.v 5 62 rfl rfl rfl rfl] <;> rfl) ((logSectors _ l.length (by omega)).mono ?_)
        rintro e w26 ⟨rfl, rfl⟩
        refine ⟨_, rfl, JS.next hl ⟨by rw [hvals]; rfl, hv⟩⟩
      · intro aa ww vals hJ hR
        have h1 : 0 < vals.length := hR.lo 6 (by simp) rfl
        have h2 : vals.length ≤ 1 := hR.hi 10 (by simp) rfl
        have hl : vals.length = 1 := by omega
        obtain ⟨hvals, hv⟩ := hJ.at0 hl
        exact add_step' rfl (Ex.adds' (ex_add (m := (used : Int)) (n := (secs l.length : Int)) rfl (show aa.eval (.tmp 60) = _ from hR.v 3 60 rfl rfl rfl rfl) (show aa.eval (.tmp 63) = _ from (hR.val 6 63 rfl rfl rfl).trans (by rw [hvals]; rfl)) (by rw [i64_in (by omega)]; omega)) (wn rfl) rfl)
      · intro aa ww vals hJ hR
        exact add_step' rfl (Ex.adds' (ex_nil rfl (show aa.eval (.tmp 57) = _ from hR.v 0 57 rfl rfl rfl rfl)) (wn rfl) rfl)
      · intro aa ww vals hJ hR
        exact add_step' rfl (Ex.adds' (ex_field rfl (show aa.eval (.tmp 65) = _ from hR.v 8 65 rfl rfl rfl rfl) (g5fa111_3 _ _ _)) (wn rfl) rfl)
      · intro aa ww vals hJ hR
        refine mem_step' rfl fun hvl => ?_
        have hl : vals.length = 1 := hvl
        obtain ⟨hvals, hv⟩ := hJ.at0 hl
        refine mem_storeAt 0 (v := .int .i64 ((used + secs l.length : Nat) : Int)) (L' := [.pointer (some ⟨p, 0, none⟩), .int .i64 (from_ : Int), .int .i64 (kn : Int), .int .i64 ((used + secs l.length : Nat) : Int), .int .i64 ((last + 1 : Nat) : Int), .bool false]) (wn rfl) rfl (show aa.eval (.tmp 66) = _ from hR.v 9 66 rfl rfl rfl rfl) (show aa.eval (.tmp 64) = _ from hR.v 7 64 rfl rfl rfl rfl) hv rfl g5sz3 (by simp) rfl rfl rfl (fun w27 hv => ?_)
        exact JS.next hl ⟨by rw [hvals]; rfl, hv⟩
      rintro w28 vals ⟨rfl, hv⟩
      rw [show mixV [6, 10] [.int .i64 (secs l.length : Int), undef] 0 [.pointer (some ⟨q, 0, none⟩), .pointer (some ⟨q, 0, none⟩), .pointer (some ⟨q, 3, none⟩), .int .i64 (used : Int), .slice a l.length cap, .int .i64 (l.length : Int), undef, .int .i64 ((used + secs l.length : Nat) : Int), .pointer (some ⟨q, 0, none⟩), .pointer (some ⟨q, 3, none⟩), undef] = [.pointer (some ⟨q, 0, none⟩), .pointer (some ⟨q, 0, none⟩), .pointer (some ⟨q, 3, none⟩), .int .i64 (used : Int), .slice a l.length cap, .int .i64 (l.length : Int), .int .i64 (secs l.length : Int), .int .i64 ((used + secs l.length : Nat) : Int), .pointer (some ⟨q, 0, none⟩), .pointer (some ⟨q, 3, none⟩), undef] from rfl]
      simp only [putAll, Act.put, List.setIfInBounds_toArray, List.set_cons_succ, List.set_cons_zero]
      refine then_normal (hK25 _ _ ?_)
      clear hK25 K25
      refine wpIn_seq_k (fun K29 hK29 => ?_)
      refine wpIn_region_lit ?_
      refine wpi_exG (v := .int .i64 0) (fun _ => trivial) (wn rfl) rfl (ex_assign rfl rfl) ?_
      refine wpListIn_nil ?_
      simp only [Act.put, List.setIfInBounds_toArray, List.set_cons_succ, List.set_cons_zero]
      refine then_normal (hK29 _ _ ?_)
      clear hK29 K29
      refine wpIn_ret ?_
      refine bodyPost_ret (results_tmp rfl _ _ _) rfl ?_
      exact .inr (.inr ⟨by omega, by omega, _, rfl, ((hv.front 1 rfl).front 1 rfl)⟩)
end Go.Proofs.Ytkannfkjnohdlaa
/- LogKeeps: its arguments; what its walk needs. -/
namespace Go.Pm
open Go.RowKit
theorem Inv.cellRow {B : Base} {b n size : Nat} {L : List Value} {e : TypeId} {H : List Res} {w : World} (hv : Inv B (Res.cell b L e :: H) w) (hL : L.length = n * size) (hm : n ≤ maxLen) : Inv B (Res.row e size (.slice (some ⟨b, 0, none⟩) n n) n L :: H) w := by
  refine hv.as (Res.row e size (.slice (some ⟨b, 0, none⟩) n n) n L) ⟨hL, .inr ⟨b, n, L.toArray, rfl, Nat.zero_le _, hv.head, Nat.le_refl _, hm, ?_, ?_⟩⟩ ?_
  · simp [hL]
  · rw [List.toList_toArray, ← hL, List.take_length]
  · simp [Value.ownBlock]
theorem Inv.rowSrc {B : Base} {e : TypeId} {size n c : Nat} {ad : Option Addr} {xs : List Value} {H : List Res} {w : World} (hv : Inv B (Res.row e size (.slice ad n c) n xs :: H) w) : Src w ad xs ∧ SliceOk ad n c := by
  obtain ⟨C, -, h, hr, hok, -⟩ := hv.rowBy
  exact ⟨(hr.more (Base.Le.refl _) (fun _ h => by cases h) : RdV C H ad xs).src h, hok⟩
theorem sl_row0 {F : Fence} {n : Nat} {P : Program} {ops : Array Oper} {Q : Exit → Act → World → Prop} {a : Act} {w : World} {rest : List Oper} {o : Oper} {B : Base} {H : List Res} {t e : TypeId} {size : Nat} (hF : ∀ f, F.fn f) (hg : Region.wanted o (yielded ops a.tmps) = true) (ho : o.op = .buildSlice t 0 #[]) (hv : Inv B H w)
    (hr : ∀ w, (Instr.buildSlice t 0 #[]).run P w = .ok (.slice (some ⟨w.heap.size, 0, none⟩) 0 0) (w.alloc (.cells ([] : List Value).toArray e)))
    (h : ∀ b w', Inv B (Res.row e size (.slice (some ⟨b, 0, none⟩) 0 0) 0 [] :: H) w' → wpListIn F n P ops Q rest (a.put o.dst (.slice (some ⟨b, 0, none⟩) 0 0)) w') : wpListIn F n P ops Q (o :: rest) a w :=
  wpi_exG hF hg (by unfold isDefer; rw [ho]) (by unfold Ex; simp [execOp, ho, hr]) (h _ _ ((hv.alloc [] e).cellRow (by simp) (Nat.zero_le _)))
theorem Inv.rowNil {B : Base} {H : List Res} {w : World} (hv : Inv B H w) (e : TypeId) (size : Nat) : Inv B (Res.row e size (.slice none 0 0) 0 [] :: H) w :=
  hv.new (Ext.rfl' _) (Res.row e size (.slice none 0 0) 0 []) (World.ownsRow_nil _ _ _ _) (fun b hb => by simp [Value.ownBlock] at hb) (by simp [Value.ownBlock])
theorem Inv.alone {w : World} {b : Nat} {L : List Value} {t : TypeId} (h : Blk w b L t) : Inv ⟨fun _ => none, 0, w.os, w.tape, w.output⟩ [Res.cell b L t] w := by
  refine ⟨⟨fun b o e => (by cases e), Nat.zero_le _, rfl, rfl, rfl⟩, fun r hr => ?_, fun r hr k hk => ?_, by simp, fun r hr k hk => rfl⟩
  · cases List.mem_singleton.1 hr; exact h
  · cases List.mem_singleton.1 hr
    rw [show k = b from List.mem_singleton.1 hk]
    exact (Array.getElem?_eq_some_iff.1 (show w.heap[b]? = _ from h)).1
end Go.Pm
namespace Go.Proofs.Ytkannfkjnohdlaa
open Go.RowKit Go.Pm
theorem wrap30 (z : Int) : ∃ (r : Int) (n : Nat), z.tmod 30 = r ∧ -30 < r ∧ r < 30 ∧ (r + 30).tmod 30 = (n : Int) - 1 ∧ 1 ≤ n ∧ n ≤ 30 := by
  have h1 := Int.tmod_lt_of_pos z (show (0 : Int) < 30 by decide)
  have h2 : -30 < z.tmod 30 := by
    have := Int.tmod_lt_of_pos (-z) (show (0 : Int) < 30 by decide)
    rw [Int.neg_tmod] at this
    omega
  refine ⟨_, ((z.tmod 30 + 30) % 30 + 1).toNat, rfl, h2, h1, ?_, by omega, by omega⟩
  rw [Int.tmod_eq_emod_of_nonneg (by omega)]
  omega
abbrev actTy7 : Ty := .pair (.int .i64) (.pair (.int .i64) (.pair (.slice (.int .u8)) (.pair (.slice (.int .i64)) .unit)))
def RdActs7 (B : Base) (a : Option Addr) (n : Nat) : Prop := ∀ i, i < n → ∃ (b off : Nat) (kd nn : Int) (xb : List UInt8) (ks : List Int) (ax : Option Addr) (cx : Nat) (ak : Option Addr) (ck : Nat), a = some ⟨b, off, none⟩ ∧
  (∀ H w, Inv B H w → ∀ j v, [.int .i64 kd, .int .i64 nn, .slice ax xb.length cx, .slice ak ks.length ck][j]? = some v → w.cell? ⟨b, off + i * 4 + j, none⟩ = some v) ∧
  SliceOk ax xb.length cx ∧ RdV B [] ax (xb.map B8) ∧ RdV B [] ak (ks.map intV) ∧ ∀ k ∈ ks, -9223372036854775808 ≤ k ∧ k ≤ 9223372036854775807
theorem rep_acts7 {W : World} {cs : List Value} {l : List actTy7.den} (h : Rep W (· < W.heap.size) (.slice actTy7) cs l) :
    ∃ a cap, cs = [.slice a l.length cap] ∧ SliceOk a l.length cap ∧ RdActs7 (Base.of W) a l.length := by
  obtain ⟨a, cap, h1, h2, h4⟩ := h
  refine ⟨a, cap, h1, h2, fun i hi => ?_⟩
  obtain ⟨b, off, xs, e1, e2, e3, e4, e5⟩ := h4 i hi
  match xs, e3 with
  | [x0, x1, x2, x3], _ =>
    obtain ⟨⟨k1, _⟩, ⟨m1, _⟩, hbody, hkeep, _⟩ := e5
    obtain ⟨ax, cx, f1, f2, f3⟩ := rep_bytes.1 hbody
    obtain ⟨ak, ck, g1, g2, g3, g4⟩ := rep_ints hkeep
    have k1' : [x0] = _ := k1
    have m1' : [x1] = _ := m1
    have f1' : [x2] = _ := f1
    have g1' : [x3] = _ := g1
    simp only [List.cons.injEq, and_true] at k1' m1' f1' g1'
    subst k1' m1' f1' g1'
    refine ⟨b, off, encInt .i64 l[i].1, encInt .i64 l[i].2.1, l[i].2.2.1, l[i].2.2.2.1, ax, cx, ak, ck, e1, fun H w hv j v hj => ?_, f2, rdV_of W f3.src, rdV_of W g3, g4⟩
    obtain ⟨hj1, hj2⟩ := List.getElem?_eq_some_iff.1 hj
    have := e4 j hj1
    rw [← hj2]
    refine Eq.trans ?_ this
    exact World.cell?_of_block (by rw [Array.getElem?_eq_getElem e2]; exact hv.base.blk b _ (Array.getElem?_eq_getElem e2))
theorem EntsAt.append {C : Base} {k : List (List UInt8)} {ys : List Value} : ∀ {l : List (List UInt8)} {st : Nat} {xs : List Value}, EntsAt C st l xs → EntsAt C (st + l.length) k ys → EntsAt C st (l ++ k) (xs ++ ys)
  | [], st, xs, h, hk => by
    cases (show xs = [] from h)
    exact hk
  | d :: l, st, xs, h, hk => by
    obtain ⟨ad', c', r, rfl, h2, h3, h4⟩ := h
    have := EntsAt.append h4 (k := k) (ys := ys) (by rw [show st + 1 + l.length = st + (d :: l).length by rw [List.length_cons]; omega]; exact hk)
    exact ⟨ad', c', _, rfl, h2, h3, this⟩
theorem EntsAt.cells {C : Base} : ∀ {l : List (List UInt8)} {st : Nat} {xs : List Value}, EntsAt C st l xs → ∀ u ∈ xs, u.oneCell' = true
  | [], _, _, h, u, hu => by
    cases h
    cases hu
  | _ :: _, _, _, ⟨ad, c, r, h1, _, _, h4⟩, u, hu => by
    subst h1
    simp only [List.mem_cons] at hu
    rcases hu with rfl | rfl | hu
    · rfl
    · rfl
    · exact EntsAt.cells h4 u hu
theorem row_none (w : World) : (Instr.buildSlice 73 0 #[]).run Try.prog w = .ok (.slice (some ⟨w.heap.size, 0, none⟩) 0 0) (w.alloc (.cells ([] : List Value).toArray 55)) := by kernel_rfl
theorem lz_len (n : Nat) : (Disk.zero n).dur.length = n := List.length_replicate
theorem lz_view (n : Nat) : (Disk.zero n).view (Disk.zero n).pend 0 n = (Disk.zero n).dur := by
  have := view_dur (Disk.zero n) rfl
  rw [lz_len] at this
  exact this
theorem EntsAt.one {C : Base} {b : List UInt8} {ad : Option Addr} {c st : Nat} (hok : SliceOk ad b.length c) (hr : RdV C [] ad (b.map B8)) : EntsAt C st [b] [.int .i64 ((st + 1 : Nat) : Int), .slice ad b.length c] := ⟨ad, c, [], rfl, hok, hr, rfl⟩
theorem writes_len {at_ : Nat} {b : List UInt8} {n : Nat} : (Disk.writesOf at_ b n).length = n := by unfold Disk.writesOf; simp
theorem LState.plen {D : Disk} {k used last after : Nat} {failed : Bool} {sure under : List (List UInt8)} (h : LState D k used last after failed sure under) : D.pend.length ≤ k + 1 := by
  cases failed with
  | false => rw [(h.rest rfl).1]; exact Nat.zero_le _
  | true =>
    obtain ⟨b, hu, hp | ⟨hf, hn, hp | ⟨hp, hb⟩⟩⟩ := h.fail rfl
    · rw [hp]; exact Nat.zero_le _
    · rw [hp, writes_len]; omega
    · rw [hp]; simp
theorem LState.one {D : Disk} {k used last after : Nat} {sure under : List (List UInt8)} (h : LState D k used last after true sure under) : ∃ b, under = [b] := by
  obtain ⟨b, hu, -⟩ := h.fail rfl
  exact ⟨b, hu⟩
theorem crash_len {D : Disk} {k used last after : Nat} {sure : List (List UInt8)} {ks : List Int} (h : LHead (D.crash ks).dur k used last after sure) : D.dur.length = k := by
  rw [← h.len]
  show D.dur.length = (List.foldl Disk.put D.dur (D.kept ks)).length
  rw [Disk.foldl_put_length]
theorem view_crash {D : Disk} {k used last after : Nat} {sure : List (List UInt8)} {ks : List Int} (h : LHead (D.crash ks).dur k used last after sure) : (D.crash ks).view (D.crash ks).pend 0 k = (D.crash ks).dur := by
  rw [← h.len]
  exact view_dur _ rfl
theorem logLastB {w : World} {q p from_ n used last : Nat} {failed : Bool} (h : Blk w q [.pointer (some ⟨p, 0, none⟩), .int .i64 (from_ : Int), .int .i64 (n : Int), .int .i64 (used : Int), .int .i64 (last : Int), .bool failed] 111) :
    Calls Try.prog 41 #[.pointer (some ⟨q, 0, none⟩)] w fun e w' => e = .returned (.int .i64 (last : Int)) ∧ w = w' := logLast _ _ _ _ _ _ _ _ _ _ (Inv.alone h)
section
variable (B : Base) (H : List Res) (w : World) (q p kn used last : Nat) (D : Disk) (F : List Nat) (a : Option Addr) (cap : Nat) (l : List UInt8)
def lgCells (p kn used last : Nat) (f : Bool) : List Value := [.pointer (some ⟨p, 0, none⟩), .int .i64 ((0 : Nat) : Int), .int .i64 (kn : Int), .int .i64 (used : Int), .int .i64 (last : Int), .bool f]
variable (hst : last + 1 ≤ 1000000000) (huk : used ≤ kn) (hfit : kn ≤ D.dur.length) (hdm : D.dur.length ≤ 65536) (hpl : D.pend.length ≤ 1000000) (hb2 : l.length ≤ 1048576) (hok : SliceOk a l.length cap) (hr : RdV B [] a (l.map B8)) (hv : Inv B (Res.cell q (lgCells p kn used last false) 111 :: diskR p D F :: H) w)
include hst huk hfit hdm hpl hb2 hok hr hv
theorem appendFull (hf : used + secs l.length > kn) : Calls Try.prog 40 #[.pointer (some ⟨q, 0, none⟩), .int .i64 ((last + 1 : Nat) : Int), .slice a l.length cap] w fun e w' => e = .returned (.int .i64 22) ∧ Inv B (Res.cell q (lgCells p kn used last false) 111 :: diskR p D F :: H) w' := by
  refine (logAppend B H w q p 0 kn used last D F a _ cap l hst huk (by omega) hdm hpl rfl hb2 hok hr hv).mono ?_
  rintro e w' (⟨-, h1, h2⟩ | ⟨h, -⟩ | ⟨h, -⟩)
  · exact ⟨h1, h2⟩
  · omega
  · omega
theorem appendFail (hf : used + secs l.length ≤ kn) (h1 : (putAll' D used (logText l) (logHdr (last + 1) l)).1 = 20) : Calls Try.prog 40 #[.pointer (some ⟨q, 0, none⟩), .int .i64 ((last + 1 : Nat) : Int), .slice a l.length cap] w fun e w' => ∃ F', e = .returned (.int .i64 20) ∧ Inv B (Res.cell q (lgCells p kn used last true) 111 :: diskR p (putAll' D used (logText l) (logHdr (last + 1) l)).2 F' :: H) w' := by
  refine (logAppend B H w q p 0 kn used last D F a _ cap l hst huk (by omega) hdm hpl rfl hb2 hok hr hv).mono ?_
  rw [Nat.zero_add]
  rintro e w' (⟨h, -⟩ | ⟨-, -, F', h2, h3⟩ | ⟨-, h, -⟩)
  · omega
  · exact ⟨F', by rw [h2, h1], h3⟩
  · omega
theorem appendDone (hf : used + secs l.length ≤ kn) (h1 : (putAll' D used (logText l) (logHdr (last + 1) l)).1 = 0) : Calls Try.prog 40 #[.pointer (some ⟨q, 0, none⟩), .int .i64 ((last + 1 : Nat) : Int), .slice a l.length cap] w fun e w' => ∃ F', e = .returned (.int .i64 0) ∧ Inv B (Res.cell q (lgCells p kn (used + secs l.length) (last + 1) false) 111 :: diskR p (putAll' D used (logText l) (logHdr (last + 1) l)).2 F' :: H) w' := by
  refine (logAppend B H w q p 0 kn used last D F a _ cap l hst huk (by omega) hdm hpl rfl hb2 hok hr hv).mono ?_
  rw [Nat.zero_add]
  rintro e w' (⟨h, -⟩ | ⟨-, h, -⟩ | ⟨-, -, F', h2, h3⟩)
  · omega
  · exact absurd h1 h
  · exact ⟨F', h2, h3⟩
end
end Go.Proofs.Ytkannfkjnohdlaa
