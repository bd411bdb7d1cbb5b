/- cset: rows, Do. -/
import Derived.Test.YtoljdfjnannakaaGreatDoorCsetB
import Derived.Test.YtoljdfjnannakaaGreatDoorCsetI
import Derived.Test.YtoljdfjnannakaaGreatDoorRows
import Derived.Test.YtoljdfjnannakaaGreatDoorCsetC
import Derived.Test.YtoljdfjnannakaaGreatDoorCsetD
import Derived.Test.YtoljdfjnannakaaGreatDoorCsetE
import Derived.Test.YtoljdfjnannakaaGreatDoorCsetH
import Derived.Test.YtoljdfjnannakaaGreatDoorCsetG
set_option maxRecDepth 100000
namespace Go.Proofs.YtoljdfjnannakaaGreatDoor
open Go.RowKit Go.Pm
def csetRows : List (List UInt8 × Int × Int) := [([83, 65, 68, 68], 2, (-1)), ([83, 67, 65, 82, 68], 1, 1), ([83, 68, 73, 70, 70], 1, (-1)), ([83, 68, 73, 70, 70, 83, 84, 79, 82, 69], 2, (-1)), ([83, 73, 78, 84, 69, 82], 1, (-1)), ([83, 73, 78, 84, 69, 82, 67, 65, 82, 68], 2, (-1)), ([83, 73, 78, 84, 69, 82, 83, 84, 79, 82, 69], 2, (-1)), ([83, 73, 83, 77, 69, 77, 66, 69, 82], 2, 2), ([83, 77, 69, 77, 66, 69, 82, 83], 1, 1), ([83, 77, 73, 83, 77, 69, 77, 66, 69, 82], 2, (-1)), ([83, 77, 79, 86, 69], 3, 3), ([83, 80, 79, 80], 1, 2), ([83, 82, 69, 77], 2, (-1)), ([83, 83, 67, 65, 78], 2, (-1)), ([83, 85, 78, 73, 79, 78], 1, (-1)), ([83, 85, 78, 73, 79, 78, 83, 84, 79, 82, 69], 2, (-1))]
abbrev rowF (x : List UInt8 × Int × Int) : List Value := [strV x.1, .int .i64 x.2.1, .int .i64 x.2.2]
theorem row_reads {B : Base} {l : List (List UInt8 × Int × Int)} {ad : Option Addr} {i : Nat} {x : List UInt8 × Int × Int} (hr : RdV B [] ad (l.flatMap rowF)) (hx : l[i]? = some x) : ∃ b off, ad = some ⟨b, off, none⟩ ∧ Reads B [] b (off + i * 3) (rowF x) := rowk_reads (k := 3) (fun _ => rfl) (by decide) hr hx
set_option maxHeartbeats 4000000 in
theorem csetRowsC (B : Base) (H : List Res) (w : World) (hv : Inv B H w) :
  Calls Tryz.prog 25 #[] w fun e w' => ∃ C ra rc, B.Le C ∧ e = .returned (.slice ra csetRows.length rc) ∧ RdV C [] ra (csetRows.flatMap rowF) ∧ Inv C H w' := by
 refine cW Tryz.func25 rfl Tryz.ntmps25 ?_
 simp only [al]
 refine sK fun _ k1 => rL (xA (.slice none 0 0) rfl ?_)
 simp only [zP, po]
 refine wK k1 (sK fun _ k2 => ?_)
 refine rL (xG (.agg #[.string ⟨([83, 65, 68, 68] : List UInt8).toArray⟩, .int .i64 2, .int .i64 (-1)]) rfl (ex_buildN (vs := #[(0, .string ⟨([83, 65, 68, 68] : List UInt8).toArray⟩), (1, .int .i64 2), (2, .int .i64 (-1))]) rfl (by simp only [List.map_toArray, List.map_cons, List.map_nil]; rfl) (by kernel_rfl)) ?_)
 refine xG (.agg #[.string ⟨([83, 67, 65, 82, 68] : List UInt8).toArray⟩, .int .i64 1, .int .i64 1]) rfl (ex_buildN (vs := #[(0, .string ⟨([83, 67, 65, 82, 68] : List UInt8).toArray⟩), (1, .int .i64 1), (2, .int .i64 1)]) rfl (by simp only [List.map_toArray, List.map_cons, List.map_nil]; rfl) (by kernel_rfl)) (xG (.agg #[.string ⟨([83, 68, 73, 70, 70] : List UInt8).toArray⟩, .int .i64 1, .int .i64 (-1)]) rfl (ex_buildN (vs := #[(0, .string ⟨([83, 68, 73, 70, 70] : List UInt8).toArray⟩), (1, .int .i64 1), (2, .int .i64 (-1))]) rfl (by simp only [List.map_toArray, List.map_cons, List.map_nil]; rfl) (by kernel_rfl)) ?_)
 simp only [zP, po]
 refine xG (.agg #[.string ⟨([83, 68, 73, 70, 70, 83, 84, 79, 82, 69] : List UInt8).toArray⟩, .int .i64 2, .int .i64 (-1)]) rfl (ex_buildN (vs := #[(0, .string ⟨([83, 68, 73, 70, 70, 83, 84, 79, 82, 69] : List UInt8).toArray⟩), (1, .int .i64 2), (2, .int .i64 (-1))]) rfl (by simp only [List.map_toArray, List.map_cons, List.map_nil]; rfl) (by kernel_rfl)) (xG (.agg #[.string ⟨([83, 73, 78, 84, 69, 82] : List UInt8).toArray⟩, .int .i64 1, .int .i64 (-1)]) rfl (ex_buildN (vs := #[(0, .string ⟨([83, 73, 78, 84, 69, 82] : List UInt8).toArray⟩), (1, .int .i64 1), (2, .int .i64 (-1))]) rfl (by simp only [List.map_toArray, List.map_cons, List.map_nil]; rfl) (by kernel_rfl)) ?_)
 refine xG (.agg #[.string ⟨([83, 73, 78, 84, 69, 82, 67, 65, 82, 68] : List UInt8).toArray⟩, .int .i64 2, .int .i64 (-1)]) rfl (ex_buildN (vs := #[(0, .string ⟨([83, 73, 78, 84, 69, 82, 67, 65, 82, 68] : List UInt8).toArray⟩), (1, .int .i64 2), (2, .int .i64 (-1))]) rfl (by simp only [List.map_toArray, List.map_cons, List.map_nil]; rfl) (by kernel_rfl)) ?_
 simp only [zP, po]
 refine xG (.agg #[.string ⟨([83, 73, 78, 84, 69, 82, 83, 84, 79, 82, 69] : List UInt8).toArray⟩, .int .i64 2, .int .i64 (-1)]) rfl (ex_buildN (vs := #[(0, .string ⟨([83, 73, 78, 84, 69, 82, 83, 84, 79, 82, 69] : List UInt8).toArray⟩), (1, .int .i64 2), (2, .int .i64 (-1))]) rfl (by simp only [List.map_toArray, List.map_cons, List.map_nil]; rfl) (by kernel_rfl)) (xG (.agg #[.string ⟨([83, 73, 83, 77, 69, 77, 66, 69, 82] : List UInt8).toArray⟩, .int .i64 2, .int .i64 2]) rfl (ex_buildN (vs := #[(0, .string ⟨([83, 73, 83, 77, 69, 77, 66, 69, 82] : List UInt8).toArray⟩), (1, .int .i64 2), (2, .int .i64 2)]) rfl (by simp only [List.map_toArray, List.map_cons, List.map_nil]; rfl) (by kernel_rfl)) ?_)
 refine xG (.agg #[.string ⟨([83, 77, 69, 77, 66, 69, 82, 83] : List UInt8).toArray⟩, .int .i64 1, .int .i64 1]) rfl (ex_buildN (vs := #[(0, .string ⟨([83, 77, 69, 77, 66, 69, 82, 83] : List UInt8).toArray⟩), (1, .int .i64 1), (2, .int .i64 1)]) rfl (by simp only [List.map_toArray, List.map_cons, List.map_nil]; rfl) (by kernel_rfl)) ?_
 simp only [zP, po]
 refine xG (.agg #[.string ⟨([83, 77, 73, 83, 77, 69, 77, 66, 69, 82] : List UInt8).toArray⟩, .int .i64 2, .int .i64 (-1)]) rfl (ex_buildN (vs := #[(0, .string ⟨([83, 77, 73, 83, 77, 69, 77, 66, 69, 82] : List UInt8).toArray⟩), (1, .int .i64 2), (2, .int .i64 (-1))]) rfl (by simp only [List.map_toArray, List.map_cons, List.map_nil]; rfl) (by kernel_rfl)) (xG (.agg #[.string ⟨([83, 77, 79, 86, 69] : List UInt8).toArray⟩, .int .i64 3, .int .i64 3]) rfl (ex_buildN (vs := #[(0, .string ⟨([83, 77, 79, 86, 69] : List UInt8).toArray⟩), (1, .int .i64 3), (2, .int .i64 3)]) rfl (by simp only [List.map_toArray, List.map_cons, List.map_nil]; rfl) (by kernel_rfl)) ?_)
 refine xG (.agg #[.string ⟨([83, 80, 79, 80] : List UInt8).toArray⟩, .int .i64 1, .int .i64 2]) rfl (ex_buildN (vs := #[(0, .string ⟨([83, 80, 79, 80] : List UInt8).toArray⟩), (1, .int .i64 1), (2, .int .i64 2)]) rfl (by simp only [List.map_toArray, List.map_cons, List.map_nil]; rfl) (by kernel_rfl)) ?_
 simp only [zP, po]
 refine xG (.agg #[.string ⟨([83, 82, 69, 77] : List UInt8).toArray⟩, .int .i64 2, .int .i64 (-1)]) rfl (ex_buildN (vs := #[(0, .string ⟨([83, 82, 69, 77] : List UInt8).toArray⟩), (1, .int .i64 2), (2, .int .i64 (-1))]) rfl (by simp only [List.map_toArray, List.map_cons, List.map_nil]; rfl) (by kernel_rfl)) (xG (.agg #[.string ⟨([83, 83, 67, 65, 78] : List UInt8).toArray⟩, .int .i64 2, .int .i64 (-1)]) rfl (ex_buildN (vs := #[(0, .string ⟨([83, 83, 67, 65, 78] : List UInt8).toArray⟩), (1, .int .i64 2), (2, .int .i64 (-1))]) rfl (by simp only [List.map_toArray, List.map_cons, List.map_nil]; rfl) (by kernel_rfl)) ?_)
 refine xG (.agg #[.string ⟨([83, 85, 78, 73, 79, 78] : List UInt8).toArray⟩, .int .i64 1, .int .i64 (-1)]) rfl (ex_buildN (vs := #[(0, .string ⟨([83, 85, 78, 73, 79, 78] : List UInt8).toArray⟩), (1, .int .i64 1), (2, .int .i64 (-1))]) rfl (by simp only [List.map_toArray, List.map_cons, List.map_nil]; rfl) (by kernel_rfl)) ?_
 simp only [zP, po]
 refine xG (.agg #[.string ⟨([83, 85, 78, 73, 79, 78, 83, 84, 79, 82, 69] : List UInt8).toArray⟩, .int .i64 2, .int .i64 (-1)]) rfl (ex_buildN (vs := #[(0, .string ⟨([83, 85, 78, 73, 79, 78, 83, 84, 79, 82, 69] : List UInt8).toArray⟩), (1, .int .i64 2), (2, .int .i64 (-1))]) rfl (by simp only [List.map_toArray, List.map_cons, List.map_nil]; rfl) (by kernel_rfl)) (sl_rowN (pv := #[(0, .agg #[.string ⟨([83, 65, 68, 68] : List UInt8).toArray⟩, .int .i64 2, .int .i64 (-1)]), (1, .agg #[.string ⟨([83, 67, 65, 82, 68] : List UInt8).toArray⟩, .int .i64 1, .int .i64 1]), (2, .agg #[.string ⟨([83, 68, 73, 70, 70] : List UInt8).toArray⟩, .int .i64 1, .int .i64 (-1)]), (3, .agg #[.string ⟨([83, 68, 73, 70, 70, 83, 84, 79, 82, 69] : List UInt8).toArray⟩, .int .i64 2, .int .i64 (-1)]), (4, .agg #[.string ⟨([83, 73, 78, 84, 69, 82] : List UInt8).toArray⟩, .int .i64 1, .int .i64 (-1)]), (5, .agg #[.string ⟨([83, 73, 78, 84, 69, 82, 67, 65, 82, 68] : List UInt8).toArray⟩, .int .i64 2, .int .i64 (-1)]), (6, .agg #[.string ⟨([83, 73, 78, 84, 69, 82, 83, 84, 79, 82, 69] : List UInt8).toArray⟩, .int .i64 2, .int .i64 (-1)]), (7, .agg #[.string ⟨([83, 73, 83, 77, 69, 77, 66, 69, 82] : List UInt8).toArray⟩, .int .i64 2, .int .i64 2]), (8, .agg #[.string ⟨([83, 77, 69, 77, 66, 69, 82, 83] : List UInt8).toArray⟩, .int .i64 1, .int .i64 1]), (9, .agg #[.string ⟨([83, 77, 73, 83, 77, 69, 77, 66, 69, 82] : List UInt8).toArray⟩, .int .i64 2, .int .i64 (-1)]), (10, .agg #[.string ⟨([83, 77, 79, 86, 69] : List UInt8).toArray⟩, .int .i64 3, .int .i64 3]), (11, .agg #[.string ⟨([83, 80, 79, 80] : List UInt8).toArray⟩, .int .i64 1, .int .i64 2]), (12, .agg #[.string ⟨([83, 82, 69, 77] : List UInt8).toArray⟩, .int .i64 2, .int .i64 (-1)]), (13, .agg #[.string ⟨([83, 83, 67, 65, 78] : List UInt8).toArray⟩, .int .i64 2, .int .i64 (-1)]), (14, .agg #[.string ⟨([83, 85, 78, 73, 79, 78] : List UInt8).toArray⟩, .int .i64 1, .int .i64 (-1)]), (15, .agg #[.string ⟨([83, 85, 78, 73, 79, 78, 83, 84, 79, 82, 69] : List UInt8).toArray⟩, .int .i64 2, .int .i64 (-1)])]) (L := [.string ⟨([83, 65, 68, 68] : List UInt8).toArray⟩, .int .i64 2, .int .i64 (-1), .string ⟨([83, 67, 65, 82, 68] : List UInt8).toArray⟩, .int .i64 1, .int .i64 1, .string ⟨([83, 68, 73, 70, 70] : List UInt8).toArray⟩, .int .i64 1, .int .i64 (-1), .string ⟨([83, 68, 73, 70, 70, 83, 84, 79, 82, 69] : List UInt8).toArray⟩, .int .i64 2, .int .i64 (-1), .string ⟨([83, 73, 78, 84, 69, 82] : List UInt8).toArray⟩, .int .i64 1, .int .i64 (-1), .string ⟨([83, 73, 78, 84, 69, 82, 67, 65, 82, 68] : List UInt8).toArray⟩, .int .i64 2, .int .i64 (-1), .string ⟨([83, 73, 78, 84, 69, 82, 83, 84, 79, 82, 69] : List UInt8).toArray⟩, .int .i64 2, .int .i64 (-1), .string ⟨([83, 73, 83, 77, 69, 77, 66, 69, 82] : List UInt8).toArray⟩, .int .i64 2, .int .i64 2, .string ⟨([83, 77, 69, 77, 66, 69, 82, 83] : List UInt8).toArray⟩, .int .i64 1, .int .i64 1, .string ⟨([83, 77, 73, 83, 77, 69, 77, 66, 69, 82] : List UInt8).toArray⟩, .int .i64 2, .int .i64 (-1), .string ⟨([83, 77, 79, 86, 69] : List UInt8).toArray⟩, .int .i64 3, .int .i64 3, .string ⟨([83, 80, 79, 80] : List UInt8).toArray⟩, .int .i64 1, .int .i64 2, .string ⟨([83, 82, 69, 77] : List UInt8).toArray⟩, .int .i64 2, .int .i64 (-1), .string ⟨([83, 83, 67, 65, 78] : List UInt8).toArray⟩, .int .i64 2, .int .i64 (-1), .string ⟨([83, 85, 78, 73, 79, 78] : List UInt8).toArray⟩, .int .i64 1, .int .i64 (-1), .string ⟨([83, 85, 78, 73, 79, 78, 83, 84, 79, 82, 69] : List UInt8).toArray⟩, .int .i64 2, .int .i64 (-1)]) (e := 71) tV (wn rfl) rfl (by simp only [List.map_toArray, List.map_cons, List.map_nil]; rfl) hv (fun w => by kernel_rfl) (fun b3 w4 hv => ?_))
 refine xA (.slice (some ⟨b3, 0, none⟩) 16 16) rfl ?_
 simp only [zP, po]
 refine wK k2 (rR ?_)
 refine bR rfl rfl ?_
 obtain ⟨C, hC, hv, hr, -, -⟩ := (hv.cellRow (n := 16) (c := 16) (size := 3) rfl (by decide) (by decide)).rowBy
 exact ⟨C, _, _, hC, rfl, hr, hv⟩
def CountBad (name : List UInt8) (n : Nat) : Prop := ∃ x ∈ csetRows, x.1 = name ∧ ((n : Int) < x.2.1 ∨ (0 ≤ x.2.2 ∧ x.2.2 < (n : Int)))
theorem rows_len : csetRows.length = 16 := rfl
theorem rows_one : ∀ x ∈ csetRows, 1 ≤ x.2.1 := by decide
theorem rows_sism : ∀ x ∈ csetRows, x.1 = nSISM → 2 ≤ x.2.1 := by decide
theorem rows_store : ∀ x ∈ csetRows, x.1 = nSDIFFS ∨ x.1 = nSUNIONS → 2 ≤ x.2.1 := by decide
theorem rows_move : ∀ x ∈ csetRows, x.1 = nSMOVE → 3 ≤ x.2.1 := by decide
theorem rows_moves : ∀ n ∈ movesNames, ∃ x ∈ csetRows, x.1 = n := by decide
theorem c6al28 (w : World) : (Instr.alloc 28 true (.tuple #[])).run Tryz.prog w = .ok (.pointer (some ⟨w.heap.size, 0, none⟩)) (w.alloc (.cells ([.int .i64 0, .string ⟨([] : List UInt8).toArray⟩, .int .i64 0, .slice none 0 0] : List Value).toArray 28)) := by kernel_rfl
theorem c6al4 (w : World) : (Instr.alloc 4 true (.tuple #[])).run Tryz.prog w = .ok (.pointer (some ⟨w.heap.size, 0, none⟩)) (w.alloc (.cells ([.bool false] : List Value).toArray 4)) := by kernel_rfl
theorem c6callable25 : Callable Tryz.prog 25 := ⟨_, Tryz.func25, by kernel_rfl, by kernel_rfl⟩
theorem c6es68 (w : World) : (sizeOf (Tryz.prog.elem 68)).run Tryz.prog w = .ok 3 w := by kernel_rfl
theorem c6wd71 : Wide Tryz.prog 71 3 := wide_of (fun w => by kernel_rfl) (by kernel_rfl)
theorem c6al71 (w : World) : (Instr.alloc 71 true (.tuple #[])).run Tryz.prog w = .ok (.pointer (some ⟨w.heap.size, 0, none⟩)) (w.alloc (.cells ([.string ⟨([] : List UInt8).toArray⟩, .int .i64 0, .int .i64 0] : List Value).toArray 71)) := by kernel_rfl
theorem c6sz71 : (Tryz.prog.info? 71).map (·.size) = some 3 := by kernel_rfl
theorem c6fa71_0 (w : World) (b o : Nat) : (Instr.fieldAt 71 (.pointer (some ⟨b, o, none⟩)) 0).run Tryz.prog w = .ok (.pointer (some ⟨b, o + 0, none⟩)) w := by kernel_rfl
theorem c6fa71_1 (w : World) (b o : Nat) : (Instr.fieldAt 71 (.pointer (some ⟨b, o, none⟩)) 1).run Tryz.prog w = .ok (.pointer (some ⟨b, o + 1, none⟩)) w := by kernel_rfl
theorem c6sz4 : (Tryz.prog.info? 4).map (·.size) = some 1 := by kernel_rfl
theorem c6callable23 : Callable Tryz.prog 23 := ⟨_, Tryz.func23, by kernel_rfl, by kernel_rfl⟩
theorem c6rec23 (n : Nat) (x0 x1 : Value) (w : World) : CallsDIn Fence.wide n Tryz.prog 23 #[x0, x1] .returning w fun e u' w' => e = .returned (.tuple #[]) ∧ u' = .returning ∧ w' = w := by
 refine callsDIn_of_wpSIn Tryz.func23 rfl trivial fun c₀ cs hu => ?_
 apply wpSIn_seq
 apply wpSIn_region
 simp [wpOpsSIn, go_sem, recoverD, hu, Tryz.ntmps23, Exit.thenS]
 refine wpSIn_cond (t := false) (by simp [Act.eval, Array.replicate]) ?_
 simp only [Bool.false_eq_true, if_false]
 refine wpSIn_of_wpIn rfl (wpIn_skip ?_)
 cases c₀
 simp_all [bodyPostS, results, Tryz.results23]
theorem c6fa71_2 (w : World) (b o : Nat) : (Instr.fieldAt 71 (.pointer (some ⟨b, o, none⟩)) 2).run Tryz.prog w = .ok (.pointer (some ⟨b, o + 2, none⟩)) w := by kernel_rfl
theorem c6callable26 : Callable Tryz.prog 26 := ⟨_, Tryz.func26, by kernel_rfl, by kernel_rfl⟩
set_option maxHeartbeats 16000000 in
theorem csetDoD (B : Base) (H : List Res) (w : World) (v t m s p wb : Nat) (va : Option Addr) (vc : Nat) (sv : Value) (clk : Int) (es : List (List UInt8 × Value)) (M : List (List UInt8 × Ver)) (hM : VM B es M) (hO : OkM M) (aa : Option Addr) (ac : Nat) (args : List (List UInt8)) (hra : RdV B [] aa (textCells args)) (hoka : SliceOk aa args.length ac) (hma : args.length ≤ 1000) (name : List UInt8) (hnm : name ∈ movesNames) (hxl : ∀ x ∈ args, x.length ≤ 9223372036854775807) (hN : NumB B) (hv : Inv B (Res.cell v [.iface 62 (.pointer (some ⟨t, 0, none⟩))] 39 :: txR t m s p wb va vc sv clk es :: H) w) :
  Calls Tryz.prog 11 #[.pointer (some ⟨v, 0, none⟩), .string ⟨name.toArray⟩, .slice aa args.length ac] w fun e w' => ∃ C es' M' r cs, B.Le C ∧ e = .returned (.tuple #[.agg cs.toArray, .bool true]) ∧ RpAt C r cs ∧ VM C es' M' ∧ OkM M' ∧ ((CountBad name args.length ∧ M' = M ∧ IsF r) ∨ DoR M clk name args M' r) ∧ Inv C (Res.cell v [.iface 62 (.pointer (some ⟨t, 0, none⟩))] 39 :: txR t m s p wb va vc sv clk es' :: H) w' := by
 refine (callsIn_wide (n := 5)).1 (callsIn_of_wp_defers Tryz.func11 rfl trivial ?_)
 simp only [Tryz.ntmps11, List.size_toArray, List.length_cons, List.length_nil, Nat.reduceAdd, Nat.reduceSub, Array.replicate_succ, Array.replicate_zero, List.push_toArray, List.append_toArray, List.nil_append, List.cons_append]
 refine sK fun _ k1 => rL (sl_alloc tV (wn rfl) rfl hv c6al28 (fun b2 w3 hv => ?_))
 refine sl_alloc tV (wn rfl) rfl hv c6al4 (fun b4 w5 hv => ?_)
 simp only [zP, po]
 refine wK k1 (sK fun _ k6 => ?_)
 refine rL (xG (.func (.func 23) #[] #[.pointer (some ⟨b2, 0, none⟩), .pointer (some ⟨b4, 0, none⟩)]) rfl (ex_makeFunc (c' := #[.pointer (some ⟨b2, 0, none⟩), .pointer (some ⟨b4, 0, none⟩)]) rfl (by simp only [List.map_toArray, List.map_nil]) (by simp only [List.map_toArray, List.map_cons, List.map_nil]; rfl)) ?_)
 refine wpi_defer tV rfl (wn rfl) rfl rfl ?_
 simp only [zP, po]
 refine wK k6 (sK fun _ k7 => ?_)
 refine sK fun _ k8 => rL (xC c6callable25 rfl ((csetRowsC B _ _ hv).mono ?_) rfl)
 rintro e w9 ⟨C, ra, rc, hC, rfl, hrr, hv⟩
 refine ⟨_, rfl, ?_⟩
 refine xG (.int .i64 (csetRows.length : Int)) rfl (ex_len0 Tryz.underlying68 rfl rfl) (xM (.int .i64 0) rfl ?_)
 simp only [zP, po]
 refine wK k8 (bB ?_)
 gi_loopw [14] (fun x14 wr => ∃ (i : Nat), x14 = .int .i64 (i : Int) ∧ i ≤ csetRows.length ∧ (∀ (j : Nat) y, j < i → csetRows[j]? = some y → y.1 ≠ name) ∧ Inv C (Res.cell b4 [.bool false] 4 :: Res.cell b2 [.int .i64 0, .string ⟨([] : List UInt8).toArray⟩, .int .i64 0, .slice none 0 0] 28 :: Res.cell v [.iface 62 (.pointer (some ⟨t, 0, none⟩))] 39 :: txR t m s p wb va vc sv clk es :: H) wr) (fun x14 _ => csetRows.length - (intOf x14).toNat)
 case atStart => exact ⟨0, rfl, Nat.zero_le _, fun j y h => by omega, hv⟩
 case round =>
  obtain ⟨i, rfl, hi, hno, hv⟩ := hrel
  have hrl := rows_len
  refine sK fun _ k11 => rL ?_
  by_cases hb12 : (i : Int) < (csetRows.length : Int)
  ·refine xG (.bool true) rfl (ex_lss rfl rfl rfl (decide_eq_true hb12)) ?_
   simp only [zP, po]
   refine wK k11 (sK fun _ k13 => ?_)
   refine cT rfl (kS ?_)
   refine tK k13 (sK fun _ k14 => ?_)
   refine bB (sK fun _ k15 => ?_)
   obtain ⟨x, hx⟩ : ∃ x, csetRows[i]? = some x := ⟨_, List.getElem?_eq_getElem (show i < csetRows.length by omega)⟩
   have hxm := List.mem_of_getElem? hx
   obtain ⟨rb, ro, had, hrdx⟩ := row_reads hrr hx
   subst had
   refine rL (xG (.pointer (some ⟨rb, ro + i * 3, none⟩)) rfl (ex_index rfl rfl rfl (run_idx (k := i) Tryz.underlying68 c6es68 (by omega))) ?_)
   refine xL (.agg #[.string ⟨x.1.toArray⟩, .int .i64 x.2.1, .int .i64 x.2.2]) rfl (run_loadR (cs := [.string ⟨x.1.toArray⟩, .int .i64 x.2.1, .int .i64 x.2.2]) c6wd71 (Reads.mid (pre := []) (mid := [.string ⟨x.1.toArray⟩, .int .i64 x.2.1, .int .i64 x.2.2]) (post := []) hrdx _ _ _ (Base.Le.refl _) no_res hv)) (sl_alloc tV (wn rfl) rfl hv c6al71 (fun b16 w17 hv => ?_))
   simp only [zP, po]
   refine xS 0 rfl hv c6sz71 rfl (by exact ⟨rfl, rfl, rfl, trivial⟩) (fun w18 hv => ?_)
   simp only [zO, sp] at hv
   simp only [zP, po]
   refine wK k15 (sK fun _ k19 => ?_)
   refine sK fun _ k20 => rL (xF (.pointer (some ⟨b16, 0, none⟩)) rfl (c6fa71_0 _ _ _) ?_)
   refine xL _ rfl (run_load1 s9na9 (hv.load 0 0 rfl rfl)) (xM (.string ⟨name.toArray⟩) rfl ?_)
   simp only [zP, po]
   by_cases hb21 : x.1 ≠ name
   ·refine xG (.bool true) rfl (ex_sneq rfl rfl rfl (decide_eq_true hb21)) ?_
    simp only [zP, po]
    refine wK k20 (cT rfl ?_)
    refine xE (tX ?_)
    refine bH (tK k14 ?_)
    refine rL (xG (.int .i64 ((i + 1 : Nat) : Int)) rfl (ex_add rfl rfl rfl (by rw [i64_in (by omega)]; omega)) ?_)
    refine xM (.int .i64 ((i + 1 : Nat) : Int)) rfl (wL ?_)
    simp only [zP, po]
    refine then_normal ?_
    go_roundw
    case rel => exact ⟨i + 1, rfl, by omega, fun j y hj hy => (by
       rcases Nat.lt_or_ge j i with h | h
       ·exact hno j y h hy
       obtain rfl : j = i := by omega
       rw [hx] at hy; cases hy; exact hb21), (((((hv.front 4 rfl).front 4 rfl).front 4 rfl).front 4 rfl).sub (List.Sublist.cons_cons _ (List.Sublist.cons_cons _ (List.Sublist.cons_cons _ (List.Sublist.cons_cons _ (List.Sublist.cons _ (List.Sublist.refl _)))))))⟩
    case measure => show csetRows.length - (((i + 1 : Nat) : Int)).toNat < csetRows.length - ((i : Int)).toNat; omega
   refine xG (.bool false) rfl (ex_sneq rfl rfl rfl (decide_eq_false hb21)) ?_
   simp only [zP, po]
   refine wK k20 (cF rfl ?_)
   refine kS (tK k19 ?_)
   refine sK fun _ k22 => sK fun _ k23 => rL (xM (.slice aa args.length ac) rfl ?_)
   refine xG (.int .i64 (args.length : Int)) rfl (ex_len0 Tryz.underlying22 rfl rfl) (xA (.int .i64 (args.length : Int)) rfl ?_)
   simp only [zP, po]
   refine wK k23 (sK fun _ k24 => ?_)
   refine rL (xM (.int .i64 (args.length : Int)) rfl ?_)
   refine xF (.pointer (some ⟨b16, 1, none⟩)) rfl (c6fa71_1 _ _ _) (xL _ rfl (run_load1 s2na3 (hv.load 0 1 rfl rfl)) ?_)
   simp only [zP, po]
   by_cases hb25 : (args.length : Int) < x.2.1
   ·refine xG (.bool true) rfl (ex_lss rfl rfl rfl (decide_eq_true hb25)) (xM (.bool true) rfl ?_)
    refine yP rfl ?_
    simp only [zP, po]
    refine yP rfl (yP rfl ?_)
    refine yP rfl ?_
    simp only [zP, po]
    refine yP rfl (yP rfl ?_)
    refine yP rfl ?_
    simp only [zP, po]
    refine yP rfl (yP rfl ?_)
    refine xK true (.bool true) rfl ?_
    simp only [zP, po]
    refine wK k24 (cT rfl ?_)
    refine sK fun _ k26 => rL (xC rscallable24 rfl ((viewWrong C _ _ 43 hv).mono ?_) rfl)
    rintro e w28 ⟨s27, rfl, hv⟩
    refine ⟨_, rfl, ?_⟩
    refine xS 2 rfl hv rssz28 rfl (by exact ⟨rfl, rfl, rfl, rfl, trivial⟩) (fun w29 hv => ?_)
    simp only [zS, zO, sp] at hv
    refine xV 1 (.bool true) rfl hv c6sz4 rfl rfl (fun w30 hv => ?_)
    simp only [zS, zO, sp] at hv
    simp only [zP, po]
    refine wK k26 (rR ?_)
    refine tR (bZ ?_)
    refine tR (tR ?_)
    refine bZ (tR ?_)
    refine leave_rec c6callable23 (c6rec23 _ _ _ _) (res_cells2 rfl rfl (run_load_mid (pre := []) (mid := [.int .i64 1, .string ⟨s27.toArray⟩, .int .i64 0, .slice none 0 0]) (post := []) rswd28 (show Blk _ b2 ([] ++ [.int .i64 1, .string ⟨s27.toArray⟩, .int .i64 0, .slice none 0 0] ++ []) _ from hv.get 2 rfl) rfl) rfl (run_load1 s2na4 (hv.load 1 0 rfl rfl))) (⟨C, es, M, rFault s27, rpCells 1 s27 0 (.slice none 0 0), hC, rfl, rpAt_leaf, hM.more hC, hO, .inl ⟨⟨x, hxm, Classical.byContradiction fun h9 => hb21 h9, by omega⟩, rfl, rfl⟩, (((hv.front 4 rfl).front 4 rfl).sub (List.Sublist.cons_cons _ (List.Sublist.cons_cons _ (List.Sublist.cons _ (List.Sublist.cons _ (List.Sublist.cons _ (List.Sublist.refl _)))))))⟩)
   refine xG (.bool false) rfl (ex_lss rfl rfl rfl (decide_eq_false hb25)) (xM (.bool false) rfl ?_)
   refine xF (.pointer (some ⟨b16, 2, none⟩)) rfl (c6fa71_2 _ _ _) ?_
   simp only [zP, po]
   refine xL _ rfl (run_load1 s2na3 (hv.load 0 2 rfl rfl)) ?_
   by_cases hb31 : x.2.2 ≥ 0
   ·refine xG (.bool true) rfl (ex_geq rfl rfl rfl (decide_eq_true hb31)) (xM (.bool true) rfl ?_)
    simp only [zP, po]
    refine xM (.int .i64 (args.length : Int)) rfl (xF (.pointer (some ⟨b16, 2, none⟩)) rfl (c6fa71_2 _ _ _) ?_)
    refine xL _ rfl (run_load1 s2na3 (hv.load 0 2 rfl rfl)) ?_
    simp only [zP, po]
    by_cases hb32 : (args.length : Int) > x.2.2
    ·refine xG (.bool true) rfl (ex_gtr rfl rfl rfl (decide_eq_true hb32)) (xK true (.bool true) rfl ?_)
     refine xK false (.bool true) rfl ?_
     simp only [zP, po]
     refine wK k24 (cT rfl ?_)
     refine sK fun _ k33 => rL (xC rscallable24 rfl ((viewWrong C _ _ 43 hv).mono ?_) rfl)
     rintro e w35 ⟨s34, rfl, hv⟩
     refine ⟨_, rfl, ?_⟩
     refine xS 2 rfl hv rssz28 rfl (by exact ⟨rfl, rfl, rfl, rfl, trivial⟩) (fun w36 hv => ?_)
     simp only [zS, zO, sp] at hv
     refine xV 1 (.bool true) rfl hv c6sz4 rfl rfl (fun w37 hv => ?_)
     simp only [zS, zO, sp] at hv
     simp only [zP, po]
     refine wK k33 (rR ?_)
     refine tR (bZ ?_)
     refine tR (tR ?_)
     refine bZ (tR ?_)
     refine leave_rec c6callable23 (c6rec23 _ _ _ _) (res_cells2 rfl rfl (run_load_mid (pre := []) (mid := [.int .i64 1, .string ⟨s34.toArray⟩, .int .i64 0, .slice none 0 0]) (post := []) rswd28 (show Blk _ b2 ([] ++ [.int .i64 1, .string ⟨s34.toArray⟩, .int .i64 0, .slice none 0 0] ++ []) _ from hv.get 2 rfl) rfl) rfl (run_load1 s2na4 (hv.load 1 0 rfl rfl))) (⟨C, es, M, rFault s34, rpCells 1 s34 0 (.slice none 0 0), hC, rfl, rpAt_leaf, hM.more hC, hO, .inl ⟨⟨x, hxm, Classical.byContradiction fun h9 => hb21 h9, by omega⟩, rfl, rfl⟩, (((hv.front 4 rfl).front 4 rfl).sub (List.Sublist.cons_cons _ (List.Sublist.cons_cons _ (List.Sublist.cons _ (List.Sublist.cons _ (List.Sublist.cons _ (List.Sublist.refl _)))))))⟩)
    refine xG (.bool false) rfl (ex_gtr rfl rfl rfl (decide_eq_false hb32)) (xK true (.bool false) rfl ?_)
    refine xK false (.bool false) rfl ?_
    simp only [zP, po]
    refine wK k24 (cF rfl ?_)
    refine kS (tK k22 ?_)
    refine sK fun _ k38 => ?_
    have hxn : x.1 = name := Classical.byContradiction fun h9 => hb21 h9
    have h1x := rows_one x hxm
    refine rL (xM (.pointer (some ⟨v, 0, none⟩)) rfl ?_)
    refine xM (.slice aa args.length ac) rfl (xG (.agg #[.pointer (some ⟨v, 0, none⟩), .slice aa args.length ac]) rfl (ex_buildN (vs := #[(0, .pointer (some ⟨v, 0, none⟩)), (1, .slice aa args.length ac)]) rfl (by simp only [List.map_toArray, List.map_cons, List.map_nil]; rfl) (by kernel_rfl)) ?_)
    simp only [zP, po]
    refine xM (.string ⟨name.toArray⟩) rfl ?_
    replace hv := hv.front 4 rfl
    simp only [List.eraseIdx_cons_succ, List.eraseIdx_cons_zero] at hv
    replace hv := hv.front 4 rfl
    simp only [List.eraseIdx_cons_succ, List.eraseIdx_cons_zero] at hv
    refine xC c6callable26 rfl ((csetDoM C _ _ v t m s p wb va vc sv clk es M (hM.more hC) hO aa ac args (hra.more hC (fun _ h => h)) hoka hma name hnm (by omega) (fun h9 => by have h8 := rows_sism x hxm (hxn.trans h9); omega) (fun h9 => by have h8 := rows_store x hxm (h9.imp hxn.trans hxn.trans); omega) (fun h9 => by have h8 := rows_move x hxm (hxn.trans h9); omega) hxl (hN.more hC) hv).mono ?_) rfl
    rintro e w39 ⟨D, es', M', r, cs, hD, rfl, hrp, hM', hO', hrel, hv⟩
    refine ⟨_, rfl, ?_⟩
    obtain ⟨rk, rs, rn, rv, rfl⟩ := rp_parts hrp
    refine xS 4 rfl hv rssz28 rfl (by exact ⟨rfl, rfl, rfl, hrp.lv.2, trivial⟩) (fun w40 hv => ?_)
    simp only [zS, zO, sp] at hv
    simp only [zP, po]
    refine xV 3 (.bool true) rfl hv c6sz4 rfl rfl (fun w41 hv => ?_)
    simp only [zS, zO, sp] at hv
    simp only [zP, po]
    refine wK k38 (rR ?_)
    refine bZ (tR ?_)
    refine tR (bZ ?_)
    refine tR (leave_rec c6callable23 (c6rec23 _ _ _ _) (res_cells2 rfl rfl (run_load_mid (pre := []) (mid := [.int .i64 rk, .string ⟨rs.toArray⟩, .int .i64 rn, rv]) (post := []) rswd28 (show Blk _ b2 ([] ++ [.int .i64 rk, .string ⟨rs.toArray⟩, .int .i64 rn, rv] ++ []) _ from hv.get 4 rfl) rfl) rfl (run_load1 s2na4 (hv.load 3 0 rfl rfl))) ?_)
    exact ⟨D, es', M', r, _, (hC.trans hD), rfl, hrp, hM', hO', .inr hrel, (((hv.front 1 rfl).front 1 rfl).sub (List.Sublist.cons_cons _ (List.Sublist.cons_cons _ (List.Sublist.cons _ (List.Sublist.cons _ (List.Sublist.cons _ (List.Sublist.refl _)))))))⟩
   refine xG (.bool false) rfl (ex_geq rfl rfl rfl (decide_eq_false hb31)) (xM (.bool false) rfl ?_)
   simp only [zP, po]
   refine yP rfl (yP rfl ?_)
   refine yP rfl ?_
   simp only [zP, po]
   refine yP rfl (xK false (.bool false) rfl ?_)
   refine xK false (.bool false) rfl ?_
   simp only [zP, po]
   refine wK k24 (cF rfl ?_)
   refine kS (tK k22 ?_)
   refine sK fun _ k42 => ?_
   have hxn : x.1 = name := Classical.byContradiction fun h9 => hb21 h9
   have h1x := rows_one x hxm
   refine rL (xM (.pointer (some ⟨v, 0, none⟩)) rfl ?_)
   refine xM (.slice aa args.length ac) rfl (xG (.agg #[.pointer (some ⟨v, 0, none⟩), .slice aa args.length ac]) rfl (ex_buildN (vs := #[(0, .pointer (some ⟨v, 0, none⟩)), (1, .slice aa args.length ac)]) rfl (by simp only [List.map_toArray, List.map_cons, List.map_nil]; rfl) (by kernel_rfl)) ?_)
   simp only [zP, po]
   refine xM (.string ⟨name.toArray⟩) rfl ?_
   replace hv := hv.front 4 rfl
   simp only [List.eraseIdx_cons_succ, List.eraseIdx_cons_zero] at hv
   replace hv := hv.front 4 rfl
   simp only [List.eraseIdx_cons_succ, List.eraseIdx_cons_zero] at hv
   refine xC c6callable26 rfl ((csetDoM C _ _ v t m s p wb va vc sv clk es M (hM.more hC) hO aa ac args (hra.more hC (fun _ h => h)) hoka hma name hnm (by omega) (fun h9 => by have h8 := rows_sism x hxm (hxn.trans h9); omega) (fun h9 => by have h8 := rows_store x hxm (h9.imp hxn.trans hxn.trans); omega) (fun h9 => by have h8 := rows_move x hxm (hxn.trans h9); omega) hxl (hN.more hC) hv).mono ?_) rfl
   rintro e w43 ⟨D, es', M', r, cs, hD, rfl, hrp, hM', hO', hrel, hv⟩
   refine ⟨_, rfl, ?_⟩
   obtain ⟨rk, rs, rn, rv, rfl⟩ := rp_parts hrp
   refine xS 4 rfl hv rssz28 rfl (by exact ⟨rfl, rfl, rfl, hrp.lv.2, trivial⟩) (fun w44 hv => ?_)
   simp only [zS, zO, sp] at hv
   simp only [zP, po]
   refine xV 3 (.bool true) rfl hv c6sz4 rfl rfl (fun w45 hv => ?_)
   simp only [zS, zO, sp] at hv
   simp only [zP, po]
   refine wK k42 (rR ?_)
   refine bZ (tR ?_)
   refine tR (bZ ?_)
   refine tR (leave_rec c6callable23 (c6rec23 _ _ _ _) (res_cells2 rfl rfl (run_load_mid (pre := []) (mid := [.int .i64 rk, .string ⟨rs.toArray⟩, .int .i64 rn, rv]) (post := []) rswd28 (show Blk _ b2 ([] ++ [.int .i64 rk, .string ⟨rs.toArray⟩, .int .i64 rn, rv] ++ []) _ from hv.get 4 rfl) rfl) rfl (run_load1 s2na4 (hv.load 3 0 rfl rfl))) ?_)
   exact ⟨D, es', M', r, _, (hC.trans hD), rfl, hrp, hM', hO', .inr hrel, (((hv.front 1 rfl).front 1 rfl).sub (List.Sublist.cons_cons _ (List.Sublist.cons_cons _ (List.Sublist.cons _ (List.Sublist.cons _ (List.Sublist.cons _ (List.Sublist.refl _)))))))⟩
  refine xG (.bool false) rfl (ex_lss rfl rfl rfl (decide_eq_false hb12)) ?_
  simp only [zP, po]
  refine wK k11 (sK fun _ k46 => ?_)
  refine cF rfl (xE ?_)
  refine tX (tX ?_)
  refine bH (tK k7 ?_)
  refine sK fun _ k47 => rL (xG (.agg #[.int .i64 0, .string ⟨([] : List UInt8).toArray⟩, .int .i64 0, .slice none 0 0]) rfl (ex_buildN (vs := #[]) rfl (by simp only [List.map_toArray, List.map_nil]) (by kernel_rfl)) ?_)
  refine xS 1 rfl hv rssz28 rfl (by exact ⟨rfl, rfl, rfl, rfl, trivial⟩) (fun w48 hv => ?_)
  simp only [zS, zO, sp] at hv
  refine xV 0 (.bool false) rfl hv c6sz4 rfl rfl (fun w49 hv => ?_)
  simp only [zO, sp] at hv
  simp only [zP, po]
  refine wK k47 (rR ?_)
  refine leave_rec c6callable23 (c6rec23 _ _ _ _) (res_cells2 rfl rfl (run_load_mid (pre := []) (mid := [.int .i64 0, .string ⟨([] : List UInt8).toArray⟩, .int .i64 0, .slice none 0 0]) (post := []) rswd28 (show Blk _ b2 ([] ++ [.int .i64 0, .string ⟨([] : List UInt8).toArray⟩, .int .i64 0, .slice none 0 0] ++ []) _ from hv.get 1 rfl) rfl) rfl (run_load1 s2na4 (hv.load 0 0 rfl rfl))) ?_
  exfalso
  obtain ⟨y, hy, hyn⟩ := rows_moves name hnm
  obtain ⟨j, hj⟩ := List.mem_iff_getElem?.1 hy
  exact hno j y (by have := (List.getElem?_eq_some_iff.1 hj).1; omega) hj hyn
end Go.Proofs.YtoljdfjnannakaaGreatDoor
/- Rules for a row out of which an element is taken in place. -/
namespace Go.Pm
open Go.RowKit
section
variable {P : Program} {t e : TypeId} {w : World}
end
section
variable {P : Program} {ops : Array Oper} {Q : Exit → Act → World → Prop} {a : Act} {w : World} {o : Oper} {B : Base} {H : List Res} {t e u : TypeId} {x y : Operand} {size : Nat} {J : List Value → World → Prop} {vals : List Value}
end
end Go.Pm
/- Transactions: Rollback, Active. -/
namespace Go.Proofs.YtoljdfjnannakaaGreatDoor
open Go.RowKit Go.Pm
end Go.Proofs.YtoljdfjnannakaaGreatDoor
/- Views: New, Text; law 20's opened and awake. -/
namespace Go.Proofs.YtoljdfjnannakaaGreatDoor
open Go.RowKit Go.Pm
set_option maxHeartbeats 2000000 in
theorem viewNew (B : Base) (H : List Res) (w : World) (t : Nat) (hv : Inv B H w) :
  Calls Tryz.prog 22 #[.iface 62 (.pointer (some ⟨t, 0, none⟩))] w fun e w' => ∃ v, e = .returned (.tuple #[.pointer (some ⟨v, 0, none⟩), .int .i64 0]) ∧ Inv B (Res.cell v [.iface 62 (.pointer (some ⟨t, 0, none⟩))] 39 :: H) w' := by
 refine cW Tryz.func22 rfl Tryz.ntmps22 ?_
 simp only [al]
 refine sK fun _ k1 => rL (xA (.pointer none) rfl ?_)
 refine xA (.int .i64 0) rfl ?_
 simp only [zP, po]
 refine wK k1 (sK fun _ k2 => ?_)
 refine sK fun _ k3 => rL (xM (.iface 62 (.pointer (some ⟨t, 0, none⟩))) rfl ?_)
 refine xG (.bool false) rfl (ex_ifnil Tryz.underlying37 rfl rfl rfl) ?_
 simp only [zP, po]
 refine wK k3 (cF rfl ?_)
 refine kS (tK k2 ?_)
 refine sK fun _ k4 => rL (xM (.iface 62 (.pointer (some ⟨t, 0, none⟩))) rfl ?_)
 refine xG (.agg #[.iface 62 (.pointer (some ⟨t, 0, none⟩))]) rfl (ex_buildN (vs := #[(0, .iface 62 (.pointer (some ⟨t, 0, none⟩)))]) rfl (by simp only [List.map_toArray, List.map_cons, List.map_nil]; rfl) (by kernel_rfl)) (sl_box (L := [.iface 62 (.pointer (some ⟨t, 0, none⟩))]) tV (wn rfl) rfl rfl hv (fun w => by kernel_rfl) (fun b5 w6 hv => ?_))
 simp only [zP, po]
 refine xA (.pointer (some ⟨b5, 0, none⟩)) rfl (xA (.int .i64 0) rfl ?_)
 simp only [zP, po]
 refine wK k4 (rR ?_)
 refine bodyPost_ret (results_tmp2 rfl _ _ _) rfl (⟨_, rfl, hv⟩)
end Go.Proofs.YtoljdfjnannakaaGreatDoor
/- Law 24: opened, do; the reference's Str, Strs, Same. -/
namespace Go.Proofs.YtoljdfjnannakaaGreatDoor
open Go.RowKit Go.Pm
theorem c7callable19 : Callable Tryz.prog 19 := ⟨_, Tryz.func19, by kernel_rfl, by kernel_rfl⟩
theorem c7callable18 : Callable Tryz.prog 18 := ⟨_, Tryz.func18, by kernel_rfl, by kernel_rfl⟩
theorem c7callable20 : Callable Tryz.prog 20 := ⟨_, Tryz.func20, by kernel_rfl, by kernel_rfl⟩
theorem c7callable21 : Callable Tryz.prog 21 := ⟨_, Tryz.func21, by kernel_rfl, by kernel_rfl⟩
theorem c7callable22 : Callable Tryz.prog 22 := ⟨_, Tryz.func22, by kernel_rfl, by kernel_rfl⟩
set_option maxHeartbeats 2000000 in
theorem lawOpened24 (B : Base) (H : List Res) (w : World) (now : Int) (h0 : 0 ≤ now) (h1 : now ≤ 1099511627776) (hv : Inv B H w) :
  Calls Tryz.prog 7 #[.int .i64 now] w fun e w' => ∃ v t m s p wb va vc sv, e = .returned (.pointer (some ⟨v, 0, none⟩)) ∧ Inv B (Res.cell v [.iface 62 (.pointer (some ⟨t, 0, none⟩))] 39 :: txR t m s p wb va vc sv now [] :: H) w' := by
 refine cW Tryz.func7 rfl Tryz.ntmps7 ?_
 simp only [al]
 refine sK fun _ k1 => rL (xA (.pointer none) rfl ?_)
 simp only [zP, po]
 refine wK k1 (sK fun _ k2 => ?_)
 refine rL (xC c7callable19 rfl ((storeNew0 B _ _ hv).mono ?_) rfl)
 rintro e w3 ⟨s, p, rfl, hv⟩
 refine ⟨_, rfl, ?_⟩
 refine xG (.agg #[]) rfl (ex_buildN (vs := #[]) rfl (by simp only [List.map_toArray, List.map_nil]) (by kernel_rfl)) (xG (.iface 60 (.agg #[])) rfl (ex_iface Tryz.underlying60 (fun _ h => by cases h) rfl rfl) ?_)
 simp only [zP, po]
 refine xC c7callable18 rfl ((txnNew0 B _ _ s 60 (.agg #[]) hv).mono ?_) rfl
 rintro e w4 ⟨m, rfl, hv⟩
 refine ⟨_, rfl, ?_⟩
 obtain ⟨sv, hsv⟩ : ∃ sv, sv = Value.iface 60 (.agg #[]) := ⟨_, rfl⟩
 rw [← hsv] at hv
 refine xM (.tuple #[.pointer (some ⟨m, 0, none⟩), .int .i64 0]) rfl (xG (.pointer (some ⟨m, 0, none⟩)) rfl (ex_extract rfl rfl rfl) ?_)
 simp only [zP, po]
 refine xG (.int .i64 0) rfl (ex_extract rfl rfl rfl) (xA (.pointer (some ⟨m, 0, none⟩)) rfl ?_)
 refine xA (.int .i64 0) rfl ?_
 simp only [zP, po]
 refine wK k2 (sK fun _ k5 => ?_)
 refine sK fun _ k6 => rL (xM (.pointer (some ⟨m, 0, none⟩)) rfl ?_)
 refine xG (.bool false) rfl (ex_pisnil Tryz.underlying53 rfl rfl rfl rfl) ?_
 simp only [zP, po]
 refine wK k6 (cF rfl ?_)
 refine kS (tK k5 ?_)
 refine sK fun _ k7 => rL (xM (.pointer (some ⟨m, 0, none⟩)) rfl ?_)
 refine xM (.int .i64 now) rfl (xC c7callable20 rfl ((txnTick0 B _ _ m s sv now h0 h1 hv).mono ?_) rfl)
 rintro e w8 ⟨r9, rfl, hv⟩
 refine ⟨_, rfl, ?_⟩
 simp only [zP, po]
 refine wK k7 (sK fun _ k9 => ?_)
 refine rL (xM (.pointer (some ⟨m, 0, none⟩)) rfl ?_)
 replace hv := hv.front 2 rfl
 simp only [List.eraseIdx_cons_succ, List.eraseIdx_cons_zero] at hv
 replace hv := hv.front 2 rfl
 simp only [List.eraseIdx_cons_succ, List.eraseIdx_cons_zero] at hv
 replace hv := hv.front 2 rfl
 simp only [List.eraseIdx_cons_succ, List.eraseIdx_cons_zero] at hv
 refine xC c7callable21 rfl ((txnBegin B _ _ m s p sv now hv).mono ?_) rfl
 rintro e w10 ⟨t, wb, va, vc, rfl, hv⟩
 refine ⟨_, rfl, ?_⟩
 refine xM (.tuple #[.pointer (some ⟨t, 0, none⟩), .int .i64 0]) rfl ?_
 simp only [zP, po]
 refine xG (.pointer (some ⟨t, 0, none⟩)) rfl (ex_extract rfl rfl rfl) (xG (.int .i64 0) rfl (ex_extract rfl rfl rfl) ?_)
 refine xA (.pointer (some ⟨t, 0, none⟩)) rfl ?_
 simp only [zP, po]
 refine xA (.int .i64 0) rfl ?_
 simp only [zP, po]
 refine wK k9 (sK fun _ k11 => ?_)
 refine sK fun _ k12 => rL (xM (.pointer (some ⟨t, 0, none⟩)) rfl ?_)
 refine xG (.bool false) rfl (ex_pisnil Tryz.underlying62 rfl rfl rfl rfl) ?_
 simp only [zP, po]
 refine wK k12 (cF rfl ?_)
 refine kS (tK k11 ?_)
 refine sK fun _ k13 => rL (xM (.pointer (some ⟨t, 0, none⟩)) rfl ?_)
 refine xG (.iface 62 (.pointer (some ⟨t, 0, none⟩))) rfl (ex_iface Tryz.underlying62 (fun _ h => by cases h) rfl rfl) (xC c7callable22 rfl ((viewNew B _ _ t hv).mono ?_) rfl)
 rintro e w14 ⟨v, rfl, hv⟩
 refine ⟨_, rfl, ?_⟩
 simp only [zP, po]
 refine xM (.tuple #[.pointer (some ⟨v, 0, none⟩), .int .i64 0]) rfl (xG (.pointer (some ⟨v, 0, none⟩)) rfl (ex_extract rfl rfl rfl) ?_)
 refine xG (.int .i64 0) rfl (ex_extract rfl rfl rfl) ?_
 simp only [zP, po]
 refine xA (.pointer (some ⟨v, 0, none⟩)) rfl (xA (.int .i64 0) rfl ?_)
 simp only [zP, po]
 refine wK k13 (sK fun _ k15 => ?_)
 refine rL (xM (.pointer (some ⟨v, 0, none⟩)) rfl ?_)
 refine xA (.pointer (some ⟨v, 0, none⟩)) rfl ?_
 simp only [zP, po]
 refine wK k15 (rR ?_)
 refine bR rfl rfl (⟨v, t, m, s, p, wb, va, vc, sv, rfl, ((hv.front 1 rfl).front 1 rfl)⟩)
theorem c7al28 (w : World) : (Instr.alloc 28 true (.tuple #[])).run Tryz.prog w = .ok (.pointer (some ⟨w.heap.size, 0, none⟩)) (w.alloc (.cells ([.int .i64 0, .string ⟨([] : List UInt8).toArray⟩, .int .i64 0, .slice none 0 0] : List Value).toArray 28)) := by kernel_rfl
set_option maxHeartbeats 2000000 in
theorem ref20Str (B : Base) (H : List Res) (w : World) (s : List UInt8) (hv : Inv B H w) :
  Calls Tryz.prog 34 #[.string ⟨s.toArray⟩] w fun e w' => e = .returned (.agg #[.int .i64 3, .string ⟨s.toArray⟩, .int .i64 0, .slice none 0 0]) ∧ Inv B H w' := by
 refine cW Tryz.func34 rfl Tryz.ntmps34 ?_
 simp only [al]
 refine sK fun _ k1 => rL (sl_alloc tV (wn rfl) rfl hv c7al28 (fun b2 w3 hv => ?_))
 simp only [zP, po]
 refine wK k1 (sK fun _ k4 => ?_)
 refine rL (xM (.string ⟨s.toArray⟩) rfl ?_)
 refine xG (.agg #[.int .i64 3, .string ⟨s.toArray⟩, .int .i64 0, .slice none 0 0]) rfl (ex_buildN (vs := #[(0, .int .i64 3), (1, .string ⟨s.toArray⟩)]) rfl (by simp only [List.map_toArray, List.map_cons, List.map_nil]; rfl) (by kernel_rfl)) (xS 0 rfl hv rssz28 rfl (by exact ⟨rfl, rfl, rfl, rfl, trivial⟩) (fun w5 hv => ?_))
 simp only [zO, sp] at hv
 simp only [zP, po]
 refine wK k4 (rR ?_)
 refine bodyPost_ret (res_cell1 rfl rfl (run_load_mid (pre := []) (mid := [.int .i64 3, .string ⟨s.toArray⟩, .int .i64 0, .slice none 0 0]) (post := []) rswd28 (show Blk _ b2 ([] ++ [.int .i64 3, .string ⟨s.toArray⟩, .int .i64 0, .slice none 0 0] ++ []) _ from hv.get 0 rfl) rfl)) rfl (⟨rfl, (hv.sub (List.Sublist.cons _ (List.Sublist.refl _)))⟩)
theorem c7callable34 : Callable Tryz.prog 34 := ⟨_, Tryz.func34, by kernel_rfl, by kernel_rfl⟩
theorem c7mk28 : (Tryz.prog.info? 28).map (fun i => (i.zero, i.size, i.bytes)) = some (some (.agg #[.int .i64 0, .string ⟨([] : List UInt8).toArray⟩, .int .i64 0, .slice none 0 0]), 4, 56) := by kernel_rfl
theorem c7el26 : Elem Tryz.prog 26 28 (.agg #[.int .i64 0, .string ⟨([] : List UInt8).toArray⟩, .int .i64 0, .slice none 0 0]) 4 56 := elem_of Tryz.underlying26 c7mk28 (by rfl) (by decide)
set_option maxHeartbeats 4000000 in
theorem ref20Strs (B : Base) (H : List Res) (w : World) (sa : Option Addr) (sc : Nat) (ss : List (List UInt8)) (hr : RdV B [] sa (textCells ss)) (hm : ss.length ≤ 1000000) (hv : Inv B H w) :
  Calls Tryz.prog 17 #[.slice sa ss.length sc] w fun e w' => ∃ C v, B.Le C ∧ e = .returned (.agg #[.int .i64 5, .string ⟨(([] : List UInt8)).toArray⟩, .int .i64 0, v]) ∧ RpAt C (rStrs ss) (rpCells 5 [] 0 v) ∧ Inv C H w' := by
 refine cW Tryz.func17 rfl Tryz.ntmps17 ?_
 simp only [al]
 refine sK fun _ k1 => rL (sl_alloc tV (wn rfl) rfl hv c7al28 (fun b2 w3 hv => ?_))
 simp only [zP, po]
 refine wK k1 (sK fun _ k4 => ?_)
 refine rL (xG (.agg #[.int .i64 5, .string ⟨([] : List UInt8).toArray⟩, .int .i64 0, .slice none 0 0]) rfl (ex_buildN (vs := #[(0, .int .i64 5)]) rfl (by simp only [List.map_toArray, List.map_cons, List.map_nil]; rfl) (by kernel_rfl)) ?_)
 refine sl_alloc tV (wn rfl) rfl hv c7al28 (fun b5 w6 hv => ?_)
 refine xS 0 rfl hv rssz28 rfl (by exact ⟨rfl, rfl, rfl, rfl, trivial⟩) (fun w7 hv => ?_)
 simp only [zO, sp] at hv
 simp only [zP, po]
 refine wK k4 (sK fun _ k8 => ?_)
 refine sK fun _ k9 => rL (xA (.int .i64 0) rfl ?_)
 simp only [zP, po]
 refine wK k9 (bB ?_)
 gi_loopw [4] (fun x4 wr => ∃ (i : Nat) (ra : Option Addr) (rc : Nat), x4 = .int .i64 (i : Int) ∧ i ≤ ss.length ∧ Inv B (Res.row 28 4 (.slice ra i rc) i (strsCells (ss.take i)) :: Res.cell b5 [.int .i64 5, .string ⟨([] : List UInt8).toArray⟩, .int .i64 0, .slice ra i rc] 28 :: Res.cell b2 [.int .i64 0, .string ⟨([] : List UInt8).toArray⟩, .int .i64 0, .slice none 0 0] 28 :: H) wr) (fun x4 _ => ss.length - (intOf x4).toNat)
 case atStart => exact ⟨0, none, 0, rfl, Nat.zero_le _, (((hv.front 1 rfl).front 1 rfl)).rowNil 28 4⟩
 case round =>
  obtain ⟨i, ra, rc, rfl, hi, hv⟩ := hrel
  refine sK fun _ k11 => sK fun _ k12 => rL (xM (.int .i64 (i : Int)) rfl ?_)
  refine xM (.slice sa ss.length sc) rfl (xG (.int .i64 (ss.length : Int)) rfl (ex_len0 Tryz.underlying22 rfl rfl) ?_)
  simp only [zP, po]
  by_cases hb13 : (i : Int) < (ss.length : Int)
  ·refine xG (.bool true) rfl (ex_lss rfl rfl rfl (decide_eq_true hb13)) ?_
   simp only [zP, po]
   refine wK k12 (cT rfl ?_)
   refine kS (tK k11 ?_)
   refine sK fun _ k14 => bB ?_
   obtain ⟨x, hx⟩ : ∃ x, ss[i]? = some x := ⟨_, List.getElem?_eq_getElem (show i < ss.length by omega)⟩
   obtain ⟨bb, bo, had, hrdx⟩ := text_reads hr hx
   subst had
   refine rW mixed [6, 7, 8, 10] [0,1,2,3,4,5,6,7,8,9,10] 23 rfl (by kernel_rfl) hv ?_
   simp only [qm, opAt]
   refine dG (.pointer (some ⟨b5, 3, none⟩)) rfl (ex_field rfl rfl (rtfa28_3 _ _ _)) (dF _ rfl (fun hv => ex_load rfl rfl (run_load1 rtna26 (hv.load 1 3 rfl rfl))) fun f15 hf15 => ?_)
   refine dM (.slice (some ⟨bb, bo, none⟩) ss.length sc) rfl ?_
   simp only [zP, po]
   refine dM (.int .i64 (i : Int)) rfl (dG (.pointer (some ⟨bb, bo + i, none⟩)) rfl (ex_index rfl rfl rfl (run_idx1 (k := i) Tryz.underlying22 s9es22 (by omega))) ?_)
   refine dL _ rfl (fun hv => ex_load rfl rfl (run_load1 s9na9 (hrdx _ _ _ (Base.Le.refl _) no_res hv 0 _ rfl))) ?_
   simp only [zP, po]
   refine dS rfl fun w16 hv => mC c7callable34 rfl ((ref20Str B _ _ x hv).mono ?_) rfl
   rintro e w17 ⟨rfl, hv⟩
   refine ⟨_, rfl, dV hv (fC (fun ww hv => hf15 ww (ex_load rfl rfl (run_load1 rtna26 (hv.load 1 3 rfl rfl)))) fN) ?_⟩
   refine dS rfl fun w18 hv => mem_rowAgg (L := [.int .i64 3, .string ⟨x.toArray⟩, .int .i64 0, .slice none 0 0]) rfl rfl rfl hv c7el26 rfl (by decide) (fun b19 w20 hv => ?_)
   refine dV hv (fC (fun ww hv => hf15 ww (ex_load rfl rfl (run_load1 rtna26 (hv.load 2 3 rfl rfl)))) fN) (dS rfl fun w21 hv => ?_)
   replace hv := hv.front 1 rfl
   simp only [List.eraseIdx_cons_succ, List.eraseIdx_cons_zero] at hv
   refine mem_append (news := [.int .i64 3, .string ⟨x.toArray⟩, .int .i64 0, .slice none 0 0]) rfl rfl rfl rfl c7el26 hv (ok_full (by omega)) rfl (rd_all (hv.get 1 rfl)) (by intro u hu; simp only [List.mem_cons, List.not_mem_nil, or_false] at hu; rcases hu with rfl | rfl | rfl | rfl <;> rfl) (by unfold maxLen; omega) (by omega) (fun rv22 w25 hv => ?_)
   obtain ⟨ra23, rc24, rfl⟩ := row_slice hv.head
   refine dV hv (fK rfl fN) ?_
   simp only [zP, po]
   refine dG (.pointer (some ⟨b5, 3, none⟩)) rfl (ex_field rfl rfl (rtfa28_3 _ _ _)) (dS rfl fun w26 hv => ?_)
   refine mV 2 (.slice ra23 (i + 1) rc24) rfl hv rtsz26 rfl rfl (fun w27 hv => ?_)
   simp only [zS, zO, sp] at hv
   refine dV hv (fK rfl fN) (dE fun w28 hv => ?_)
   simp only [zP, po]
   refine bN (tK k14 ?_)
   refine rL (xM (.int .i64 (i : Int)) rfl ?_)
   refine xG (.int .i64 ((i + 1 : Nat) : Int)) rfl (ex_add rfl rfl rfl (by rw [i64_in (by omega)]; omega)) (xA (.int .i64 ((i + 1 : Nat) : Int)) rfl ?_)
   refine wL ?_
   simp only [zP, po]
   refine then_normal ?_
   go_roundw
   case rel => exact ⟨i + 1, _, _, rfl, by omega, by rw [strsCells_next hx]; exact ((((hv.front 3 rfl).front 3 rfl).front 2 rfl).sub (List.Sublist.cons_cons _ (List.Sublist.cons_cons _ (List.Sublist.cons_cons _ (List.Sublist.cons _ (List.Sublist.refl _))))))⟩
   case measure => show ss.length - (((i + 1 : Nat) : Int)).toNat < ss.length - ((i : Int)).toNat; omega
  refine xG (.bool false) rfl (ex_lss rfl rfl rfl (decide_eq_false hb13)) ?_
  simp only [zP, po]
  refine wK k12 (cF rfl ?_)
  refine xE (tX ?_)
  refine tX (bH ?_)
  refine tK k8 (sK fun _ k29 => ?_)
  refine rL (xL (.agg #[.int .i64 5, .string ⟨([] : List UInt8).toArray⟩, .int .i64 0, .slice ra i rc]) rfl (run_load_mid (pre := []) (mid := [.int .i64 5, .string ⟨([] : List UInt8).toArray⟩, .int .i64 0, .slice ra i rc]) (post := []) rswd28 (show Blk _ b5 ([] ++ [.int .i64 5, .string ⟨([] : List UInt8).toArray⟩, .int .i64 0, .slice ra i rc] ++ []) _ from hv.get 1 rfl) rfl) ?_)
  refine xS 2 rfl hv rssz28 rfl (by exact ⟨rfl, rfl, rfl, rfl, trivial⟩) (fun w30 hv => ?_)
  simp only [zS, zO, sp] at hv
  simp only [zP, po]
  refine wK k29 (rR ?_)
  refine bodyPost_ret (res_cell1 rfl rfl (run_load_mid (pre := []) (mid := [.int .i64 5, .string ⟨([] : List UInt8).toArray⟩, .int .i64 0, .slice ra i rc]) (post := []) rswd28 (show Blk _ b2 ([] ++ [.int .i64 5, .string ⟨([] : List UInt8).toArray⟩, .int .i64 0, .slice ra i rc] ++ []) _ from hv.get 2 rfl) rfl)) rfl ?_
  obtain rfl : i = ss.length := by omega
  obtain ⟨C, hC, hv, hro, hoko, -⟩ := ((hv.sub (List.Sublist.cons_cons _ (List.Sublist.cons _ (List.Sublist.cons _ (List.Sublist.refl _)))))).rowBy
  rw [List.take_length] at hro
  exact ⟨C, _, hC, rfl, rpAt_of (l := ss.map rStr) ⟨ra, rc, by rw [List.length_map], by rw [List.length_map]; exact hoko, hro⟩ (strsCells_at ss), hv⟩
def SameR (B : Base) (r : Rp) : Prop := ∀ (H : List Res) (w : World) (cs cs' : List Value), RpAt B r cs → RpAt B r cs' → Inv B H w → Calls Tryz.prog 9 #[.agg cs.toArray, .agg cs'.toArray] w fun e w' => e = .returned (.bool true) ∧ Inv B H w'
theorem c7fa28_0 (w : World) (b o : Nat) : (Instr.fieldAt 28 (.pointer (some ⟨b, o, none⟩)) 0).run Tryz.prog w = .ok (.pointer (some ⟨b, o + 0, none⟩)) w := by kernel_rfl
theorem c7fa28_1 (w : World) (b o : Nat) : (Instr.fieldAt 28 (.pointer (some ⟨b, o, none⟩)) 1).run Tryz.prog w = .ok (.pointer (some ⟨b, o + 1, none⟩)) w := by kernel_rfl
theorem c7fa28_2 (w : World) (b o : Nat) : (Instr.fieldAt 28 (.pointer (some ⟨b, o, none⟩)) 2).run Tryz.prog w = .ok (.pointer (some ⟨b, o + 2, none⟩)) w := by kernel_rfl
theorem c7es26 (w : World) : (sizeOf (Tryz.prog.elem 26)).run Tryz.prog w = .ok 4 w := by kernel_rfl
theorem c7callable9 : Callable Tryz.prog 9 := ⟨_, Tryz.func9, by kernel_rfl, by kernel_rfl⟩
set_option maxHeartbeats 4000000 in
theorem refSameRp0 (B : Base) (H : List Res) (w : World) (k : Int) (s : List UInt8) (n : Int) (l : List Rp) (a a' : Option Addr) (c c' : Nat) (xs xs' : List Value) (hrd : RdV B [] a xs) (hrd' : RdV B [] a' xs') (hat : RpsAt B l xs) (hat' : RpsAt B l xs') (hl : l.length ≤ 1000000) (hIH : ∀ x ∈ l, SameR B x) (hv : Inv B H w) :
  Calls Tryz.prog 9 #[.agg #[.int .i64 k, .string ⟨s.toArray⟩, .int .i64 n, .slice a l.length c], .agg #[.int .i64 k, .string ⟨s.toArray⟩, .int .i64 n, .slice a' l.length c']] w fun e w' => e = .returned (.bool true) ∧ Inv B H w' := by
 refine cW Tryz.func9 rfl Tryz.ntmps9 ?_
 simp only [al]
 refine sK fun _ k1 => rL (sl_box (L := [.int .i64 k, .string ⟨s.toArray⟩, .int .i64 n, .slice a l.length c]) tV (wn rfl) rfl rfl hv (fun w => by kernel_rfl) (fun b2 w3 hv => ?_))
 refine sl_box (L := [.int .i64 k, .string ⟨s.toArray⟩, .int .i64 n, .slice a' l.length c']) tV (wn rfl) rfl rfl hv (fun w => by kernel_rfl) (fun b4 w5 hv => ?_)
 refine xA (.bool false) rfl ?_
 simp only [zP, po]
 refine wK k1 (sK fun _ k6 => ?_)
 refine sK fun _ k7 => rL (xF (.pointer (some ⟨b2, 0, none⟩)) rfl (c7fa28_0 _ _ _) ?_)
 refine xL _ rfl (run_load1 s2na3 (hv.load 1 0 rfl rfl)) (xF (.pointer (some ⟨b4, 0, none⟩)) rfl (c7fa28_0 _ _ _) ?_)
 simp only [zP, po]
 refine xL _ rfl (run_load1 s2na3 (hv.load 0 0 rfl rfl)) (xG (.bool false) rfl (ex_neq rfl rfl rfl (decide_eq_false (fun h => h rfl))) ?_)
 refine xM (.bool false) rfl ?_
 simp only [zP, po]
 refine xF (.pointer (some ⟨b2, 1, none⟩)) rfl (c7fa28_1 _ _ _) (xL _ rfl (run_load1 s9na9 (hv.load 1 1 rfl rfl)) ?_)
 refine xF (.pointer (some ⟨b4, 1, none⟩)) rfl (c7fa28_1 _ _ _) ?_
 simp only [zP, po]
 refine xL _ rfl (run_load1 s9na9 (hv.load 0 1 rfl rfl)) (xG (.bool false) rfl (ex_sneq rfl rfl rfl (decide_eq_false (fun h => h rfl))) ?_)
 refine xK false (.bool false) rfl ?_
 simp only [zP, po]
 refine xM (.bool false) rfl (xF (.pointer (some ⟨b2, 2, none⟩)) rfl (c7fa28_2 _ _ _) ?_)
 refine xL _ rfl (run_load1 s2na3 (hv.load 1 2 rfl rfl)) ?_
 simp only [zP, po]
 refine xF (.pointer (some ⟨b4, 2, none⟩)) rfl (c7fa28_2 _ _ _) (xL _ rfl (run_load1 s2na3 (hv.load 0 2 rfl rfl)) ?_)
 refine xG (.bool false) rfl (ex_neq rfl rfl rfl (decide_eq_false (fun h => h rfl))) ?_
 simp only [zP, po]
 refine xK false (.bool false) rfl (xM (.bool false) rfl ?_)
 refine xF (.pointer (some ⟨b2, 3, none⟩)) rfl (rtfa28_3 _ _ _) ?_
 simp only [zP, po]
 refine xL _ rfl (run_load1 rtna26 (hv.load 1 3 rfl rfl)) (xG (.int .i64 (l.length : Int)) rfl (ex_len0 Tryz.underlying26 rfl rfl) ?_)
 refine xF (.pointer (some ⟨b4, 3, none⟩)) rfl (rtfa28_3 _ _ _) ?_
 simp only [zP, po]
 refine xL _ rfl (run_load1 rtna26 (hv.load 0 3 rfl rfl)) (xG (.int .i64 (l.length : Int)) rfl (ex_len0 Tryz.underlying26 rfl rfl) ?_)
 refine xG (.bool false) rfl (ex_neq rfl rfl rfl (decide_eq_false (fun h => h rfl))) ?_
 simp only [zP, po]
 refine xK false (.bool false) rfl ?_
 simp only [zP, po]
 refine wK k7 (cF rfl ?_)
 refine kS (tK k6 ?_)
 refine sK fun _ k8 => sK fun _ k9 => rL (xA (.int .i64 0) rfl ?_)
 simp only [zP, po]
 refine wK k9 (bB ?_)
 gi_loopw [5] (fun x5 wr => ∃ (i : Nat), x5 = .int .i64 (i : Int) ∧ i ≤ l.length ∧ Inv B (Res.cell b4 [.int .i64 k, .string ⟨s.toArray⟩, .int .i64 n, .slice a' l.length c'] 28 :: Res.cell b2 [.int .i64 k, .string ⟨s.toArray⟩, .int .i64 n, .slice a l.length c] 28 :: H) wr) (fun x5 _ => l.length - (intOf x5).toNat)
 case atStart => exact ⟨0, rfl, Nat.zero_le _, hv⟩
 case round =>
  obtain ⟨i, rfl, hi, hv⟩ := hrel
  refine sK fun _ k11 => sK fun _ k12 => rL (xM (.int .i64 (i : Int)) rfl ?_)
  refine xF (.pointer (some ⟨b2, 3, none⟩)) rfl (rtfa28_3 _ _ _) (xL _ rfl (run_load1 rtna26 (hv.load 1 3 rfl rfl)) ?_)
  simp only [zP, po]
  refine xG (.int .i64 (l.length : Int)) rfl (ex_len0 Tryz.underlying26 rfl rfl) ?_
  by_cases hb13 : (i : Int) < (l.length : Int)
  ·refine xG (.bool true) rfl (ex_lss rfl rfl rfl (decide_eq_true hb13)) ?_
   simp only [zP, po]
   refine wK k12 (cT rfl ?_)
   refine kS (tK k11 ?_)
   refine sK fun _ k14 => bB (sK fun _ k15 => ?_)
   obtain ⟨x, hx⟩ : ∃ x, l[i]? = some x := ⟨_, List.getElem?_eq_getElem (show i < l.length by omega)⟩
   obtain ⟨xk, xs, xn, xq⟩ := x
   obtain ⟨q1, o1, v1, y1, h1a, h1b, h1c, h1d⟩ := hat.reads hrd hx
   obtain ⟨q2, o2, v2, y2, h2a, h2b, h2c, h2d⟩ := hat'.reads hrd' hx
   subst h1a
   subst h2a
   have hq1 := rpAt_of (k := xk) (s := xs) (n := xn) h1b h1c
   have hq2 := rpAt_of (k := xk) (s := xs) (n := xn) h2b h2c
   refine rW mixed [10] [0,1,2,3,4,5,6,7,8,9,10,11] 53 rfl (by kernel_rfl) hv ?_
   simp only [qm, opAt]
   refine dG (.pointer (some ⟨b2, 3, none⟩)) rfl (ex_field rfl rfl (rtfa28_3 _ _ _)) (dL _ rfl (fun hv => ex_load rfl rfl (run_load1 rtna26 (hv.load 1 3 rfl rfl))) ?_)
   refine dM (.int .i64 (i : Int)) rfl ?_
   simp only [zP, po]
   refine dG (.pointer (some ⟨q1, o1 + i * 4, none⟩)) rfl (ex_index rfl rfl rfl (run_idx (k := i) Tryz.underlying26 c7es26 (by omega))) (dL (.agg #[.int .i64 xk, .string ⟨xs.toArray⟩, .int .i64 xn, v1]) rfl (fun hv => ex_load rfl rfl (run_loadR (cs := [.int .i64 xk, .string ⟨xs.toArray⟩, .int .i64 xn, v1]) rswd28 (Reads.mid (pre := []) (mid := [.int .i64 xk, .string ⟨xs.toArray⟩, .int .i64 xn, v1]) (post := []) h1d _ _ _ (Base.Le.refl _) no_res hv))) ?_)
   refine dG (.pointer (some ⟨b4, 3, none⟩)) rfl (ex_field rfl rfl (rtfa28_3 _ _ _)) ?_
   simp only [zP, po]
   refine dL _ rfl (fun hv => ex_load rfl rfl (run_load1 rtna26 (hv.load 0 3 rfl rfl))) (dM (.int .i64 (i : Int)) rfl ?_)
   refine dG (.pointer (some ⟨q2, o2 + i * 4, none⟩)) rfl (ex_index rfl rfl rfl (run_idx (k := i) Tryz.underlying26 c7es26 (by omega))) ?_
   simp only [zP, po]
   refine dL (.agg #[.int .i64 xk, .string ⟨xs.toArray⟩, .int .i64 xn, v2]) rfl (fun hv => ex_load rfl rfl (run_loadR (cs := [.int .i64 xk, .string ⟨xs.toArray⟩, .int .i64 xn, v2]) rswd28 (Reads.mid (pre := []) (mid := [.int .i64 xk, .string ⟨xs.toArray⟩, .int .i64 xn, v2]) (post := []) h2d _ _ _ (Base.Le.refl _) no_res hv))) (dS rfl fun w16 hv => ?_)
   refine mC c7callable9 rfl ((hIH _ (List.mem_of_getElem? hx) _ _ (rpCells xk xs xn v1) (rpCells xk xs xn v2) hq1 hq2 hv).mono ?_) rfl
   rintro e w17 ⟨rfl, hv⟩
   refine ⟨_, rfl, dW hv ?_⟩
   refine dG (.bool false) rfl (ex_not rfl rfl rfl) (dE fun w18 hv => ?_)
   simp only [zP, po]
   refine tK k15 (cF rfl ?_)
   refine kS (bN ?_)
   refine tK k14 (rL ?_)
   refine xM (.int .i64 (i : Int)) rfl (xG (.int .i64 ((i + 1 : Nat) : Int)) rfl (ex_add rfl rfl rfl (by rw [i64_in (by omega)]; omega)) ?_)
   refine xA (.int .i64 ((i + 1 : Nat) : Int)) rfl (wL ?_)
   simp only [zP, po]
   refine then_normal ?_
   go_roundw
   case rel => exact ⟨i + 1, rfl, by omega, hv⟩
   case measure => show l.length - (((i + 1 : Nat) : Int)).toNat < l.length - ((i : Int)).toNat; omega
  refine xG (.bool false) rfl (ex_lss rfl rfl rfl (decide_eq_false hb13)) ?_
  simp only [zP, po]
  refine wK k12 (cF rfl ?_)
  refine xE (tX ?_)
  refine tX (bH ?_)
  refine tK k8 (sK fun _ k19 => ?_)
  refine rL (xA (.bool true) rfl ?_)
  simp only [zP, po]
  refine wK k19 (rR ?_)
  refine bR rfl rfl (⟨rfl, (hv.sub (List.Sublist.cons _ (List.Sublist.cons _ (List.Sublist.refl _))))⟩)
theorem sameR_of {B : Base} {k : Int} {s : List UInt8} {n : Int} {l : List Rp} (hl : l.length ≤ 1000000) (h : ∀ x ∈ l, SameR B x) : SameR B (.mk k s n l) := fun H w cs cs' h1 h2 hv => by
 simp only [RpAt] at h1 h2
 obtain ⟨v, xs, rfl, ⟨a, c, rfl, -, hr⟩, hx⟩ := h1
 obtain ⟨v', xs', rfl, ⟨a', c', rfl, -, hr'⟩, hx'⟩ := h2
 exact refSameRp0 B H w k s n l a a' c c' xs xs' hr hr' hx hx' hl h hv
theorem sameR_leaf {B : Base} {k : Int} {s : List UInt8} {n : Int} : SameR B (.mk k s n []) := sameR_of (Nat.zero_le _) fun x h => by cases h
theorem sameR_strs {B : Base} {l : List (List UInt8)} (hl : l.length ≤ 1000000) : SameR B (rStrs l) := sameR_of (by rw [List.length_map]; exact hl) fun x h => by
 obtain ⟨y, -, rfl⟩ := List.mem_map.1 h
 exact sameR_leaf
theorem c7callable11 : Callable Tryz.prog 11 := ⟨_, Tryz.func11, by kernel_rfl, by kernel_rfl⟩
set_option maxHeartbeats 8000000 in
theorem lawDo24 (B : Base) (H : List Res) (w : World) (v t m s p wb : Nat) (va : Option Addr) (vc : Nat) (sv : Value) (clk : Int) (es : List (List UInt8 × Value)) (M : List (List UInt8 × Ver)) (hM : VM B es M) (hO : OkM M) (wa2 : Option Addr) (wc2 : Nat) (name : List UInt8) (args : List (List UInt8)) (hrw : RdV B [] wa2 (textCells (name :: args))) (hokw : SliceOk wa2 (args.length + 1) wc2) (hma : args.length ≤ 900) (hnm : name ∈ movesNames) (hxl : ∀ x ∈ args, x.length ≤ 9223372036854775807) (hN : NumB B) (hv : Inv B (Res.cell v [.iface 62 (.pointer (some ⟨t, 0, none⟩))] 39 :: txR t m s p wb va vc sv clk es :: H) w) :
  Calls Tryz.prog 8 #[.pointer (some ⟨v, 0, none⟩), .slice wa2 (args.length + 1) wc2] w fun e w' => ∃ C es' M' r cs, B.Le C ∧ e = .returned (.agg cs.toArray) ∧ RpAt C r cs ∧ VM C es' M' ∧ OkM M' ∧ ((CountBad name args.length ∧ M' = M ∧ IsF r) ∨ DoR M clk name args M' r) ∧ Inv C (Res.cell v [.iface 62 (.pointer (some ⟨t, 0, none⟩))] 39 :: txR t m s p wb va vc sv clk es' :: H) w' := by
 refine cW Tryz.func8 rfl Tryz.ntmps8 ?_
 simp only [al]
 refine sK fun _ k1 => ?_
 obtain ⟨a3, c3, ha3, ok3, hr3⟩ := sliced_fromV 1 hokw hrw (textCells_len _) (show 1 ≤ args.length + 1 by omega) (by decide)
 rw [Nat.mul_one, text_drop] at hr3
 have hr3 : RdV B [] a3 (textCells args) := hr3
 have ok3 : SliceOk a3 args.length c3 := ok3
 obtain ⟨wb0, wo, had, hrdn⟩ := text_reads hrw (show (name :: args)[0]? = some name from rfl)
 subst had
 refine rL (sl_alloc tV (wn rfl) rfl hv c7al28 (fun b2 w3 hv => ?_))
 simp only [zP, po]
 refine wK k1 (sK fun _ k4 => ?_)
 refine rT mixed (fun az wz => ∃ (C : Base) (es' : List (List UInt8 × Value)) (M' : List (List UInt8 × Ver)) (r : Rp) (rk : Int) (rs : List UInt8) (rn : Int) (rv : Value) (b9 : Nat), (B.Le C) ∧ (RpAt C r (rpCells rk rs rn rv)) ∧ (VM C es' M') ∧ (OkM M') ∧ (((CountBad name args.length ∧ M' = M ∧ IsF r) ∨ DoR M clk name args M' r)) ∧ az = { tmps := #[.pointer (some ⟨v, 0, none⟩), .slice (some ⟨wb0, wo, none⟩) (args.length + 1) wc2, undef, undef, .pointer (some ⟨b2, 0, none⟩), .pointer (some ⟨b9, 0, none⟩), .bool true, .tuple #[.agg #[.int .i64 rk, .string ⟨rs.toArray⟩, .int .i64 rn, rv], .bool true], .pointer (some ⟨v, 0, none⟩), .slice (some ⟨wb0, wo, none⟩) (args.length + 1) wc2, .pointer (some ⟨wb0, wo + 0, none⟩), .string ⟨name.toArray⟩, .slice (some ⟨wb0, wo, none⟩) (args.length + 1) wc2, .slice a3 args.length c3, .tuple #[.agg #[.int .i64 rk, .string ⟨rs.toArray⟩, .int .i64 rn, rv], .bool true], .agg #[.int .i64 rk, .string ⟨rs.toArray⟩, .int .i64 rn, rv], .bool true, undef], defers := [] } ∧ Inv C (Res.cell b9 [.int .i64 rk, .string ⟨rs.toArray⟩, .int .i64 rn, rv] 28 :: Res.cell v [.iface 62 (.pointer (some ⟨t, 0, none⟩))] 39 :: txR t m s p wb va vc sv clk es' :: Res.cell b2 [.int .i64 0, .string ⟨([] : List UInt8).toArray⟩, .int .i64 0, .slice none 0 0] 28 :: H) wz) [6, 10, 11] [0,1,2,3,4,5] [7,8,9,10,11,12] [6,7,8,9,11,12] 6 10 18 rfl (by kernel_rfl) hv ?_ ?_
 ·intro R2 l1 l2 hR2 hl1 hl2
  simp only [qm, opAt]
  refine tG (.pointer (some ⟨v, 0, none⟩)) rfl (ex_move rfl rfl) (tG (.slice (some ⟨wb0, wo, none⟩) (args.length + 1) wc2) rfl (ex_move rfl rfl) ?_)
  simp only [zP, po]
  refine tG (.pointer (some ⟨wb0, wo + 0, none⟩)) rfl (ex_index rfl rfl rfl (run_idx1 (k := 0) Tryz.underlying22 s9es22 (by omega))) (tF (.string ⟨name.toArray⟩) rfl (fun hv => ex_load rfl rfl (run_load1 s9na9 (hrdn _ _ _ (Base.Le.refl _) no_res hv 0 _ rfl))) fun f5 hf5 => ?_)
  simp only [zP, po]
  refine tG (.slice (some ⟨wb0, wo, none⟩) (args.length + 1) wc2) rfl (ex_move rfl rfl) (tG (.slice a3 args.length c3) rfl (ex_slice (lo' := some (.int .i64 ((1 : Nat) : Int))) rfl rfl (congrArg some rfl) rfl rfl ((run_fromAny Tryz.underlying22 s9es22 (by omega)).trans (by rw [ha3]; rfl))) ?_)
  simp only [zP, po]
  refine tB ?_ ?_
  ·rw [hl1]; clear hl1 hl2
   simp only [qm, opAt]
   refine dS rfl fun w6 hv => ?_
   replace hv := hv.front 2 rfl
   simp only [List.eraseIdx_cons_succ, List.eraseIdx_cons_zero] at hv
   replace hv := hv.front 2 rfl
   simp only [List.eraseIdx_cons_succ, List.eraseIdx_cons_zero] at hv
   refine mC c7callable11 rfl ((csetDoD B _ _ v t m s p wb va vc sv clk es M hM hO a3 c3 args hr3 ok3 (by omega) name hnm hxl hN hv).mono ?_) rfl
   rintro e w7 ⟨C, es', M', r, cs, hC, rfl, hrp, hM', hO', hrel, hv⟩
   obtain ⟨rk, rs, rn, rv, rfl⟩ := rp_parts hrp
   refine ⟨_, rfl, dV hv (fK rfl fN) ?_⟩
   refine dM (.tuple #[.agg #[.int .i64 rk, .string ⟨rs.toArray⟩, .int .i64 rn, rv], .bool true]) rfl (dG (.agg #[.int .i64 rk, .string ⟨rs.toArray⟩, .int .i64 rn, rv]) rfl (ex_extract rfl rfl rfl) ?_)
   simp only [zP, po]
   refine dG (.bool true) rfl (ex_extract rfl rfl rfl) (dS rfl fun w8 hv => ?_)
   refine mem_alloc rfl rfl hv c7al28 (fun b9 w10 hv => ?_)
   refine dV hv (fC (fun ww hv => hf5 ww (ex_load rfl rfl (run_load1 s9na9 (hrdn _ _ _ hC no_res hv 0 _ rfl)))) fN) (dS rfl fun w11 hv => ?_)
   refine mS 0 rfl hv rssz28 rfl (by exact ⟨rfl, rfl, rfl, hrp.lv.2, trivial⟩) (fun w12 hv => ?_)
   simp only [zO, sp] at hv
   refine dV hv (fK rfl fN) ?_
   simp only [zP, po]
   refine dA (.bool true) rfl (dE fun wz hv => ?_)
   simp only [zP, po]
   exact hR2 _ _ ⟨C, es', M', r, rk, rs, rn, rv, b9, hC, hrp, hM', hO', hrel, rfl, ((((hv.front 3 rfl).front 3 rfl).front 3 rfl).front 3 rfl)⟩
  rw [hl2]; clear hl1 hl2
  simp only [qm, opAt]
  refine dS rfl fun w13 hv => mem_alloc rfl rfl hv c7al28 (fun b14 w15 hv => ?_)
  refine dV hv (fC (fun ww hv => hf5 ww (ex_load rfl rfl (run_load1 s9na9 (hrdn _ _ _ (Base.Le.refl _) no_res hv 0 _ rfl)))) fN) (dS rfl fun w16 hv => ?_)
  replace hv := hv.front 3 rfl
  simp only [List.eraseIdx_cons_succ, List.eraseIdx_cons_zero] at hv
  replace hv := hv.front 3 rfl
  simp only [List.eraseIdx_cons_succ, List.eraseIdx_cons_zero] at hv
  refine mC c7callable11 rfl ((csetDoD B _ _ v t m s p wb va vc sv clk es M hM hO a3 c3 args hr3 ok3 (by omega) name hnm hxl hN hv).mono ?_) rfl
  rintro e w17 ⟨C, es', M', r, cs, hC, rfl, hrp, hM', hO', hrel, hv⟩
  obtain ⟨rk, rs, rn, rv, rfl⟩ := rp_parts hrp
  refine ⟨_, rfl, dV hv (fK rfl fN) ?_⟩
  refine dM (.tuple #[.agg #[.int .i64 rk, .string ⟨rs.toArray⟩, .int .i64 rn, rv], .bool true]) rfl ?_
  simp only [zP, po]
  refine dG (.agg #[.int .i64 rk, .string ⟨rs.toArray⟩, .int .i64 rn, rv]) rfl (ex_extract rfl rfl rfl) (dG (.bool true) rfl (ex_extract rfl rfl rfl) ?_)
  refine dS rfl fun w18 hv => mS 2 rfl hv rssz28 rfl (by exact ⟨rfl, rfl, rfl, hrp.lv.2, trivial⟩) (fun w19 hv => ?_)
  simp only [zS, zO, sp] at hv
  refine dV hv (fK rfl fN) ?_
  simp only [zP, po]
  refine dA (.bool true) rfl (dE fun wz hv => ?_)
  simp only [zP, po]
  exact hR2 _ _ ⟨C, es', M', r, rk, rs, rn, rv, b14, hC, hrp, hM', hO', hrel, rfl, ((((hv.front 3 rfl).front 2 rfl).front 2 rfl).front 3 rfl)⟩
 rintro _ w20 ⟨C, es', M', r, rk, rs, rn, rv, b9, hC, hrp, hM', hO', hrel, rfl, hv⟩
 refine tK k4 (sK fun _ k21 => ?_)
 refine rL (xL (.agg #[.int .i64 rk, .string ⟨rs.toArray⟩, .int .i64 rn, rv]) rfl (run_load_mid (pre := []) (mid := [.int .i64 rk, .string ⟨rs.toArray⟩, .int .i64 rn, rv]) (post := []) rswd28 (show Blk _ b9 ([] ++ [.int .i64 rk, .string ⟨rs.toArray⟩, .int .i64 rn, rv] ++ []) _ from hv.get 0 rfl) rfl) ?_)
 refine xS 3 rfl hv rssz28 rfl (by exact ⟨rfl, rfl, rfl, hrp.lv.2, trivial⟩) (fun w22 hv => ?_)
 simp only [zS, zO, sp] at hv
 simp only [zP, po]
 refine wK k21 (rR ?_)
 refine bodyPost_ret (res_cell1 rfl rfl (run_load_mid (pre := []) (mid := [.int .i64 rk, .string ⟨rs.toArray⟩, .int .i64 rn, rv]) (post := []) rswd28 (show Blk _ b2 ([] ++ [.int .i64 rk, .string ⟨rs.toArray⟩, .int .i64 rn, rv] ++ []) _ from hv.get 3 rfl) rfl)) rfl (⟨C, es', M', r, _, hC, rfl, hrp, hM', hO', hrel, (((hv.front 2 rfl).front 2 rfl).sub (List.Sublist.cons_cons _ (List.Sublist.cons_cons _ (List.Sublist.cons _ (List.Sublist.cons _ (List.Sublist.refl _))))))⟩)
end Go.Proofs.YtoljdfjnannakaaGreatDoor
/- CsetMoves: what the commands do to sets; plain law. -/
namespace Go.Proofs.YtoljdfjnannakaaGreatDoor
open Go.RowKit Go.Pm
def setF (f : List UInt8 → List (List UInt8)) (k : List UInt8) (s : List (List UInt8)) : List UInt8 → List (List UInt8) := fun k' => if k = k' then s else f k'
def SeesS (M : List (List UInt8 × Ver)) (f : List UInt8 → List (List UInt8)) : Prop := ∀ k, SortedT (f k) ∧ ((f k = [] ∧ DeadM M 0 k) ∨ (f k ≠ [] ∧ lookA M k = some ⟨0, false, 0, setV (f k)⟩))
section
variable {M M' : List (List UInt8 × Ver)} {f : List UInt8 → List (List UInt8)} {k l x : List UInt8} {out s : List (List UInt8)} {y : Ver} {ec : Int} {r : Rp}
theorem SeesS.nil : SeesS [] fun _ => [] := fun k => ⟨List.Pairwise.nil, .inl ⟨rfl, fun y h => by cases h⟩⟩
theorem SeesS.of_ (h : SeesS M f) (ho : OfI M 0 k 4 y ec) : ec = 0 ∧ y.val.texts = f k ∧ y.expire = 0 := by
 rcases h k with ⟨-, ⟨h1, h2⟩ | ⟨h1, h2⟩⟩
 ·rcases ho with ⟨h3, rfl, -⟩ | ⟨-, -, z, h3, h4, -⟩ | ⟨-, h3, h4, -⟩
  ·exact ⟨h3, by rw [h1]; rfl, rfl⟩
  ·rw [h2 z h3] at h4; cases h4
  rw [h2 y h3] at h4; cases h4
 rcases ho with ⟨-, -, h3⟩ | ⟨-, -, z, h3, -, h5⟩ | ⟨h0, h3, -, -⟩
 ·have := h3 _ h2; cases this
 ·rw [h2] at h3; cases h3; exact absurd rfl h5
 rw [h2] at h3; cases h3; exact ⟨h0, rfl, rfl⟩
theorem SeesS.keep (h : SeesS M f) (hk : k.length ≤ 256) (hs : SetOk out) {e : Int} (he : e = 0) (ho : KeepI M 0 k (setV out) e ec M') : ec = 0 ∧ SeesS M' (setF f k out) := by
 subst he
 have hso := (setOk_iff.1 hs).2.2
 have hfull : out ≠ [] → FullV (setV out) := fun h9 => .inr (by have := List.length_pos_iff.2 h9; show 0 < 0 + out.length + 0; omega)
 have hnot : ¬ FullV (setV out) → out = [] := fun h9 => Classical.byContradiction fun h8 => h9 (hfull h8)
 have hne : FullV (setV out) → out ≠ [] := by
  rintro (h9 | h9) rfl
  ·exact absurd h9 (by decide)
  exact absurd h9 (by decide)
 have other : ∀ (v : Ver) k', k ≠ k' → (SortedT (setF f k out k') ∧ ((setF f k out k' = [] ∧ DeadM (updA M k v) 0 k') ∨ (setF f k out k' ≠ [] ∧ lookA (updA M k v) k' = some ⟨0, false, 0, setV (setF f k out k')⟩))) := by
  intro v k' hn
  have e1 : setF f k out k' = f k' := if_neg hn
  have e2 : lookA (updA M k v) k' = lookA M k' := by rw [look_upd, if_neg hn]
  rw [e1, e2]
  unfold DeadM
  rw [e2]
  exact h k'
 rcases ho with ⟨h1, -, h3, rfl⟩ | ⟨h1, h2, -⟩ | ⟨h1, h2, h3, rfl⟩ | ⟨h1, -, ⟨-, h4, rfl⟩ | ⟨h4, -⟩⟩
 ·refine ⟨h3, fun k' => ?_⟩
  by_cases e : k = k'
  ·subst e
   have e1 : setF f k out k = out := if_pos rfl
   rw [e1, look_upd, if_pos rfl]
   exact ⟨hso, .inr ⟨hne h1, rfl⟩⟩
  exact other _ _ e
 ·have h9 := hne h1
  exact absurd ⟨hk, .inr (.inr (.inr (.inl ⟨rfl, List.length_pos_iff.2 h9, hs, rfl, rfl, rfl⟩))), Int.le_refl _, by decide⟩ h2
 ·obtain rfl := hnot h1
  refine ⟨h3, fun k' => ?_⟩
  by_cases e : k = k'
  ·subst e
   have e1 : setF f k [] k = [] := if_pos rfl
   rw [e1]
   exact ⟨List.Pairwise.nil, .inl ⟨rfl, h2⟩⟩
  have e1 : setF f k [] k' = f k' := if_neg e
  rw [e1]; exact h k'
 ·obtain rfl := hnot h1
  refine ⟨h4, fun k' => ?_⟩
  by_cases e : k = k'
  ·subst e
   have e1 : setF f k [] k = [] := if_pos rfl
   rw [e1]
   refine ⟨List.Pairwise.nil, .inl ⟨rfl, fun y hy => ?_⟩⟩
   rw [look_upd, if_pos rfl] at hy; cases hy; rfl
  exact other _ _ e
 omega
def BndS (f : List UInt8 → List (List UInt8)) (n : Nat) : Prop := ∀ k, (f k).length ≤ n ∧ ∀ x ∈ f k, x.length ≤ 300
theorem BndS.set {n : Nat} (h : BndS f n) (hs : s.length ≤ n) (hx : ∀ x ∈ s, x.length ≤ 300) : BndS (setF f k s) n := fun k' => by
 unfold setF
 split
 ·exact ⟨hs, hx⟩
 exact h k'
theorem ok_of_bnd (h1 : SortedT s) (h2 : s.length ≤ 512) (h3 : ∀ x ∈ s, x.length ≤ 300) : SetOk s := setOk_iff.2 ⟨h2, fun x hx => by have := h3 x hx; omega, h1⟩
theorem less_self (x : List UInt8) : Op.bytesLess x x = false := by
 rw [Go.Proofs.bytesLess_eq]; exact decide_eq_false (fun h => absurd h (List.lt_irrefl x))
theorem filter_split {α : Type} (p : α → Bool) : ∀ l : List α, l.length = (l.filter p).length + (l.filter fun x => !p x).length
 | [] => rfl
 | a :: l => by
  have := filter_split p l
  cases h : p a <;> simp [h] <;> omega
theorem sorted_filter {p : List UInt8 → Bool} (h : SortedT s) : SortedT (s.filter p) := h.sublist List.filter_sublist
theorem one_len (h : SortedT s) (hx : ∀ z ∈ s, z = x) : s.length ≤ 1 := by
 match s, h, hx with
 | [], _, _ => exact Nat.zero_le _
 | [_], _, _ => exact Nat.le_refl _
 | a :: b :: s, h, hx =>
  have h1 := (List.pairwise_cons.1 h).1 b List.mem_cons_self
  rw [hx a List.mem_cons_self, hx b (List.mem_cons_of_mem _ List.mem_cons_self), less_self] at h1
  cases h1
theorem join_len {j : List (List UInt8)} (hs : SortedT s) (h : JoinS s [x] j) : j.length ≤ s.length + 1 := by
 have h1 := filter_split (fun z => decide (z ∈ s)) j
 have h2 : (j.filter fun z => decide (z ∈ s)) = s := sorted_ext (sorted_filter h.1) hs fun z => by
  rw [List.mem_filter, h.2]
  exact ⟨fun h9 => of_decide_eq_true h9.2, fun h9 => ⟨.inl h9, decide_eq_true h9⟩⟩
 have h3 : (j.filter fun z => !decide (z ∈ s)).length ≤ 1 := one_len (x := x) (sorted_filter h.1) fun z hz => by
  obtain ⟨h4, h5⟩ := List.mem_filter.1 hz
  rcases (h.2 z).1 h4 with h6 | h6
  ·rw [decide_eq_true h6] at h5; cases h5
  exact List.mem_singleton.1 h6
 rw [h2] at h1
 omega
theorem add_of {n : Int} (h : AddR s [x] out n ec) (hs : SortedT s) (hx : x.length ≤ 300) (hl : s.length ≤ 100) : ec = 0 ∧ JoinS s [x] out ∧ n = (out.length : Int) - s.length := by
 rcases h with ⟨-, -, -, z, h1, h2⟩ | ⟨-, j, hj, ⟨-, -, -, h2⟩ | ⟨h1, -, rfl, h2⟩⟩
 ·rw [List.mem_singleton.1 h1] at h2; omega
 ·have := join_len hs hj; omega
 exact ⟨h1, hj, h2⟩
theorem join_short {j : List (List UInt8)} (h : JoinS s [x] j) (hs : ∀ z ∈ s, z.length ≤ 300) (hx : x.length ≤ 300) : ∀ z ∈ j, z.length ≤ 300 := fun z hz => by
 rcases (h.2 z).1 hz with h1 | h1
 ·exact hs z h1
 rw [List.mem_singleton.1 h1]; exact hx
theorem join_same {j : List (List UInt8)} (hs : SortedT s) (h : JoinS s [x] j) (hn : ¬ 0 < (j.length : Int) - s.length) : j = s := by
 have h1 := filter_split (fun z => decide (z ∈ s)) j
 have h2 : (j.filter fun z => decide (z ∈ s)) = s := sorted_ext (sorted_filter h.1) hs fun z => by
  rw [List.mem_filter, h.2]
  exact ⟨fun h9 => of_decide_eq_true h9.2, fun h9 => ⟨.inl h9, decide_eq_true h9⟩⟩
 rw [h2] at h1
 have h3 : (j.filter fun z => !decide (z ∈ s)) = [] := List.eq_nil_of_length_eq_zero (by omega)
 refine sorted_ext h.1 hs fun z => ⟨fun hz => Classical.byContradiction fun h9 => ?_, fun hz => (h.2 z).2 (.inl hz)⟩
 have : z ∈ (j.filter fun z => !decide (z ∈ s)) := List.mem_filter.2 ⟨hz, by rw [decide_eq_false h9]; rfl⟩
 rw [h3] at this; cases this
theorem SeesS.self (h : SeesS M f) (hs : s = f k) : SeesS M (setF f k s) := fun k' => by
 have : setF f k s k' = f k' := by
  unfold setF; split
  ·rename_i e; rw [hs, e]
  rfl
 rw [this]; exact h k'
theorem no_bad {name : List UInt8} {n : Nat} {P Q : Prop} (h : (CountBad name n ∧ P) ∨ Q) (hb : ¬ CountBad name n) : Q := h.elim (fun h9 => absurd h9.1 hb) id
theorem bad_no {name : List UInt8} {n : Nat} (h : (csetRows.any fun x => decide (x.1 = name) && (decide ((n : Int) < x.2.1) || (decide (0 ≤ x.2.2) && decide (x.2.2 < (n : Int))))) = false) : ¬ CountBad name n := by
 rintro ⟨x, hx, h1, h2⟩
 have : (csetRows.any fun x => decide (x.1 = name) && (decide ((n : Int) < x.2.1) || (decide (0 ≤ x.2.2) && decide (x.2.2 < (n : Int))))) = true := List.any_eq_true.2 ⟨x, hx, by
  rw [decide_eq_true h1, Bool.true_and, Bool.or_eq_true]
  exact h2.imp decide_eq_true fun h9 => by rw [decide_eq_true h9.1, decide_eq_true h9.2]; rfl⟩
 rw [h] at this; cases this
theorem doneR0 {r0 : Rp} (h : DoneR ec r0 r) (he : ec = 0) : r = r0 := h.elim (fun h9 => h9.2) fun h9 => absurd he h9.1
end
end Go.Proofs.YtoljdfjnannakaaGreatDoor
/- CsetMoves: each command's law; plain. -/
namespace Go.Proofs.YtoljdfjnannakaaGreatDoor
open Go.RowKit Go.Pm
section
variable {M M' : List (List UInt8 × Ver)} {f : List UInt8 → List (List UInt8)} {k l x a b : List UInt8} {out s : List (List UInt8)} {y : Ver} {ec : Int} {r : Rp}
abbrev DoX (M : List (List UInt8 × Ver)) (name : List UInt8) (args : List (List UInt8)) (M' : List (List UInt8 × Ver)) (r : Rp) : Prop := (CountBad name args.length ∧ M' = M ∧ IsF r) ∨ DoR M 0 name args M' r
theorem change_of (h : SeesS M f) (hk : k.length ≤ 256) {xs : List (List UInt8)} (hc : ChangeR M 0 k true xs M' r) (hx : ∀ out n e, AddR (f k) xs out n e → e = 0 ∧ JoinS (f k) xs out ∧ n = (out.length : Int) - (f k).length ∧ SetOk out ∧ (¬ 0 < n → out = f k)) : ∃ s, SeesS M' (setF f k s) ∧ JoinS (f k) xs s ∧ r = rInt ((s.length : Int) - (f k).length) := by
 obtain ⟨y, ec, ho, h2⟩ := hc
 obtain ⟨rfl, e2, e3⟩ := h.of_ ho
 rcases h2 with ⟨h3, -⟩ | ⟨-, out, n, ec2, ha, h3⟩
 ·exact absurd rfl h3
 rw [if_pos rfl, e2] at ha
 obtain ⟨rfl, hj, rfl, hok, hsame⟩ := hx _ _ _ ha
 rcases h3 with ⟨-, -, ec3, hkp, hd⟩ | ⟨h3, rfl, hd⟩
 ·obtain ⟨rfl, hM⟩ := h.keep hk hok e3 hkp
  exact ⟨out, hM, hj, doneR0 hd rfl⟩
 exact ⟨out, h.self (hsame fun h9 => h3 ⟨rfl, h9⟩), hj, doneR0 hd rfl⟩
theorem add_one (h : SeesS M f) (hb : BndS f 100) (hx : x.length ≤ 300) : ∀ out n e, AddR (f k) [x] out n e → e = 0 ∧ JoinS (f k) [x] out ∧ n = (out.length : Int) - (f k).length ∧ SetOk out ∧ (¬ 0 < n → out = f k) := fun out n e ha => by
 obtain ⟨h1, h2, h3⟩ := add_of ha (h k).1 hx (hb k).1
 have := join_len (h k).1 h2
 have := (hb k).1
 exact ⟨h1, h2, h3, ok_of_bnd h2.1 (by omega) (join_short h2 (hb k).2 hx), fun h9 => join_same (h k).1 h2 (by omega)⟩
theorem cmd_add (h : SeesS M f) (hb : BndS f 100) (hk : k.length ≤ 256) (hx : x.length ≤ 300) (hd : DoX M nSADD [k, x] M' r) : ∃ s, SeesS M' (setF f k s) ∧ JoinS (f k) [x] s ∧ r = rInt ((s.length : Int) - (f k).length) := by
 have hd := no_bad hd (bad_no rfl)
 rcases hd with ⟨-, k', h1, h2⟩ | ⟨hn, -⟩ | ⟨hn, -⟩ | ⟨hn, -⟩ | ⟨hn, -⟩ | ⟨hn, -⟩
 ·cases h1
  exact change_of h hk h2 (add_one h hb hx)
 all_goals exact absurd hn (by decide)
theorem cmd_members (h : SeesS M f) (hd : DoX M nSMEM [k] M' r) : M' = M ∧ r = rStrs (f k) := by
 have hd := no_bad hd (bad_no rfl)
 rcases hd with ⟨hn, -⟩ | ⟨-, hM, k', h1, y, ec, ho, h2⟩ | ⟨hn, -⟩ | ⟨hn, -⟩ | ⟨hn, -⟩ | ⟨hn, -⟩
 rotate_left
 ·cases h1
  obtain ⟨rfl, e2, -⟩ := h.of_ ho
  rcases h2 with ⟨h3, -⟩ | ⟨-, ⟨h3, -⟩ | ⟨h3, -⟩ | ⟨-, h3⟩ | ⟨-, -, h3, -⟩⟩
  ·exact absurd rfl h3
  ·exact absurd h3 (by decide)
  ·exact absurd h3 (by decide)
  ·exact ⟨hM, by rw [h3, e2]⟩
  exact absurd rfl h3
 all_goals exact absurd hn (by decide)
theorem cmd_ism (h : SeesS M f) (hd : DoX M nSISM [k, x] M' r) : M' = M ∧ r = rInt (if decide (x ∈ f k) then 1 else 0) := by
 have hd := no_bad hd (bad_no rfl)
 rcases hd with ⟨hn, -⟩ | ⟨-, hM, k', h1, y, ec, ho, h2⟩ | ⟨hn, -⟩ | ⟨hn, -⟩ | ⟨hn, -⟩ | ⟨hn, -⟩
 rotate_left
 ·cases h1
  obtain ⟨rfl, e2, -⟩ := h.of_ ho
  rcases h2 with ⟨h3, -⟩ | ⟨-, ⟨h3, -⟩ | ⟨-, z, h3, h4⟩ | ⟨h3, -⟩ | ⟨-, h3, -⟩⟩
  ·exact absurd rfl h3
  ·exact absurd h3 (by decide)
  ·cases h3
   exact ⟨hM, by rw [h4, e2]⟩
  ·exact absurd h3 (by decide)
  exact absurd rfl h3
 all_goals exact absurd hn (by decide)
theorem sets_two (h : SeesS M f) {ss : List (List (List UInt8))} (hs : SetsR M 0 [a, b] ss ec) : ec = 0 ∧ ss = [f a, f b] := by
 rcases hs with ⟨h1, h2, h3⟩ | ⟨h1, -, k, -, y, ho⟩
 ·refine ⟨h1, ?_⟩
  match ss, h2 with
  | [s, t], _ =>
   obtain ⟨y1, o1, e1⟩ := h3 0 a s rfl rfl
   obtain ⟨y2, o2, e2⟩ := h3 1 b t rfl rfl
   rw [e1, e2, (h.of_ o1).2.1, (h.of_ o2).2.1]
 exact absurd (h.of_ ho).1 h1
theorem diff_mem {z : List UInt8} {s t : List (List UInt8)} : z ∈ diffS s [t] ↔ z ∈ s ∧ z ∉ t := by
 unfold diffS
 rw [List.mem_filter]
 simp
theorem inter_mem {z : List UInt8} {s t : List (List UInt8)} : z ∈ interS s [t] ↔ z ∈ s ∧ z ∈ t := by
 unfold interS
 rw [List.mem_filter]
 simp
theorem diff_sub {t : List (List UInt8)} : (diffS s [t]).length ≤ s.length := List.length_filter_le _ _
theorem itoa_two : ([50] : List UInt8) = Lib.itoa 2 := by
 unfold Lib.itoa
 rw [if_neg (by decide), show (2 : Int).toNat = 2 from rfl]
 unfold Lib.decDigits
 simp
theorem cmd_inter (h : SeesS M f) (hd : DoX M nSICARD [[50], a, b] M' r) : M' = M ∧ r = rInt ((interS (f a) [f b]).length : Int) := by
 have hd := no_bad hd (bad_no rfl)
 rcases hd with ⟨hn, -⟩ | ⟨hn, -⟩ | ⟨hn, -⟩ | ⟨hn, -⟩ | ⟨-, hM, k', h1, h2⟩ | ⟨hn, -⟩
 rotate_left 4
 ·cases h1
  obtain ⟨ss, ec, hs, h3⟩ := h2 2 (.inl ⟨rfl, by decide, by decide, itoa_two⟩) rfl (by decide)
  obtain ⟨rfl, rfl⟩ := sets_two h hs
  rcases h3 with ⟨h3, -⟩ | ⟨-, q, hq, h3⟩
  ·exact absurd rfl h3
  cases hq; exact ⟨hM, h3⟩
 all_goals exact absurd hn (by decide)
theorem cmd_diffs (h : SeesS M f) (hb : BndS f 100) (hk : k.length ≤ 256) (hd : DoX M nSDIFFS [k, a, b] M' r) : SeesS M' (setF f k (diffS (f a) [f b])) ∧ r = rInt ((diffS (f a) [f b]).length : Int) := by
 have hd := no_bad hd (bad_no rfl)
 rcases hd with ⟨hn, -⟩ | ⟨hn, -⟩ | ⟨hn, -⟩ | ⟨-, k', out, ec, h1, ⟨ss, e1, hs, h2⟩, h3⟩ | ⟨hn, -⟩ | ⟨hn, -⟩
 rotate_left 3
 ·cases h1
  obtain ⟨rfl, rfl⟩ := sets_two h hs
  rcases h2 with ⟨h2, -⟩ | ⟨-, ⟨-, rfl, q, hq, ho⟩ | ⟨h2, -⟩ | ⟨h2, -⟩⟩
  ·exact absurd rfl h2
  ·cases hq
   replace ho : out = diffS (f a) [f b] := ho
   subst ho
   rcases h3 with ⟨h3, -⟩ | ⟨-, e2, hkp, hd⟩
   ·exact absurd rfl h3
   have hl := (hb a).1
   have hl2 := diff_sub (s := f a) (t := f b)
   obtain ⟨rfl, hM⟩ := h.keep hk (ok_of_bnd (sorted_filter (h a).1) (by show (diffS (f a) [f b]).length ≤ 512; omega) fun z hz => (hb a).2 z ((List.mem_filter.1 hz).1)) rfl hkp
   exact ⟨hM, doneR0 hd rfl⟩
  ·exact absurd rfl h2
  exact absurd rfl h2
 all_goals exact absurd hn (by decide)
theorem union_len {s t j : List (List UInt8)} (hs : SortedT s) (ht : SortedT t) (h : JoinAll [s, t] j) : j.length + (interS s [t]).length = s.length + t.length := by
 have hm : ∀ z, z ∈ j ↔ z ∈ s ∨ z ∈ t := fun z => by rw [h.2]; simp
 have h1 := filter_split (fun z => decide (z ∈ s)) j
 have h2 := filter_split (fun z => decide (z ∈ s)) t
 have e1 : (j.filter fun z => decide (z ∈ s)) = s := sorted_ext (sorted_filter h.1) hs fun z => by
  rw [List.mem_filter, hm]
  exact ⟨fun h9 => of_decide_eq_true h9.2, fun h9 => ⟨.inl h9, decide_eq_true h9⟩⟩
 have e2 : (j.filter fun z => !decide (z ∈ s)) = t.filter fun z => !decide (z ∈ s) := sorted_ext (sorted_filter h.1) (sorted_filter ht) fun z => by
  rw [List.mem_filter, List.mem_filter, hm]
  refine ⟨fun h9 => ⟨h9.1.resolve_left fun h8 => ?_, h9.2⟩, fun h9 => ⟨.inr h9.1, h9.2⟩⟩
  have h7 := h9.2
  rw [decide_eq_true h8] at h7; cases h7
 have e3 : (t.filter fun z => decide (z ∈ s)) = interS s [t] := sorted_ext (sorted_filter ht) (sorted_filter hs) fun z => by
  rw [inter_mem, List.mem_filter]
  exact ⟨fun h9 => ⟨of_decide_eq_true h9.2, h9.1⟩, fun h9 => ⟨h9.2, decide_eq_true h9.1⟩⟩
 rw [e1, e2] at h1
 rw [e3] at h2
 omega
theorem diff_len {s t : List (List UInt8)} : (diffS s [t]).length + (interS s [t]).length = s.length := by
 have h1 := filter_split (fun z => decide (z ∈ t)) s
 have e1 : diffS s [t] = s.filter fun z => !decide (z ∈ t) := by unfold diffS; congr 1; funext z; simp
 have e2 : interS s [t] = s.filter fun z => decide (z ∈ t) := by unfold interS; congr 1; funext z; simp
 rw [e1, e2]; omega
theorem cmd_unions (h : SeesS M f) (hb : BndS f 100) (hk : k.length ≤ 256) (hd : DoX M nSUNIONS [k, a, b] M' r) : ∃ j, SeesS M' (setF f k j) ∧ JoinAll [f a, f b] j ∧ r = rInt (j.length : Int) := by
 have hd := no_bad hd (bad_no rfl)
 rcases hd with ⟨hn, -⟩ | ⟨hn, -⟩ | ⟨hn, -⟩ | ⟨-, k', out, ec, h1, ⟨ss, e1, hs, h2⟩, h3⟩ | ⟨hn, -⟩ | ⟨hn, -⟩
 rotate_left 3
 ·cases h1
  obtain ⟨rfl, rfl⟩ := sets_two h hs
  rcases h2 with ⟨h2, -⟩ | ⟨-, ⟨h2, -⟩ | ⟨-, h2, -⟩ | ⟨-, -, j, hj, h2⟩⟩
  ·exact absurd rfl h2
  ·exact absurd h2 (by decide)
  ·exact absurd h2 (by decide)
  have hl := union_len (h a).1 (h b).1 hj
  have h4 := (hb a).1
  have h5 := (hb b).1
  rcases h2 with ⟨-, -, h2⟩ | ⟨rfl, -, rfl⟩
  ·omega
  rcases h3 with ⟨h3, -⟩ | ⟨-, e2, hkp, hd⟩
  ·exact absurd rfl h3
  obtain ⟨rfl, hM⟩ := h.keep hk (ok_of_bnd hj.1 (by omega) fun z hz => by
   obtain ⟨s9, h8, h9⟩ := (hj.2 z).1 hz
   rcases List.mem_cons.1 h8 with rfl | h8
   ·exact (hb a).2 z h9
   rw [List.mem_singleton.1 h8] at h9; exact (hb b).2 z h9) rfl hkp
  exact ⟨out, hM, hj, doneR0 hd rfl⟩
 all_goals exact absurd hn (by decide)
theorem cmd_move (h : SeesS M f) (hb : BndS f 100) (hk : k.length ≤ 256) (hl : l.length ≤ 256) (hkl : k ≠ l) (hx : x.length ≤ 300) (hd : DoX M nSMOVE [k, l, x] M' r) :
  (x ∉ f k ∧ M' = M ∧ r = rInt 0) ∨ (x ∈ f k ∧ ∃ s, JoinS (f l) [x] s ∧ SeesS M' (setF (setF f l s) k (diffS (f k) [[x]])) ∧ r = rInt 1) := by
 have hd := no_bad hd (bad_no rfl)
 rcases hd with ⟨hn, -⟩ | ⟨hn, -⟩ | ⟨hn, -⟩ | ⟨hn, -⟩ | ⟨hn, -⟩ | ⟨-, k', l', x', h1, h2, h3, y1, e1, ho1, h4⟩
 rotate_left 5
 ·cases h1; cases h2; cases h3
  obtain ⟨rfl, t1, u1⟩ := h.of_ ho1
  rcases h4 with ⟨h4, -⟩ | ⟨-, y2, e2, ho2, h4⟩
  ·exact absurd rfl h4
  obtain ⟨rfl, t2, u2⟩ := h.of_ ho2
  rcases h4 with ⟨h4, -⟩ | ⟨-, ⟨h5, h6, h7⟩ | ⟨-, h5, out, n, e3, ha, h6⟩⟩
  ·exact absurd rfl h4
  ·rw [t1] at h5 h7
   have h5 := h5.resolve_left hkl
   exact .inl ⟨h5, h6, by rw [h7, decide_eq_false h5]; rfl⟩
  rw [t1] at h5
  rw [t2] at ha
  obtain ⟨rfl, hj, -, hok, -⟩ := add_one h hb hx _ _ _ ha
  rcases h6 with ⟨h6, -⟩ | ⟨-, M1, e4, hk1, h6⟩
  ·exact absurd rfl h6
  obtain ⟨rfl, hM1⟩ := h.keep hl hok u2 hk1
  rcases h6 with ⟨h6, -⟩ | ⟨-, e5, hk2, hd⟩
  ·exact absurd rfl h6
  rw [t1] at hk2
  have hdl := diff_sub (s := f k) (t := [x])
  have := (hb k).1
  obtain ⟨rfl, hM2⟩ := hM1.keep hk (ok_of_bnd (sorted_filter (h k).1) (by show (diffS (f k) [[x]]).length ≤ 512; omega) fun z hz => (hb k).2 z ((List.mem_filter.1 hz).1)) u1 hk2
  exact .inr ⟨h5, out, hj, hM2, doneR0 hd rfl⟩
 all_goals exact absurd hn (by decide)
theorem back_from {s j : List (List UInt8)} (hs : SortedT s) (hx : x ∈ s) (h : JoinS (diffS s [[x]]) [x] j) : j = s := sorted_ext h.1 hs fun z => by
 rw [h.2, diff_mem, List.mem_singleton]
 constructor
 ·rintro (h1 | rfl)
  ·exact h1.1
  exact hx
 intro h1
 by_cases e : z = x
 ·exact .inr e
 exact .inl ⟨h1, e⟩
theorem back_to {s j : List (List UInt8)} (hs : SortedT s) (hx : x ∉ s) (h : JoinS s [x] j) : diffS j [[x]] = s := sorted_ext (sorted_filter h.1) hs fun z => by
 rw [diff_mem, h.2, List.mem_singleton]
 constructor
 ·rintro ⟨h1, h2⟩; exact h1.resolve_right h2
 intro h1; exact ⟨.inl h1, fun e => hx (e ▸ h1)⟩
end
end Go.Proofs.YtoljdfjnannakaaGreatDoor
/- A region that draws its order, with operations that change memory and wait for none of each other: walked in every order (a tree), to one end. -/
namespace Go.Pm
open Go.RowKit
inductive Tr (α : Type) where
 | lin (is : List α)
 | fork (x : α) (t1 : Tr α) (y : α) (t2 : Tr α)
def Tr.map {α β : Type} (f : α → β) : Tr α → Tr β
 | .lin is => .lin (is.map f)
 | .fork x t1 y t2 => .fork (f x) (t1.map f) (f y) (t2.map f)
def DX (P : Program) (ops : Array Oper) (x : Nat × Oper) (G : (World → Prop) → Act → Prop) (Fl : List (Nat × (World → Prop))) (J : World → Prop) (a : Act) : Prop :=
 (Region.wanted x.2 (yielded ops a.tmps) = false ∧ G J (a.put x.2.dst undef)) ∨ (Region.wanted x.2 (yielded ops a.tmps) = true ∧
  ∀ w, J w → x.2.wp P a w (fun b w' => ∃ v, b = a.put x.2.dst v ∧ ∃ J' : World → Prop, (∀ w w', J' w → Ext w w' → J' w') ∧ J' w' ∧ FlOk ops x.1 J' Fl ∧ G J' (a.put x.2.dst v)) QF)
def DTr (P : Program) (ops : Array Oper) (mem : List Nat) (R : Act → World → Prop) : Tr (Nat × Oper) → List (Nat × (World → Prop)) → (World → Prop) → Act → Prop
 | .lin is, Fl, J, a => DW P ops mem R is Fl J a
 | .fork x t1 y t2, Fl, J, a => DX P ops x (fun J' a' => DTr P ops mem R t1 Fl J' a') Fl J a ∧ DX P ops y (fun J' a' => DTr P ops mem R t2 Fl J' a') Fl J a
def DWB (P : Program) (ops : Array Oper) (D : List (Nat × (World → Prop)) → (World → Prop) → Act → Prop) : List (Nat × Oper) → List (Nat × (World → Prop)) → (World → Prop) → Act → Prop
 | [], Fl, J, a => D Fl J a
 | x :: is, Fl, J, a =>
  (Region.wanted x.2 (yielded ops a.tmps) = false ∧ DWB P ops D is Fl J (a.put x.2.dst undef)) ∨ (Region.wanted x.2 (yielded ops a.tmps) = true ∧
  ∃ v, ((∀ w, Adds P x.2 a w v) ∧ DWB P ops D is Fl J (a.put x.2.dst v)) ∨ ∃ f : World → Prop, (∀ w, f w → Adds P x.2 a w v) ∧ (∀ w, J w → f w) ∧ DWB P ops D is ((x.1, f) :: Fl) J (a.put x.2.dst v))
def PendT (P : Program) (ops : Array Oper) (a0 : Act) (val : Nat → Value) (pre : List Nat) (Fl : List (Nat × (World → Prop))) (i : Nat) : Prop :=
 ∃ (o : Oper) (ai : Act) (L : Nat → Prop), ops[i]? = some o ∧ Tk ops L val a0 ai ∧ (∀ q, ahead ops q i = true → L q) ∧ (∀ q, L q → q ≠ i ∧ ahead ops i q = false) ∧ (∀ q, L q → q ∈ pre) ∧
  ((Region.wanted o (yielded ops ai.tmps) = false ∧ val i = undef) ∨ (Region.wanted o (yielded ops ai.tmps) = true ∧ ((∀ w, Adds P o ai w (val i)) ∨ ∃ f : World → Prop, (i, f) ∈ Fl ∧ ∀ w, f w → Adds P o ai w (val i))))
structure TI (P : Program) (ops : Array Oper) (mem : List Nat) (a0 : Act) (listed : Array Bool) (a : Act) (w : World) (pre : List Nat) (val : Nat → Value) (Fl : List (Nat × (World → Prop))) (J : World → Prop) (aS : Act) : Prop where
 lsize : listed.size = ops.size
 closed : ∀ (j : Nat) (o : Oper), ops[j]? = some o → listed.getD j false = true → ∀ k, binder o k = true → listed.getD k false = true
 tk : Tk ops (fun q => listed.getD q false = true) val a0 a
 tkS : Tk ops (· ∈ pre) val a0 aS
 st : ∀ w w', J w → Ext w w' → J w'
 inv : J w
 fl : ∀ f ∈ Fl, listed.getD f.1 false = false → ∀ w, J w → f.2 w
 sub : ∀ q, listed.getD q false = true → q ∈ pre
 memd : ∀ q, q ∈ mem → q ∈ pre → listed.getD q false = true
 pend : ∀ i, i ∈ pre → listed.getD i false = false → PendT P ops a0 val pre Fl i
section
variable {P : Program} {ops : Array Oper} {mem perm pre is : List Nat} {R : Act → World → Prop} {Q : Exit → Act → World → Prop} {a0 a aS : Act} {listed : Array Bool} {w w' : World} {val : Nat → Value} {Fl : List (Nat × (World → Prop))} {J : World → Prop} {i : Nat} {o : Oper} {K : Act → World → Prop}
theorem TI.di (I : TI P ops mem a0 listed a w pre val Fl J aS) (h : DW P ops mem R (pm ops is) Fl J aS) : DI P ops mem R a0 (pre ++ is) listed a w pre is val Fl J aS :=
 ⟨I.lsize, I.closed, I.tk, rfl, I.tkS, h, I.st, I.inv, I.fl, I.sub, I.memd, fun i hi hl => by
  obtain ⟨o, ai, L, h1, h2, h3, h4, h5, h6⟩ := I.pend i hi hl
  refine ⟨o, ai, L, h1, h2, h3, h4, h5, ?_⟩
  rcases h6 with h6 | ⟨h6, h7 | h7⟩
  ·exact .inl h6
  ·exact .inr ⟨h6, .inl h7⟩
  exact .inr ⟨h6, .inr (.inr h7)⟩⟩
theorem TI.any (I : TI P ops mem a0 listed a w pre val Fl J aS) : DI P ops mem (fun _ _ => True) a0 (pre ++ []) listed a w pre [] val Fl J aS := I.di (R := fun _ _ => True) (is := []) (fun _ _ => trivial)
theorem TI.fired (hnd : onceDst ops = true) (hfit : ∀ (j : Nat) (o : Oper) (d : Tmp), ops[j]? = some o → o.dst = some d → d < a0.tmps.size) (I : TI P ops mem a0 listed a w pre val Fl J aS) (r : Rd ops listed i o) (hip : i ∈ pre) (hx : Ext w w') :
  TI P ops mem a0 (listed.setIfInBounds i true) (a.put o.dst (val i)) w' pre val Fl J aS := by
 refine ⟨by simpa using I.lsize, r.closed, (Tk.put hnd hfit I.tk r.ho (by rw [r.lf]; decide) rfl).iff (fun q => (r.ls q).symm) (fun _ _ => rfl), I.tkS, I.st, I.st _ _ I.inv hx, fun f hf hq => I.fl f hf (r.lf2 _ hq).2, fun q hq => ?_, fun q hq h => (r.ls q).2 (.inr (I.memd q hq h)), fun q hq h => I.pend q hq (r.lf2 q h).2⟩
 rcases (r.ls q).1 hq with h | h
 ·subst h; exact hip
 exact I.sub q h
theorem TI.step (hnd : onceDst ops = true) (hfit : ∀ (j : Nat) (o : Oper) (d : Tmp), ops[j]? = some o → o.dst = some d → d < a0.tmps.size) (hsel : ∀ (j : Nat) (o : Oper), ops[j]? = some o → notSel o = true) (hlook : ∀ (i : Nat) (o : Oper), ops[i]? = some o → ∀ t ∈ o.looksAt ops, ∀ (q : Nat) (o' : Oper), ops[q]? = some o' → o'.dst = some t → q = i ∨ ahead ops q i = true ∨ ahead ops i q = true)
  (I : TI P ops mem a0 listed a w pre val Fl J aS) (hmp2 : i ∉ pre) (hpa : ∀ q ∈ pre, ahead ops i q = false) (r : Rd ops listed i o) {G : (World → Prop) → Act → Prop} (hdw : DX P ops (i, ops.getD i default) G Fl J aS)
  (hK : ∀ a' w' val' J' aS', TI P ops mem a0 (listed.setIfInBounds i true) a' w' (pre ++ [i]) val' Fl J' aS' → G J' aS' → K a' w') : wpOp P ops Q i K a w := by
 have hpb : ∀ q, q ∈ pre → q ≠ i ∧ ahead ops i q = false := fun q hq => ⟨fun e => hmp2 (e ▸ hq), hpa q hq⟩
 obtain ⟨he, hw⟩ := I.any.agr hsel hlook r aS (· ∈ pre) I.tkS (fun q hq => I.sub q (r.prT q hq)) hpb
 have hoo : ops.getD i default = o := by simp [Array.getD_eq_getD_getElem?, r.ho]
 unfold DX at hdw
 simp only [hoo] at hdw
 unfold wpOp
 rw [r.ho]
 simp only []
 suffices nx : ∀ v J' w', (∀ w w', J' w → Ext w w' → J' w') → J' w' → (∀ f ∈ Fl, ahead ops f.1 i = false → ∀ w, listed.getD f.1 false = false → J' w → f.2 w) → G J' (aS.put o.dst v) → K (a.put o.dst v) w' by
  rcases hdw with ⟨h1, h2⟩ | ⟨h1, h2⟩
  ·rw [← hw, h1]
   simp only [Bool.false_eq_true, if_false]
   exact nx undef J w I.st I.inv (fun f hf _ w hl hJ => I.fl f hf hl w hJ) h2
  rw [← hw, h1]
  simp only [if_true]
  refine .inl (Oper.wp_mono (fun a' w' ⟨v, ha, J', hst, hJ', hfl, hdw'⟩ => ?_) (wp_move he (by rw [I.tkS.size, I.tk.size]) (h2 w I.inv)))
  rw [ha]
  exact nx v J' w' hst hJ' (fun f hf ha w _ => hfl.at f hf ha w) hdw'
 intro v J' w' hst hJ' hfl hdw'
 have hval : ∀ q, q ∈ pre → val q = if q = i then v else val q := fun q hq => by rw [if_neg (hpb q hq).1]
 refine hK _ _ (fun q => if q = i then v else val q) J' (aS.put o.dst v) ⟨by simpa using I.lsize, r.closed, ?_, ?_, hst, hJ', ?_, ?_, ?_, ?_⟩ hdw'
 ·exact (Tk.put hnd hfit (I.tk.iff (fun _ => Iff.rfl) fun q hq => hval q (I.sub q hq)) r.ho (by rw [r.lf]; decide) (if_pos rfl)).iff (fun q => (r.ls q).symm) (fun _ _ => rfl)
 ·refine (Tk.put hnd hfit (I.tkS.iff (fun _ => Iff.rfl) hval) r.ho hmp2 (if_pos rfl)).iff (fun q => ?_) (fun _ _ => rfl)
  simp [or_comm]
 ·intro f hf hq
  refine fun w => hfl f hf ?_ w (r.lf2 _ hq).2
  cases ha : ahead ops f.1 i with
  | false => rfl
  | true => have h9 := (r.lf2 _ hq).2; rw [r.prT _ ha] at h9; cases h9
 ·intro q hq
  rcases (r.ls q).1 hq with h | h
  ·subst h; simp
  simp [I.sub q h]
 ·intro q hq hqp
  rcases List.mem_append.1 hqp with h | h
  ·exact (r.ls q).2 (.inr (I.memd q hq h))
  exact (r.ls q).2 (.inl (List.mem_singleton.1 h))
 intro q hq hlq
 obtain ⟨hqi, hlq⟩ := r.lf2 q hlq
 have hqp : q ∈ pre := by
  rcases List.mem_append.1 hq with h | h
  ·exact h
  exact (hqi (List.mem_singleton.1 h)).elim
 obtain ⟨o2, ai, L, h1, h2, h3, h4, h5, h6⟩ := I.pend q hqp hlq
 have hqv := hval q hqp
 refine ⟨o2, ai, L, h1, h2.iff (fun _ => Iff.rfl) (fun r hr => hval r (h5 r hr)), h3, h4, fun r hr => by simp [h5 r hr], ?_⟩
 simp only [← hqv]
 exact h6
end
theorem walkB {P : Program} {ops : Array Oper} {perm r0 : List Nat} {a0 : Act} {J : World → Prop} {D : List (Nat × (World → Prop)) → (World → Prop) → Act → Prop} (hnd : onceDst ops = true) (hfit : ∀ (j : Nat) (o : Oper) (d : Tmp), ops[j]? = some o → o.dst = some d → d < a0.tmps.size) (hno : ∀ i, ahead ops i i = false)
  (hnp : perm.Nodup) (hlt : ∀ i ∈ perm, i < ops.size) (hpo : pwOk ops [] perm = true) (hpre : ∀ i q, i ∈ perm → ahead ops q i = true → q ∈ perm) :
  ∀ (is pre : List Nat) (val : Nat → Value) (Fl : List (Nat × (World → Prop))) (aS : Act), perm = pre ++ (is ++ r0) → Pre2 P ops a0 pre val Fl J aS → DWB P ops D (pm ops is) Fl J aS →
  ∃ val' Fl' aS', Pre2 P ops a0 (pre ++ is) val' Fl' J aS' ∧ D Fl' J aS' := by
 intro is
 induction is with
 | nil => intro pre val Fl aS hp I h; exact ⟨val, Fl, aS, by rw [List.append_nil]; exact I, h⟩
 | cons i is ih =>
  intro pre val Fl aS hp I hdw
  have hip : i ∈ perm := by rw [hp]; simp
  have hi := hlt i hip
  have hp' : perm = pre ++ i :: (is ++ r0) := hp
  have hnd2 : (pre ++ i :: (is ++ r0)).Nodup := hp' ▸ hnp
  have hpo2 : pwOk ops [] (pre ++ i :: (is ++ r0)) = true := hp' ▸ hpo
  have hipre : i ∉ pre := fun h => by
   rw [List.nodup_append] at hnd2
   exact hnd2.2.2 i h i (by simp) rfl
  have hio : ops[i]? = some (ops.getD i default) := by simp [Array.getD, hi]
  have hpa : ∀ q, ahead ops q i = true → q ∈ pre := by
   intro q hq
   have hqp := hpre i q hip hq
   rw [hp'] at hqp
   rcases List.mem_append.1 hqp with h | h
   ·exact h
   rcases List.mem_cons.1 h with h | h
   ·subst h; rw [hno] at hq; cases hq
   have := (pwOk_at hpo2 q h).1
   rw [this] at hq; cases hq
  have hpb : ∀ q, q ∈ pre → q ≠ i ∧ ahead ops i q = false := by
   intro q hq
   refine ⟨fun e => hipre (e ▸ hq), ?_⟩
   obtain ⟨p1, p2, rfl⟩ := List.append_of_mem hq
   have h2 := hpo2
   rw [List.append_assoc, List.cons_append] at h2
   exact (pwOk_at h2 i (by simp)).1
  have next : ∀ v Fl', (∀ f ∈ Fl, f ∈ Fl') → (∀ f ∈ Fl', f ∈ Fl ∨ ∀ w, J w → f.2 w) → DWB P ops D (pm ops is) Fl' J (aS.put (ops.getD i default).dst v) →
    ((Region.wanted (ops.getD i default) (yielded ops aS.tmps) = false ∧ v = undef) ∨ (Region.wanted (ops.getD i default) (yielded ops aS.tmps) = true ∧
     ((∀ w, Adds P (ops.getD i default) aS w v) ∨ ∃ f : World → Prop, (i, f) ∈ Fl' ∧ ∀ w, f w → Adds P (ops.getD i default) aS w v))) →
    ∃ val' Fl' aS', Pre2 P ops a0 (pre ++ i :: is) val' Fl' J aS' ∧ D Fl' J aS' := by
   intro v Fl' hF1 hF2 hdw hob
   have hval : ∀ q, q ∈ pre → val q = if q = i then v else val q := fun q hq => by rw [if_neg (hpb q hq).1]
   have hg := ih (pre ++ [i]) (fun q => if q = i then v else val q) Fl' _ (by rw [hp]; simp) ⟨?_, ?_, ?_⟩ hdw
   ·rw [List.append_assoc] at hg; exact hg
   ·refine (Tk.put hnd hfit (I.tkS.iff (fun _ => Iff.rfl) hval) hio hipre (if_pos rfl)).iff (fun q => ?_) (fun _ _ => rfl)
    simp [or_comm]
   ·intro f hf
    rcases hF2 f hf with h | h
    ·exact I.fl f h
    exact h
   intro q hq
   rcases List.mem_append.1 hq with h | h
   ·obtain ⟨o, ai, L, h1, h2, h3, h4, h5, h6⟩ := I.pend q h
    have hqv := hval q h
    refine ⟨o, ai, L, h1, h2.iff (fun _ => Iff.rfl) (fun r hr => hval r (h5 r hr)), h3, h4, fun r hr => by simp [h5 r hr], ?_⟩
    simp only [← hqv]
    rcases h6 with h6 | ⟨h6, h7⟩
    ·exact .inl h6
    refine .inr ⟨h6, ?_⟩
    rcases h7 with h7 | ⟨f, h7, h8⟩
    ·exact .inl h7
    exact .inr ⟨f, hF1 _ h7, h8⟩
   have := List.mem_singleton.1 h
   subst this
   refine ⟨_, aS, (· ∈ pre), hio, I.tkS.iff (fun _ => Iff.rfl) hval, hpa, hpb, fun r hr => by simp [hr], ?_⟩
   simpa using hob
  simp only [pm, List.map_cons, DWB] at hdw
  rcases hdw with ⟨h1, h2⟩ | ⟨h1, v, ⟨h2, h3⟩ | ⟨f, h2, h3, h4⟩⟩
  ·exact next undef Fl (fun _ h => h) (fun _ h => .inl h) h2 (.inl ⟨h1, rfl⟩)
  ·exact next v Fl (fun _ h => h) (fun _ h => .inl h) h3 (.inr ⟨h1, .inl h2⟩)
  refine next v ((i, f) :: Fl) (fun _ h => List.mem_cons_of_mem _ h) (fun g hg => ?_) h4 (.inr ⟨h1, .inr ⟨f, by simp, h2⟩⟩)
  rcases List.mem_cons.1 hg with rfl | hg
  ·exact .inr h3
  exact .inl hg
def okTr (ops : Array Oper) (mem : List Nat) : Tr Nat → List Nat → Bool
 | .lin is, pre => pwOk ops mem is && (decide (pre ++ is).Nodup && (decide ((pre ++ is).length = ops.size) && ((pre ++ is).all (· < ops.size) && pwOk ops [] (pre ++ is))))
 | .fork x t1 y t2, pre => !pre.contains x && (!pre.contains y && (pre.all (fun q => !ahead ops x q && !ahead ops y q) && (decide (x < ops.size) && ((List.range ops.size).all (fun i => pre.contains i || (i == x || (i == y || (ahead ops x i || ahead ops y i)))) && (okTr ops mem t1 (pre ++ [x]) && okTr ops mem t2 (pre ++ [y]))))))
def Tr.flat : Tr Nat → List Nat
 | .lin is => is
 | .fork x t1 _ _ => x :: t1.flat
def okF (ops : Array Oper) (mem pre : List Nat) (t : Tr Nat) (k : Nat) : Bool :=
 backward ops && (onceDst ops && (fitsDst ops k && (ops.all notSel && (lookOk ops && (pre.all (fun i => !mem.contains i) && (okTr ops mem t pre && (decide (pre ++ t.flat).Nodup && (decide ((pre ++ t.flat).length = ops.size) && ((pre ++ t.flat).all (· < ops.size) && pwOk ops [] (pre ++ t.flat))))))))))
def pmT (ops : Array Oper) (t : Tr Nat) : Tr (Nat × Oper) := t.map fun i => (i, ops.getD i default)
section
variable {P : Program} {ops : Array Oper} {mem : List Nat} {Q : Exit → Act → World → Prop} {a0 : Act}
theorem tr_walk (hbk : backward ops = true) (hnd : onceDst ops = true) (hfit : ∀ (j : Nat) (o : Oper) (d : Tmp), ops[j]? = some o → o.dst = some d → d < a0.tmps.size) (hsel : ∀ (j : Nat) (o : Oper), ops[j]? = some o → notSel o = true) (hlook : ∀ (i : Nat) (o : Oper), ops[i]? = some o → ∀ t ∈ o.looksAt ops, ∀ (q : Nat) (o' : Oper), ops[q]? = some o' → o'.dst = some t → q = i ∨ ahead ops q i = true ∨ ahead ops i q = true)
  (hno : ∀ i, ahead ops i i = false) : ∀ (t : Tr Nat) (pre : List Nat) (val : Nat → Value) (Fl : List (Nat × (World → Prop))) (J : World → Prop) (aS : Act), okTr ops mem t pre = true → DTr P ops mem (Q .normal) (pmT ops t) Fl J aS →
  ∀ (fuel : Nat) (listed : Array Bool) (a : Act) (w : World), toCome ops listed ≤ fuel → TI P ops mem a0 listed a w pre val Fl J aS → wpAny P .any ops Q fuel listed a w := by
 intro t
 induction t with
 | lin is =>
  intro pre val Fl J aS hck hd fuel listed a w hc I
  simp only [okTr, Bool.and_eq_true] at hck
  obtain ⟨hm, hn, hl, ht, ho⟩ := hck
  have hn := of_decide_eq_true hn
  have hl := of_decide_eq_true hl
  have hlt : ∀ i ∈ pre ++ is, i < ops.size := fun i hi => by simpa using List.all_eq_true.1 ht i hi
  exact any_walk (R := Q .normal) hbk hnd hfit hsel hlook hno hn (all_in hn hl hlt) ho (fun _ _ h => h) _ _ _ _ _ _ _ _ _ _ hc (I.di hd) hm
 | fork x t1 y t2 ih1 ih2 =>
  intro pre val Fl J aS hck hd
  simp only [okTr, Bool.and_eq_true] at hck
  obtain ⟨hxp, hyp, hpa, hxs, hall, hk1, hk2⟩ := hck
  have hxp : x ∉ pre := by simpa using hxp
  have hyp : y ∉ pre := by simpa using hyp
  have hxs := of_decide_eq_true hxs
  have hpx : ∀ q ∈ pre, ahead ops x q = false := fun q hq => by have := List.all_eq_true.1 hpa q hq; simp at this; exact this.1
  have hpy : ∀ q ∈ pre, ahead ops y q = false := fun q hq => by have := List.all_eq_true.1 hpa q hq; simp at this; exact this.2
  have emp : ∀ (listed : Array Bool) (a : Act) (w : World), TI P ops mem a0 listed a w pre val Fl J aS → Region.ready .any ops listed = [] → False := fun listed a w I hr => hxp (I.sub x (all_listed hbk I.lsize hr x hxs))
  obtain ⟨hd1, hd2⟩ := hd
  intro fuel
  induction fuel with
  | zero =>
   intro listed a w hc I
   have hr : Region.ready .any ops listed = [] := by
    rw [List.eq_nil_iff_forall_not_mem]
    intro i hi
    obtain ⟨o, _, hi2, hl, _⟩ := mem_ready hi
    have := toCome_set hi2 hl
    omega
   exact (emp _ _ _ I hr).elim
  | succ fuel ih =>
   intro listed a w hc I
   refine ⟨fun hr => (emp _ _ _ I hr).elim, fun i hi => ?_⟩
   obtain ⟨o, r⟩ := rd_of I.lsize I.closed hi
   have hct : toCome ops (listed.setIfInBounds i true) ≤ fuel := by have := r.ct; omega
   by_cases hip : i ∈ pre
   ·exact I.any.fire hsel hlook r hip fun w' hx => ih _ _ _ hct (I.fired hnd hfit r hip hx)
   by_cases hix : i = x
   ·subst hix
    exact I.step hnd hfit hsel hlook hxp hpx r hd1 fun a' w' val' J' aS' I' hg => ih1 _ _ _ _ _ hk1 hg _ _ _ _ hct I'
   by_cases hiy : i = y
   ·subst hiy
    exact I.step hnd hfit hsel hlook hyp hpy r hd2 fun a' w' val' J' aS' I' hg => ih2 _ _ _ _ _ hk2 hg _ _ _ _ hct I'
   have h9 := List.all_eq_true.1 hall i (List.mem_range.2 r.lt)
   simp only [Bool.or_eq_true, beq_iff_eq, List.contains_iff_mem] at h9
   rcases h9 with h9 | h9 | h9 | h9 | h9
   ·exact (hip h9).elim
   ·exact (hix h9).elim
   ·exact (hiy h9).elim
   ·exact (hxp (I.sub x (r.prT x h9))).elim
   exact (hyp (I.sub y (r.prT y h9))).elim
end
section
variable {n : Nat} {P : Program} {ops : Array Oper} {Q : Exit → Act → World → Prop} {a0 : Act} {w0 : World} {B : Base} {H : List Res}
theorem any_f {J : World → Prop} (mem pre : List Nat) (t : Tr Nat) (k : Nat) (hsize : a0.tmps.size = k) (hck : okF ops mem pre t k = true) (hst : ∀ w w', J w → Ext w w' → J w') (hv : J w0)
    (h : DWB P ops (DTr P ops mem (Q .normal) (pmT ops t)) (pm ops pre) [] J a0) : wpAny P .any ops Q ops.size (Array.replicate ops.size false) a0 { w0 with drawn := w0.drawn + 1 } := by
  unfold okF at hck
  simp only [Bool.and_eq_true] at hck
  obtain ⟨hbk, hnd, hft, hns, hlk, hpm, hokt, hn1, hl1, ht1, ho1⟩ := hck
  have hn1 := of_decide_eq_true hn1
  have hl1 := of_decide_eq_true hl1
  have hlt1 : ∀ i ∈ pre ++ t.flat, i < ops.size := fun i hi => by simpa using List.all_eq_true.1 ht1 i hi
  have ha1 := all_in hn1 hl1 hlt1
  have hfit : ∀ (j : Nat) (o : Oper) (d : Tmp), ops[j]? = some o → o.dst = some d → d < a0.tmps.size := by
    intro j o d hj hd
    have := List.all_eq_true.1 hft o (by rw [List.mem_iff_getElem?]; exact ⟨j, by simpa using hj⟩)
    rw [hd] at this
    rw [hsize]
    simpa using this
  have hsel : ∀ (j : Nat) (o : Oper), ops[j]? = some o → notSel o = true := fun j o hj => by
    obtain ⟨hj2, rfl⟩ := Array.getElem?_eq_some_iff.1 hj
    exact (Array.all_eq_true.1 hns) j hj2
  have hlook : ∀ (i : Nat) (o : Oper), ops[i]? = some o → ∀ t ∈ o.looksAt ops, ∀ (q : Nat) (o' : Oper), ops[q]? = some o' → o'.dst = some t → q = i ∨ ahead ops q i = true ∨ ahead ops i q = true := fun i o hi t ht q o' hq hd => by
    have h1 := List.all_eq_true.1 hlk (o, i) (by rw [List.mem_iff_getElem?]; exact ⟨i, by simp [hi]⟩)
    have h2 := List.all_eq_true.1 h1 t ht
    have h3 := List.all_eq_true.1 h2 (o', q) (by rw [List.mem_iff_getElem?]; exact ⟨q, by simp [hq]⟩)
    simpa [hd] using h3
  have hno : ∀ i, ahead ops i i = false := fun i => by
    cases h : ahead ops i i with
    | false => rfl
    | true => have := ahead_lt hbk h; omega
  have hpre1 : ∀ i q, i ∈ pre ++ t.flat → ahead ops q i = true → q ∈ pre ++ t.flat := fun i q hi hq => (ha1 q).2 (Nat.lt_trans (ahead_lt hbk hq) (hlt1 i hi))
  obtain ⟨val, Fl, aS, I0, hd⟩ := walkB (r0 := t.flat) hnd hfit hno hn1 hlt1 ho1 hpre1 pre [] (fun _ => undef) [] a0 rfl ⟨(Tk.start (val := fun _ => undef)).iff (fun q => by simp) (fun _ _ => rfl), fun f hf => (by cases hf), fun i hi => (by cases hi)⟩ h
  rw [List.nil_append] at I0
  have hnl : ∀ j, (Array.replicate ops.size false).getD j false = true → False := by
    intro j hl
    simp only [Array.getD_eq_getD_getElem?] at hl
    by_cases h : j < ops.size <;> simp [h] at hl
  refine tr_walk hbk hnd hfit hsel hlook hno t pre val Fl J aS hokt hd _ _ _ _ ?_ ⟨by simp, fun j o hj hl => (hnl j hl).elim, (Tk.start (val := val)).iff (fun q => ⟨False.elim, hnl q⟩) (fun _ _ => rfl), I0.tkS, hst, hst _ _ hv (Ext.drew' w0), fun f hf _ => I0.fl f hf, fun q hq => (hnl q hq).elim,
     fun q hq hp => by have := List.all_eq_true.1 hpm q hp; simp [hq] at this, fun i hi _ => I0.pend i hi⟩
  unfold toCome
  exact Nat.le_trans (List.countP_le_length) (by simp)
def qmT (l : List Oper) : Tr Nat → Tr (Nat × Oper)
 | .lin is => .lin (qm l is)
 | .fork x t1 y t2 => .fork (x, opAt l x) (qmT l t1) (y, opAt l y) (qmT l t2)
theorem qmT_pmT (l : List Oper) (t : Tr Nat) : qmT l t = pmT l.toArray t := by
 induction t with
 | lin is => show Tr.lin (qm l is) = Tr.lin (pm l.toArray is); rw [qm_pm]
 | fork x t1 y t2 ih1 ih2 => show Tr.fork _ _ _ _ = Tr.fork _ _ _ _; rw [ih1, ih2, opAt_get, opAt_get]; rfl
theorem rF {l : List Oper} {id : Nat} (hm : P.follows .mixedOrders = true) (R : Act → World → Prop) (mem pre : List Nat) (t : Tr Nat) (k : Nat) (hsize : a0.tmps.size = k) (hck : okF l.toArray mem pre t k = true) (hv : Inv B H w0)
  (h0 : ∀ (R' : Act → World → Prop) (T : Tr (Nat × Oper)), (∀ a w, R a w → R' a w) → T = qmT l t → DWB P l.toArray (DTr P l.toArray mem R' T) (qm l pre) [] (Inv B H) a0) (hR : ∀ a w, R a w → Q .normal a w) : (Code.region id l.toArray true).wpIn Fence.wide n P Q a0 w0 := by
 have h := h0 R _ (fun _ _ h => h) rfl
 have h2 : (Code.region id l.toArray true).wpIn Fence.wide n P (fun e a w => e = .normal ∧ R a w) a0 w0 := by
  refine wpIn_wide.2 (wp_region_any hm (any_f mem pre t k hsize hck (fun _ _ h he => h.ext he) hv ?_))
  rw [qm_pm, qmT_pmT] at h
  have : (fun a w => (Exit.normal : Exit) = .normal ∧ R a w) = R := by funext a w; simp
  show DWB P l.toArray (DTr P l.toArray mem (fun a w => (Exit.normal : Exit) = .normal ∧ R a w) _) _ _ _ _
  rw [this]; exact h
 exact wpIn_mono h2 (fun e a w ⟨h3, h4⟩ => by subst h3; exact hR a w h4)
end
section
variable {P : Program} {ops : Array Oper} {mem : List Nat} {R : Act → World → Prop} {D : List (Nat × (World → Prop)) → (World → Prop) → Act → Prop} {i : Nat} {o : Oper} {is : List (Nat × Oper)} {Fl : List (Nat × (World → Prop))} {J : World → Prop} {a : Act} {v : Value} {x y : Nat × Oper} {t1 t2 : Tr (Nat × Oper)} {G : (World → Prop) → Act → Prop} {B : Base} {H : List Res} {w' : World}
theorem bE (h : D Fl J a) : DWB P ops D [] Fl J a := h
theorem bG (v : Value) (hw : Region.wanted o (yielded ops a.tmps) = true) (hr : ∀ {w}, Ex P a o w v w) (h : DWB P ops D is Fl J (a.put o.dst v)) : DWB P ops D ((i, o) :: is) Fl J a := by
 unfold DWB; exact .inr ⟨hw, v, .inl ⟨fun w => hr.addsv, h⟩⟩
theorem bF (v : Value) (hw : Region.wanted o (yielded ops a.tmps) = true) (hr : ∀ {w}, J w → Ex P a o w v w) (h : ∀ f : World → Prop, (∀ w, Ex P a o w v w → f w) → DWB P ops D is ((i, f) :: Fl) J (a.put o.dst v)) : DWB P ops D ((i, o) :: is) Fl J a := by
 unfold DWB; exact .inr ⟨hw, v, .inr ⟨fun w => Ex P a o w v w, fun w hx => hx.addsv, fun w hJ => hr hJ, h _ fun _ hx => hx⟩⟩
theorem gL (h : DW P ops mem R is Fl J a) : DTr P ops mem R (.lin is) Fl J a := h
theorem gF (h1 : DX P ops x (fun J' a' => DTr P ops mem R t1 Fl J' a') Fl J a) (h2 : DX P ops y (fun J' a' => DTr P ops mem R t2 Fl J' a') Fl J a) : DTr P ops mem R (.fork x t1 y t2) Fl J a := ⟨h1, h2⟩
def JX (ops : Array Oper) (i : Nat) (o : Oper) (G : (World → Prop) → Act → Prop) (Fl : List (Nat × (World → Prop))) (a : Act) (vs : List Value) (w : World) : Prop :=
 ∃ v, vs = [v] ∧ ∃ J' : World → Prop, (∀ w w', J' w → Ext w w' → J' w') ∧ J' w ∧ FlOk ops i J' Fl ∧ G J' (a.put o.dst v)
theorem gS (hw : Region.wanted o (yielded ops a.tmps) = true) (hs : ∀ w, J w → StepMem P ops (JX ops i o G Fl a) QF o a w []) : DX P ops (i, o) G Fl J a := by
 refine .inr ⟨hw, fun w hJ => ?_⟩
 have := hs w hJ
 unfold StepMem at this
 rw [if_pos hw] at this
 exact Oper.wp_mono (fun b w' ⟨v, hb, u, hu, J', h⟩ => by cases hu; exact ⟨v, hb, J', h⟩) this
theorem gV (hv : Inv B H w') (hf : FlOk ops i (Inv B H) Fl) (h : G (Inv B H) (a.put o.dst v)) : JX ops i o G Fl a ([] ++ [v]) w' := ⟨v, rfl, Inv B H, fun _ _ h he => h.ext he, hv, hf, h⟩
theorem ex_fieldv {t : TypeId} {k : Nat} {z : Operand} {r u : Value} {w : World} (ho : o.op = .field t z k) (hx : a.eval z = u) (hr : ∀ w, (Instr.field t u k).run P w = .ok r w) : Ex P a o w r w := by unfold Ex; simp [execOp, ho, hx, hr]
theorem mem_rowN {w : World} {vals : List Value} {Jv : List Value → World → Prop} {Q : Exit → Act → World → Prop} {t e : TypeId} {k : Nat} {parts : Array (Nat × Operand)} {pv : Array (Nat × Value)} {L : List Value} (hg : Region.wanted o (yielded ops a.tmps) = true) (ho : o.op = .buildSlice t k parts) (hx : (parts.map fun (i, x) => (i, a.eval x)) = pv) (hv : Inv B H w)
  (hr : ∀ w, (Instr.buildSlice t k pv).run P w = .ok (.slice (some ⟨w.heap.size, 0, none⟩) k k) (w.alloc (.cells L.toArray e))) (h : ∀ b w', Inv B (Res.cell b L e :: H) w' → Jv (vals ++ [.slice (some ⟨b, 0, none⟩) k k]) w') : StepMem P ops Jv Q o a w vals :=
 Ex.mem (by unfold Ex; simp only [execOp, ho, hx]; simp [hr]) hg (h _ _ (hv.alloc L e))
end
end Go.Pm
