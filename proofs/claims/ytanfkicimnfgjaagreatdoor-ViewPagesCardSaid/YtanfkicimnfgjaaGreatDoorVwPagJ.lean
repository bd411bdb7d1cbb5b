/- ViewPages: the law's walk. -/
import Derived.Test.YtanfkicimnfgjaaGreatDoorVwPagB
import Derived.Test.YtanfkicimnfgjaaGreatDoorVwPagD
import Derived.Test.YtanfkicimnfgjaaGreatDoorVwPagG
import Derived.Test.YtanfkicimnfgjaaGreatDoorVwPagI
import Derived.Test.YtanfkicimnfgjaaGreatDoorRows
import Derived.Lib.LaidTab
import Derived.LaidSub
import Derived.Lib.ItoaNum
import Derived.Deep.LoopGhost
import Derived.Test.YtanfkicimnfgjaaGreatDoorVwPagE
import Derived.Lib.ParseIntBTie
set_option maxRecDepth 100000
set_option maxHeartbeats 16000000
set_option synthInstance.maxSize 4096
set_option synthInstance.maxHeartbeats 400000
namespace Go.Proofs.YtanfkicimnfgjaaGreatDoor
open Go.RowKit Go.Pm
theorem pageEq (d : Nat) (w : World) (a b c : Int) (m : List UInt8) : (Op.equalIn (d + 2) 25 (.agg #[vI a, vI b, vI c, vS m]) (.agg #[vI a, vI b, vI c, vS m])).run Tryz.prog w = .ok true w := by
 have hf : Tryz.prog.stoodInHeld 25 = false := by kernel_rfl
 have hfs : (Tryz.prog.fieldsOf 25).toList = [{ name := "From", type := 3, offset := 0, embedded := false, tag := "", pkgPath := "", byteOffset := 0 }, { name := "To", type := 3, offset := 1, embedded := false, tag := "", pkgPath := "", byteOffset := 8 }, { name := "Next", type := 3, offset := 2, embedded := false, tag := "", pkgPath := "", byteOffset := 16 }, { name := "Match", type := 9, offset := 3, embedded := false, tag := "", pkgPath := "", byteOffset := 24 }] := by kernel_rfl
 have hag : ∀ w, (isAgg 9).run Tryz.prog w = .ok false w := fun w => by kernel_rfl
 have hs : ∀ w, (sizeOf 9).run Tryz.prog w = .ok 1 w := fun w => by kernel_rfl
 have h9 : Tryz.prog.underlying 9 = some .string := Tryz.underlying9
 have hag3 : ∀ w, (isAgg 3).run Tryz.prog w = .ok false w := fun w => by kernel_rfl
 have hs3 : ∀ w, (sizeOf 3).run Tryz.prog w = .ok 1 w := fun w => by kernel_rfl
 have h3 : Tryz.prog.underlying 3 = some (.int .i64) := Tryz.underlying3
 rw [run_equalIn_struct w (d + 1) 25 _ _ (by kernel_rfl) hf, hfs]
 simp [Op.eqFields, part, hag, hs, hag3, hs3, run_equalIn_string w d 9 _ _ h9, run_equalIn_int w d 3 _ _ _ _ h3]
theorem ex_eqlSame {P : Program} {o : Oper} {a : Act} {w : World} {t u : TypeId} {x y : Operand} {L : List Value} (ho : o.op = .binOp .eql t x y u) (hx : a.eval x = .agg L.toArray) (hy : a.eval y = .agg L.toArray) (hg : P.eqGuardType P.depth t = false) (he : ∀ w, (Op.equalIn 10000 t (.agg L.toArray) (.agg L.toArray)).run P w = .ok true w) : Ex P a o w (.bool true) w := by
 unfold Ex
 simp [execOp, ho, hx, hy, run_eqGuard_agg w .eql t x y _ _ hg, run_eql_struct, he]
theorem pageR_nat {n fr to nx ec : Int} {args : List (List UInt8)} {mt : List UInt8} (h : PageR ((n.toNat : Nat) : Int) args fr to nx mt ec) : PageR n args fr to nx mt ec := by
 have e : max ((n.toNat : Nat) : Int) 0 = max n 0 := by omega
 unfold PageR at h ⊢
 rw [e] at h; exact h
theorem optTo_len {args : List (List UInt8)} {i : Nat} {t0 t1 : List UInt8} {b0 b1 : Bool} (h : OptTo args i t0 t1 b0 b1) {k : Nat} (hl : ∀ x ∈ args, x.length ≤ k) : t0.length ≤ k := by
 induction h with
 | zero => exact Nat.zero_le _
 | m _ _ hv _ _ => exact hl _ (List.mem_of_getElem? hv)
 | c _ _ _ _ _ ih => exact ih
theorem PageR.mtl {n fr to nx ec : Int} {args : List (List UInt8)} {mt : List UInt8} (h : PageR n args fr to nx mt ec) (h0 : ec = 0) (hl : ∀ x ∈ args, x.length ≤ 200) : mt.length ≤ 200 := by
 rcases h with ⟨h1, -⟩ | ⟨a0, rest, ha, ⟨h1, -⟩ | ⟨t0, t1, b0, b1, ho, ⟨h1, -⟩ | ⟨k, c, -, -, ⟨h1, -⟩ | ⟨-, h1, h2, h3, -⟩⟩⟩⟩
 ·omega
 ·omega
 ·omega
 ·omega
 subst h3
 split
 ·exact optTo_len (optR_full ho).2 (fun x hx => hl x (by rw [ha]; exact List.mem_cons_of_mem _ hx))
 simp
theorem lpcallable18 : Callable Tryz.prog 18 := cb Tryz.func18 (by kernel_rfl)
theorem refFits (B : Base) (H : List Res) (w : World) (p s : List UInt8) (hp : p.length ≤ 1000000) (hs : s.length ≤ 1000000) (hv : Inv B H w) :
  Calls Tryz.prog 8 #[vS p, vS s] w fun e w' => ∃ r, e = .returned (.bool r) ∧ (r = true ↔ MatchP (divS p true 0) s) ∧ Inv B H w' := by
 refine cW Tryz.func8 rfl Tryz.ntmps8 ?_
 simp only [al]
 refine sK fun _ k1 => rL (uA rfl ?_)
 refine uW k1 (sK fun _ k2 => ?_)
 refine rL (uM rfl ?_)
 refine uM rfl ?_
 refine xC lpcallable18 rfl ((refMatch B _ _ p hp s hs hv).mono ?_) rfl
 rintro e w3 ⟨r, rfl, hr, hv⟩
 refine ⟨_, rfl, uA rfl ?_⟩
 refine uW k2 (rR ?_)
 refine bR rfl rfl (⟨r, rfl, hr, hv⟩)
theorem lpcallable4 : Callable Tryz.prog 4 := cb Tryz.func4 (by kernel_rfl)
theorem lpcallable5 : Callable Tryz.prog 5 := cb Tryz.func5 (by kernel_rfl)
theorem lpal25 : AL Tryz.prog 25 [vI 0, vI 0, vI 0, vS []] := fun w => by kernel_rfl
theorem lpcallable6 : Callable Tryz.prog 6 := cb Tryz.func6 (by kernel_rfl)
theorem lpal29 : AL Tryz.prog 29 [vI 0, vI 0, vI 0] := fun w => by kernel_rfl
theorem lpea29 (w : World) : (sizeOf 3).run Tryz.prog w = .ok 1 w := by kernel_rfl
theorem lpua29 : Tryz.prog.underlying 29 = some (.array 3 3) := by kernel_rfl
theorem lpcallable7 : Callable Tryz.prog 7 := cb Tryz.func7 (by kernel_rfl)
theorem lpcallable8 : Callable Tryz.prog 8 := cb Tryz.func8 (by kernel_rfl)
theorem viewPagesMain (B : Base) (H : List Res) (w : World) (n : Int) (hn0 : -9223372036854775808 ≤ n) (hn1 : n ≤ 9223372036854775807) (aa : Option Addr) (ac : Nat) (args : List (List UInt8)) (hra : RdV B [] aa (textCells args)) (hoka : SliceOk aa args.length ac) (name : List UInt8) (hN : NumB B) (hv : Inv B H w) :
  Calls Tryz.prog 3 #[vI n, .slice aa args.length ac, vS name] w fun e w' => e = .returned (.bool true) ∧ Inv B H w' := by
 refine cW Tryz.func3 rfl Tryz.ntmps3 ?_
 simp only [al]
 refine sK fun _ k1 => rL (uA rfl ?_)
 refine uW k1 (sK fun _ k2 => ?_)
 refine sK fun _ k3 => rL (xC lpcallable4 rfl ((lawAwake20 B _ _ hv).mono ?_) rfl)
 rintro e w4 ⟨rfl, hv⟩
 refine ⟨_, rfl, uG (.bool false) rfl (ex_not rfl rfl rfl) ?_⟩
 refine uM rfl ?_
 refine uM rfl ?_
 by_cases hb5 : n > 3000
 ·refine uG (.bool true) rfl (ex_gtr rfl rfl rfl (qT hb5)) (uK rfl ?_)
  refine uM rfl ?_
  iterate 3 refine uP rfl ?_
  refine uK rfl (uM rfl ?_)
  iterate 3 refine uP rfl ?_
  refine uK rfl (uW k3 ?_)
  refine cT rfl (sK fun _ k6 => ?_)
  refine rL (xC lpcallable4 rfl ((lawAwake20 B _ _ hv).mono ?_) rfl)
  rintro e w7 ⟨rfl, hv⟩
  refine ⟨_, rfl, uA rfl ?_⟩
  refine uW k6 (rR ?_)
  refine tR (bR rfl rfl ?_)
  exact ⟨rfl, hv⟩
 refine uG (.bool false) rfl (ex_gtr rfl rfl rfl (qF hb5)) (uK rfl ?_)
 refine uM rfl ?_
 refine uM rfl ?_
 refine uG (vI (args.length : Int)) rfl (ex_len0 Tryz.underlying22 rfl rfl) ?_
 by_cases hb8 : (args.length : Int) > 10
 ·refine uG (.bool true) rfl (ex_gtr rfl rfl rfl (qT hb8)) (uK rfl ?_)
  refine uM rfl ?_
  iterate 3 refine uP rfl ?_
  refine uK rfl (uW k3 ?_)
  refine cT rfl (sK fun _ k9 => ?_)
  refine rL (xC lpcallable4 rfl ((lawAwake20 B _ _ hv).mono ?_) rfl)
  rintro e w10 ⟨rfl, hv⟩
  refine ⟨_, rfl, uA rfl ?_⟩
  refine uW k9 (rR ?_)
  refine tR (bR rfl rfl ?_)
  exact ⟨rfl, hv⟩
 refine uG (.bool false) rfl (ex_gtr rfl rfl rfl (qF hb8)) (uK rfl ?_)
 refine uM rfl ?_
 refine uM rfl ?_
 refine uG (vI (name.length : Int)) rfl (ex_lenStr Tryz.underlying9 rfl rfl) ?_
 by_cases hb11 : (name.length : Int) > 200
 ·refine uG (.bool true) rfl (ex_gtr rfl rfl rfl (qT hb11)) (uK rfl ?_)
  refine uW k3 (cT rfl ?_)
  refine sK fun _ k12 => rL (xC lpcallable4 rfl ((lawAwake20 B _ _ hv).mono ?_) rfl)
  rintro e w13 ⟨rfl, hv⟩
  refine ⟨_, rfl, uA rfl ?_⟩
  refine uW k12 (rR ?_)
  refine tR (bR rfl rfl ?_)
  exact ⟨rfl, hv⟩
 refine uG (.bool false) rfl (ex_gtr rfl rfl rfl (qF hb11)) (uK rfl ?_)
 refine uW k3 (cF rfl ?_)
 refine kS (tK k2 ?_)
 refine sK fun _ k14 => sK fun _ k15 => rL (uA rfl ?_)
 refine uW k15 (bB ?_)
 gi_loopw [7] (fun x7 wr => ∃ (i : Nat), x7 = vI i ∧ i ≤ args.length ∧ (∀ (j : Nat) x, j < i → args[j]? = some x → x.length ≤ 200) ∧ Inv B H wr) (fun x7 _ => args.length - (intOf x7).toNat)
 case atStart => exact ⟨0, rfl, Nat.zero_le _, fun j x h => by omega, hv⟩
 case round =>
  obtain ⟨i, rfl, hi, hall, hv⟩ := hrel
  refine sK fun _ k17 => sK fun _ k18 => rL (uM rfl ?_)
  refine uM rfl ?_
  refine uG (vI (args.length : Int)) rfl (ex_len0 Tryz.underlying22 rfl rfl) ?_
  by_cases hb19 : (i : Int) < (args.length : Int)
  ·refine uG (.bool true) rfl (ex_lss rfl rfl rfl (qT hb19)) (uW k18 ?_)
   refine cT rfl (kS ?_)
   refine tK k17 (sK fun _ k20 => ?_)
   refine bB (sK fun _ k21 => ?_)
   obtain ⟨x, hx⟩ : ∃ x, args[i]? = some x := ⟨_, List.getElem?_eq_getElem (show i < args.length by omega)⟩
   obtain ⟨ab, ao, had, hrdx⟩ := text_reads hra hx
   subst had
   refine rL (uM rfl ?_)
   refine uM rfl ?_
   refine uG (.pointer (some ⟨ab, ao + i, none⟩)) rfl (ex_index rfl rfl rfl (run_idx1 (k := i) Tryz.underlying22 s9es22 (by omega))) ?_
   refine uL _ rfl (run_load1 s9na9 (hrdx _ _ _ (Base.Le.refl _) no_res hv 0 _ rfl)) ?_
   refine uG (vI (x.length : Int)) rfl (ex_lenStr Tryz.underlying9 rfl rfl) ?_
   by_cases hb22 : (x.length : Int) > 200
   ·refine uG (.bool true) rfl (ex_gtr rfl rfl rfl (qT hb22)) (uW k21 ?_)
    refine cT rfl (sK fun _ k23 => ?_)
    refine rL (uA rfl ?_)
    refine uW k23 (rR ?_)
    refine bZ (tR ?_)
    refine tR (bZ ?_)
    refine tR (bR rfl rfl ?_)
    exact ⟨rfl, hv⟩
   refine uG (.bool false) rfl (ex_gtr rfl rfl rfl (qF hb22)) (uW k21 ?_)
   refine cF rfl (kS ?_)
   refine bN (tK k20 ?_)
   refine rL (uM rfl ?_)
   refine uG (vI ((i + 1 : Nat) : Int)) rfl (ex_add rfl rfl rfl (by rw [i64_in (by omega)]; omega)) (uA rfl ?_)
   refine uZ (then_normal ?_)
   go_roundw
   case rel => exact ⟨i + 1, rfl, by omega, fun j y hj hy => (Nat.lt_or_ge j i).elim (fun h => hall j y h hy) (fun h => by obtain rfl : j = i := (by omega); rw [hx] at hy; cases hy; omega), hv⟩
   case measure => show args.length - (((i + 1 : Nat) : Int)).toNat < args.length - ((i : Int)).toNat; omega
  refine uG (.bool false) rfl (ex_lss rfl rfl rfl (qF hb19)) (uW k18 ?_)
  refine cF rfl (xE ?_)
  refine tX (tX ?_)
  refine bH (tK k14 ?_)
  refine sK fun _ k24 => ?_
  obtain rfl : i = args.length := by omega
  have hxl : ∀ x ∈ args, x.length ≤ 200 := fun x hx => by
   obtain ⟨j, hj, rfl⟩ := List.getElem_of_mem hx
   exact hall j _ hj (List.getElem?_eq_getElem hj)
  refine rL (uM rfl ?_)
  refine uM rfl ?_
  refine xC lpcallable5 rfl ((viewPagesZ B _ _ n hn0 hn1 aa ac args hra (by omega) (fun x hx => by have := hxl x hx; omega) hoka hN hv).mono ?_) rfl
  rintro e w25 ⟨fr, to, nx, mt, ec, rfl, hz, hpg, hv⟩
  refine ⟨_, rfl, uM rfl ?_⟩
  refine uE rfl (uE rfl ?_)
  refine sl_alloc tV (wn rfl) rfl hv lpal25 (fun b26 w27 hv => ?_)
  simp only [zP, po]
  refine xS 0 rfl hv v8sz25 rfl (by exact ⟨rfl, rfl, rfl, rfl, trivial⟩) (fun w28 hv => ?_)
  simp only [zO, sp] at hv
  refine uA rfl (uW k24 ?_)
  refine sK fun _ k29 => rL (uM rfl ?_)
  refine uG (vI ((n.toNat : Nat) : Int)) rfl (ex_max2 (m := n) (n := 0) rfl rfl rfl (by split <;> omega)) (uM rfl ?_)
  refine xC lpcallable6 rfl ((refPage B _ _ n.toNat (by omega) aa ac args hra (by omega) (fun x hx => by have := hxl x hx; omega) hv).mono ?_) rfl
  rintro e w30 ⟨fr2, to2, nx2, mt2, ec2, rfl, hpg2, hv⟩
  refine ⟨_, rfl, ?_⟩
  obtain ⟨rfl, huq⟩ := hpg.uniq (pageR_nat hpg2)
  refine uM rfl (uE rfl ?_)
  refine uE rfl (uE rfl ?_)
  refine sl_alloc tV (wn rfl) rfl hv lpal29 (fun b31 w32 hv => ?_)
  simp only [zP, po]
  refine xS 0 rfl hv rpsz29 rfl (by exact ⟨rfl, rfl, rfl, trivial⟩) (fun w33 hv => ?_)
  simp only [zO, sp] at hv
  refine uA rfl (uA rfl ?_)
  refine uW k29 (sK fun _ k34 => ?_)
  refine sK fun _ k35 => rL (uM rfl ?_)
  refine uM rfl ?_
  refine uG (.bool false) rfl (ex_neq rfl rfl rfl (qF (fun h => h rfl))) (uW k35 ?_)
  refine cF rfl (kS ?_)
  refine tK k34 (sK fun _ k36 => ?_)
  refine sK fun _ k37 => rL (uM rfl ?_)
  by_cases hb38 : ec ≠ 0
  ·refine uG (.bool true) rfl (ex_neq rfl rfl rfl (qT hb38)) (uW k37 ?_)
   refine cT rfl (sK fun _ k39 => ?_)
   obtain ⟨rfl, rfl, rfl, rfl⟩ := hz (by omega)
   refine rL (uL (.agg #[vI 0, vI 0, vI 0, vS []]) rfl (lM 1 v8wd25 hv rfl rfl rfl rfl) ?_)
   refine uG (.agg #[vI 0, vI 0, vI 0, vS []]) rfl (ex_buildN (vs := #[]) rfl (by simp only [List.map_toArray, List.map_nil]) (by kernel_rfl)) ?_
   refine uG (.bool true) rfl (ex_eqlSame (L := [vI 0, vI 0, vI 0, vS []]) rfl rfl rfl (by kernel_rfl) (fun w => pageEq 9998 w 0 0 0 ([] : List UInt8))) (uA rfl ?_)
   refine uW k39 (rR ?_)
   refine tR (bR rfl rfl ?_)
   exact ⟨rfl, (hv.kp [] 0 2)⟩
  refine uG (.bool false) rfl (ex_neq rfl rfl rfl (qF hb38)) (uW k37 ?_)
  refine cF rfl (kS ?_)
  refine tK k36 (sK fun _ k40 => ?_)
  obtain rfl : ec = 0 := by omega
  obtain ⟨rfl, rfl, rfl, rfl⟩ := huq rfl
  have hml := hpg.mtl rfl hxl
  refine rL (uL (.agg #[vI fr, vI to, vI nx, vS mt]) rfl (lM 1 v8wd25 hv rfl rfl rfl rfl) ?_)
  refine uG (vP b31) rfl (ex_index rfl rfl rfl (run_idxA1 (k := 0) lpua29 lpea29 (by omega))) ?_
  refine uL _ rfl (run_load1 s2na3 (hv.load 0 0 rfl rfl)) ?_
  refine uG (.pointer (some ⟨b31, 1, none⟩)) rfl (ex_index rfl rfl rfl (run_idxA1 (k := 1) lpua29 lpea29 (by omega))) ?_
  refine uL _ rfl (run_load1 s2na3 (hv.load 0 1 rfl rfl)) ?_
  refine uG (.pointer (some ⟨b31, 2, none⟩)) rfl (ex_index rfl rfl rfl (run_idxA1 (k := 2) lpua29 lpea29 (by omega))) ?_
  refine uL _ rfl (run_load1 s2na3 (hv.load 0 2 rfl rfl)) (uM rfl ?_)
  refine uG (.agg #[vI fr, vI to, vI nx, vS mt]) rfl (ex_buildN (vs := #[(0, vI fr), (1, vI to), (2, vI nx), (3, vS mt)]) rfl (by simp only [List.map_toArray, List.map_cons, List.map_nil]; rfl) (by kernel_rfl)) ?_
  refine uG (.bool true) rfl (ex_eqlSame (L := [vI fr, vI to, vI nx, vS mt]) rfl rfl rfl (by kernel_rfl) (fun w => pageEq 9998 w fr to nx mt)) (uM rfl ?_)
  refine uL (.agg #[vI fr, vI to, vI nx, vS mt]) rfl (lM 1 v8wd25 hv rfl rfl rfl rfl) ?_
  refine uM rfl ?_
  refine xC lpcallable7 rfl ((pageFits B _ _ fr to nx mt name (by omega) (by omega) hv).mono ?_) rfl
  rintro e w41 ⟨r1, rfl, hr1, hv⟩
  refine ⟨_, rfl, ?_⟩
  refine uM rfl ?_
  refine uM rfl ?_
  refine xC lpcallable8 rfl ((refFits B _ _ mt name (by omega) (by omega) hv).mono ?_) rfl
  rintro e w42 ⟨r2, rfl, hr2, hv⟩
  refine ⟨_, rfl, ?_⟩
  obtain rfl : r1 = r2 := Bool.eq_iff_iff.2 (hr1.trans hr2.symm)
  refine uG (.bool true) rfl (ex_beqS (p := r1) (q := r1) Tryz.underlying4 rfl rfl rfl (by simp)) (uK rfl ?_)
  refine uA rfl (uW k40 ?_)
  refine rR (bR rfl rfl ?_)
  exact ⟨rfl, (hv.kp [] 0 2)⟩
end Go.Proofs.YtanfkicimnfgjaaGreatDoor
namespace Go.Pm
open Go.RowKit
def All2 {α β : Type} (R : α → β → Prop) : List α → List β → Prop
 | [], [] => True
 | a :: k, b :: l => R a b ∧ All2 R k l
 | _, _ => False
theorem rep_rowAux {W : World} {S : Nat → Prop} {t : Ty} {a : Option Addr} : ∀ (l : List t.den) (k : Nat), (∀ i (h : i < l.length), ∃ b off xs, a = some ⟨b, off, none⟩ ∧ S b ∧ xs.length = t.size ∧ (∀ j (h : j < xs.length), W.cell? ⟨b, off + (k + i) * t.size + j, none⟩ = some xs[j]) ∧ Rep W S t xs l[i]) →
  ∃ xss : List (List Value), All2 (fun xs d => xs.length = t.size ∧ Rep W S t xs d) xss l ∧ ∀ j (h : j < xss.flatten.length), ∃ b off, a = some ⟨b, off, none⟩ ∧ W.cell? ⟨b, off + k * t.size + j, none⟩ = some xss.flatten[j]
 | [], k, _ => ⟨[], trivial, fun j h => by simp at h⟩
 | d :: l, k, h => by
  obtain ⟨xss, h1, h2⟩ := rep_rowAux l (k + 1) (fun i hi => by
   obtain ⟨b, off, xs, e1, e2, e3, e4, e5⟩ := h (i + 1) (by simpa using hi)
   refine ⟨b, off, xs, e1, e2, e3, fun j hj => ?_, e5⟩
   rw [show k + 1 + i = k + (i + 1) by omega]
   exact e4 j hj)
  obtain ⟨b, off, xs, e1, e2, e3, e4, e5⟩ := h 0 (by simp)
  refine ⟨xs :: xss, ⟨⟨e3, e5⟩, h1⟩, fun j hj => ?_⟩
  rcases Nat.lt_or_ge j xs.length with hx | hx
  ·refine ⟨b, off, e1, ?_⟩
   have := e4 j hx
   rw [Nat.add_zero] at this
   rw [this]
   simp only [List.flatten_cons]
   rw [List.getElem_append_left hx]
  have hj' : j - xs.length < xss.flatten.length := by
   simp only [List.flatten_cons, List.length_append] at hj
   omega
  obtain ⟨b', off', f1, f2⟩ := h2 (j - xs.length) hj'
  refine ⟨b', off', f1, ?_⟩
  rw [show off' + k * t.size + j = off' + (k + 1) * t.size + (j - xs.length) by rw [Nat.succ_mul]; omega, f2]
  simp only [List.flatten_cons]
  rw [List.getElem_append_right hx]
theorem rep_row {W : World} {S : Nat → Prop} {t : Ty} {cs : List Value} {l : List t.den} (h : Rep W S (.slice t) cs l) :
  ∃ a cap xss, cs = [.slice a l.length cap] ∧ SliceOk a l.length cap ∧ RdV (Base.of W) [] a xss.flatten ∧ All2 (fun xs d => xs.length = t.size ∧ Rep W S t xs d) xss l := by
 obtain ⟨a, cap, h1, h2, h4⟩ := h
 obtain ⟨xss, h5, h6⟩ := rep_rowAux (t := t) l 0 (fun i hi => by
  obtain ⟨b, off, xs, e1, e2, e3, e4, e5⟩ := h4 i hi
  refine ⟨b, off, xs, e1, e2, e3, fun j hj => ?_, e5⟩
  rw [Nat.zero_add]
  exact e4 j hj)
 refine ⟨a, cap, xss, h1, h2, rdV_of W fun j hj => ?_, h5⟩
 obtain ⟨b, off, f1, f2⟩ := h6 j hj
 exact ⟨b, off, f1, by rw [← f2, Nat.zero_mul, Nat.add_zero]⟩
theorem rep_texts {W : World} {S : Nat → Prop} : ∀ {xss : List (List Value)} {l : List (List UInt8)}, All2 (fun xs (d : Ty.str.den) => xs.length = Ty.str.size ∧ Rep W S .str xs d) xss l → xss.flatten = textCells l
 | [], [], _ => rfl
 | xs :: xss, d :: l, ⟨⟨h1, h2⟩, h⟩ => by
  have := rep_texts h
  match xs, h1 with
  | [x0], _ =>
   obtain ⟨k1, _⟩ := h2
   have k1' : [x0] = _ := k1
   simp only [List.cons.injEq, and_true] at k1'
   subst k1'
   simp only [List.flatten_cons, this, textCells, List.map_cons]
   rfl
end Go.Pm
namespace Go.Proofs.YtanfkicimnfgjaaGreatDoor
open Go
theorem tabOf {W : World} {l : List (String × DataW Unit)} (hl : l.filter (fun x => x.1 == "internal/strconv.uint64pow10") = [("internal/strconv.uint64pow10", Lib.tabData .u64 Lib.pow10Tab)]) (hL : laidMetH Tryz.prog l W) : Lib.TabIs Tryz.prog W "internal/strconv.uint64pow10" .u64 Lib.pow10Tab := by
 have h := hL.filter (fun x => x.1 == "internal/strconv.uint64pow10")
 rw [hl] at h
 have h2 := (laidMetH_iff.1 h).1
 have e : ([("internal/strconv.uint64pow10", (Lib.tabData .u64 Lib.pow10Tab : DataW Unit))].filter fun x => x.2.handleName?.isNone) = [("internal/strconv.uint64pow10", Lib.tabData .u64 Lib.pow10Tab)] := by kernel_rfl
 rw [e] at h2
 exact Lib.tabIs_of_head (g := 2) (t := 173) (e := 84) (n := 20) (by kernel_rfl) (by kernel_rfl) Tryz.underlying173 Tryz.underlying84 (by kernel_rfl) (by kernel_rfl) h2
open Go.RowKit Go.Pm
theorem parsesAny (B : Base) (H : List Res) (h1 : HasErr B 0) (h2 : HasErr B 1) : ParsesAny B H := fun w s hs hv => by
 obtain ⟨t1, v1, h1⟩ := h1
 obtain ⟨t2, v2, h2⟩ := h2
 have c1 := h1 B H w (Base.Le.refl _) hv
 have c2 := h2 B H w (Base.Le.refl _) hv
 have hmax : (ByteArray.mk s.toArray).size ≤ 20 := by show s.toArray.size ≤ 20; simpa using hs
 cases hp : Lib.parseIntB 64 s
 case ok n =>
  have hb := Lib.parseIntB_bounds hp
  have h : Calls Tryz.prog 49 #[vS s, vI 10, vI 64] w _ := Any.strconv_ParseInt_10_at64_ok Tryz.laysPI ⟨s.toArray⟩ (by omega) n hp w
  refine h.mono ?_
  rintro e w' ⟨rfl, hw⟩
  refine ⟨n, .nilIface, rfl, .inl rfl, by omega, fun m m0 m1 e9 => ⟨rfl, ?_⟩, ?_⟩
  ·rw [e9, parse_itoa m m0 m1] at hp
   cases hp; rfl
  rcases hw with rfl | ⟨t, rfl⟩
  ·exact hv
  exact hv.ext (bytesWorld_ext w _ t)
 ·skip
  have h : Calls Tryz.prog 49 #[vS s, vI 10, vI 64] w _ := Any.strconv_ParseInt_10_at64_syntax Tryz.laysPI ⟨s.toArray⟩ (by omega) hp _ w c1 (.inr ⟨_, _, rfl⟩)
  refine h.mono ?_
  rintro e w' ⟨N, rfl, -, -, hx⟩
  refine ⟨0, _, rfl, .inr ⟨_, _, rfl⟩, by omega, fun m m0 m1 e9 => ?_, hv.ext hx⟩
  rw [e9, parse_itoa m m0 m1] at hp
  cases hp
 case range =>
  have h : Calls Tryz.prog 49 #[vS s, vI 10, vI 64] w _ := Any.strconv_ParseInt_10_at64_range Tryz.laysPI ⟨s.toArray⟩ (by omega) hp _ w c2 (.inr ⟨_, _, rfl⟩)
  refine h.mono ?_
  rintro e w' ⟨N, rfl, -, -, hx⟩
  refine ⟨_, _, rfl, .inr ⟨_, _, rfl⟩, ?_, fun m m0 m1 e9 => ?_, hv.ext hx⟩
  ·unfold Lib.intSat
   split <;> decide
  rw [e9, parse_itoa m m0 m1] at hp
  cases hp
theorem numB {W : World} {l : List (String × DataW Unit)} (hl0 : l.filter (fun x => x.1 == "internal/strconv.uint64pow10") = [("internal/strconv.uint64pow10", Lib.tabData .u64 Lib.pow10Tab)])
  {n1 n2 : String} {d1 d2 : DataW Unit} (hl1 : l.filter (fun x => x.1 == "strconv.ErrSyntax") = [("strconv.ErrSyntax", .iface n1 d1)]) (he1 : ([("strconv.ErrSyntax", (DataW.iface n1 d1 : DataW Unit))].filter fun x => x.2.handleName?.isNone) = [("strconv.ErrSyntax", .iface n1 d1)])
  (hl2 : l.filter (fun x => x.1 == "strconv.ErrRange") = [("strconv.ErrRange", .iface n2 d2)]) (he2 : ([("strconv.ErrRange", (DataW.iface n2 d2 : DataW Unit))].filter fun x => x.2.handleName?.isNone) = [("strconv.ErrRange", .iface n2 d2)]) (hL : laidMetH Tryz.prog l W) : NumB (Base.of W) := by
 have ht := tabOf hl0 hL
 obtain ⟨u1, v1, h1⟩ := errOf hl1 he1 (g := 0) (t := 123) (by kernel_rfl) (by kernel_rfl) Tryz.underlying123 hL
 obtain ⟨u2, v2, h2⟩ := errOf hl2 he2 (g := 1) (t := 123) (by kernel_rfl) (by kernel_rfl) Tryz.underlying123 hL
 exact fun C H hC => ⟨formatsInt C H W hC ht, parsesAny C H ((hasErr_of h1).more hC) ((hasErr_of h2).more hC)⟩
end Go.Proofs.YtanfkicimnfgjaaGreatDoor
namespace Go.Pm
open Go.RowKit
theorem rep_textsM {W : World} {S : Nat → Prop} {cs : List Value} {l : List (List UInt8)} (h : Rep W S (.slice .str) cs l) : ∃ a c, cs = [.slice a l.length c] ∧ SliceOk a l.length c ∧ RdV (Base.of W) [] a (textCells l) ∧ ∀ x ∈ l, x.length ≤ 9223372036854775807 := by
 have hb : ∀ x ∈ l, x.length ≤ 9223372036854775807 := by
  obtain ⟨a, cap, h1, h2, h4⟩ := h
  intro x hx
  obtain ⟨i, hi, rfl⟩ := List.getElem_of_mem hx
  obtain ⟨b, off, xs, e1, e2, e3, e4, e5⟩ := h4 i hi
  exact e5.2
 obtain ⟨a, c, xss, h1, h2, h3, h4⟩ := rep_row h
 rw [rep_texts h4] at h3
 exact ⟨a, c, h1, h2, h3, hb⟩
end Go.Pm
namespace Go.Proofs.YtanfkicimnfgjaaGreatDoor
open Go.RowKit Go.Pm
def laidAll : List (String × DataW Unit) := [("math/bits.deBruijn32tab", Rows.laid_math_bits_deBruijn32tab), ("math/bits.deBruijn64tab", Rows.laid_math_bits_deBruijn64tab), ("internal/strconv.uint64pow10", Rows.laid_internal_strconv_uint64pow10), ("strconv.ErrRange", Rows.laid_strconv_ErrRange), ("strconv.ErrSyntax", Rows.laid_strconv_ErrSyntax)]
abbrev dSyn : DataW Unit := .ptr (.agg [.lit (.string [105, 110, 118, 97, 108, 105, 100, 32, 115, 121, 110, 116, 97, 120])])
abbrev dRan : DataW Unit := .ptr (.agg [.lit (.string [118, 97, 108, 117, 101, 32, 111, 117, 116, 32, 111, 102, 32, 114, 97, 110, 103, 101])])
theorem numAll {W : World} (hL : laidMetH Tryz.prog laidAll W) : NumB (Base.of W) :=
 numB (l := laidAll) (n1 := "*errors.errorString") (d1 := dSyn) (n2 := "*errors.errorString") (d2 := dRan) (by kernel_rfl) (by kernel_rfl) (by kernel_rfl) (by kernel_rfl) (by kernel_rfl) hL
end Go.Proofs.YtanfkicimnfgjaaGreatDoor
