/- Views over a transaction: Of, Keep, May. -/
import Derived.Test.YtmpackidbgfoiaaGreatDoorCtFauC
import Derived.Test.YtmpackidbgfoiaaGreatDoorCtFauD
import Derived.Test.YtmpackidbgfoiaaGreatDoorCtFauB
import Derived.Test.YtmpackidbgfoiaaGreatDoorRows
import Derived.Shelf.Strconv.ParseIntPublic10
import Derived.Shelf.Strconv.Itoa4
import Derived.Ground.NamesProg
import Derived.Lib.ItoaNum
import Derived.Lib.AtoiAll
import Derived.Lib.ParseIntBTie
import Derived.Test.YtmpackidbgfoiaaGreatDoorCtFauA
import Derived.LaidLaws
import Derived.LaidSub
set_option maxRecDepth 100000
set_option maxHeartbeats 16000000
set_option synthInstance.maxSize 4096
set_option synthInstance.maxHeartbeats 400000
namespace Go.Proofs.YtmpackidbgfoiaaGreatDoor
open Go.RowKit Go.Pm
def FullV (x : Val) : Prop := x.kind = 1 ∨ 0 < x.pairs.length + x.texts.length + x.zset.length
def DeadM (M : List (List UInt8 × Ver)) (clk : Int) (k : List UInt8) : Prop := ∀ y, lookA M k = some y → aliveB y clk = false
def OfI (M : List (List UInt8 × Ver)) (clk : Int) (key : List UInt8) (kind : Int) (y : Ver) (ec : Int) : Prop :=
 (ec = 0 ∧ y = zver0 ∧ DeadM M clk key) ∨ (ec = 40 ∧ y = zver0 ∧ ∃ x, lookA M key = some x ∧ aliveB x clk = true ∧ x.val.kind ≠ kind) ∨ (ec = 0 ∧ lookA M key = some y ∧ aliveB y clk = true ∧ y.val.kind = kind)
def KeepI (M : List (List UInt8 × Ver)) (clk : Int) (key : List UInt8) (x : Val) (exp : Int) (ec : Int) (M' : List (List UInt8 × Ver)) : Prop :=
 (FullV x ∧ PutOk key x exp ∧ ec = 0 ∧ M' = updA M key ⟨0, false, exp, x⟩) ∨ (FullV x ∧ ¬ PutOk key x exp ∧ ec = 2 ∧ M' = M) ∨ (¬ FullV x ∧ DeadM M clk key ∧ ec = 0 ∧ M' = M) ∨
 (¬ FullV x ∧ (∃ y, lookA M key = some y ∧ aliveB y clk = true) ∧ ((key.length ≤ 256 ∧ ec = 0 ∧ M' = updA M key gver) ∨ (256 < key.length ∧ ec = 2 ∧ M' = M)))
def sizeV (x : Val) : Nat := if x.kind = 1 then x.text.length else x.pairs.length + x.texts.length + x.zset.length
theorem valAt_sl {B : Base} {v : Val} {p t z : Value} (h : ValAt B v p t z) : ∃ a b c i j k, p = .slice a v.pairs.length i ∧ t = .slice b v.texts.length j ∧ z = .slice c v.zset.length k := by
 obtain ⟨⟨a, i, h1, -⟩, ⟨b, j, h2, -⟩, ⟨c, k, h3, -⟩, -⟩ := h
 exact ⟨a, b, c, i, j, k, h1, h2, h3⟩
theorem valueSize0 (B : Base) (H : List Res) (w : World) (x : Val) (a b c : Option Addr) (i j k : Nat) (hp : x.pairs.length ≤ 1000000) (ht : x.texts.length ≤ 1000000) (hz : x.zset.length ≤ 1000000) (hv : Inv B H w) :
  Calls Tryz.prog 36 #[.agg #[vI x.kind, vS x.text, .slice a x.pairs.length i, .slice b x.texts.length j, .slice c x.zset.length k]] w fun e w' => e = .returned (vI (sizeV x : Int)) ∧ Inv B H w' := by
 refine cW Tryz.func36 rfl Tryz.ntmps36 ?_
 simp only [al]
 refine sK fun _ k1 => rL (sl_box (L := [vI x.kind, vS x.text, .slice a x.pairs.length i, .slice b x.texts.length j, .slice c x.zset.length k]) tV (wn rfl) rfl rfl hv (fun w => by kernel_rfl) (fun b2 w3 hv => ?_))
 refine uA rfl (uW k1 ?_)
 refine sK fun _ k4 => sK fun _ k5 => rL (uF (vP b2) rfl (s12fa60_0 _ _ _) ?_)
 refine uL _ rfl (run_load1 s2na3 (hv.load 0 0 rfl rfl)) ?_
 by_cases hb6 : x.kind = 1
 ·refine uG (.bool true) rfl (ex_eql rfl rfl rfl (qT hb6)) (uW k5 ?_)
  refine cT rfl (sK fun _ k7 => ?_)
  refine rL (uF (.pointer (some ⟨b2, 1, none⟩)) rfl (s12fa60_1 _ _ _) ?_)
  refine uL _ rfl (run_load1 s9na9 (hv.load 0 1 rfl rfl)) ?_
  refine uG (vI (x.text.length : Int)) rfl (ex_lenStr Tryz.underlying9 rfl rfl) (uA rfl ?_)
  refine uW k7 (rR ?_)
  refine tR (bR rfl rfl ?_)
  exact ⟨congrArg (fun n : Int => Ending.returned (vI n)) (by unfold sizeV; split <;> omega), (hv.kp [] 0 1)⟩
 refine uG (.bool false) rfl (ex_eql rfl rfl rfl (qF hb6)) (uW k5 ?_)
 refine cF rfl (kS ?_)
 refine tK k4 (sK fun _ k8 => ?_)
 refine rL (uF (.pointer (some ⟨b2, 2, none⟩)) rfl (s1fa60_2 _ _ _) ?_)
 refine uL _ rfl (run_load1 s1na57 (hv.load 0 2 rfl rfl)) ?_
 refine uG (vI (x.pairs.length : Int)) rfl (ex_len0 Tryz.underlying57 rfl rfl) ?_
 refine uF (.pointer (some ⟨b2, 3, none⟩)) rfl (s1fa60_3 _ _ _) ?_
 refine uL _ rfl (run_load1 s1na23 (hv.load 0 3 rfl rfl)) ?_
 refine uG (vI (x.texts.length : Int)) rfl (ex_len0 Tryz.underlying23 rfl rfl) ?_
 refine uG (vI ((x.pairs.length : Int) + (x.texts.length : Int))) rfl (ex_add rfl rfl rfl (i64_in (by omega))) ?_
 refine uF (.pointer (some ⟨b2, 4, none⟩)) rfl (s1fa60_4 _ _ _) ?_
 refine uL _ rfl (run_load1 s1na58 (hv.load 0 4 rfl rfl)) ?_
 refine uG (vI (x.zset.length : Int)) rfl (ex_len0 Tryz.underlying58 rfl rfl) ?_
 refine uG (vI (((x.pairs.length : Int) + (x.texts.length : Int)) + (x.zset.length : Int))) rfl (ex_add rfl rfl rfl (i64_in (by omega))) (uA rfl ?_)
 refine uW k8 (rR ?_)
 refine bR rfl rfl (⟨congrArg (fun n : Int => Ending.returned (vI n)) (by unfold sizeV; split <;> omega), (hv.kp [] 0 1)⟩)
theorem valueSize (B : Base) (H : List Res) (w : World) (x : Val) (p t z : Value) (h : ValAt B x p t z) (hv : Inv B H w) : Calls Tryz.prog 36 #[.agg (valCells x p t z).toArray] w fun e w' => e = .returned (vI (sizeV x : Int)) ∧ Inv B H w' := by
 obtain ⟨a, b, c, i, j, k, rfl, rfl, rfl⟩ := valAt_sl h
 exact valueSize0 B H w x a b c i j k h.pm h.tm h.zm hv
theorem refSize0 (B : Base) (H : List Res) (w : World) (x : Val) (a b c : Option Addr) (i j k : Nat) (hp : x.pairs.length ≤ 1000000) (ht : x.texts.length ≤ 1000000) (hz : x.zset.length ≤ 1000000) (hv : Inv B H w) :
  Calls Tryz.prog 38 #[.agg #[vI x.kind, vS x.text, .slice a x.pairs.length i, .slice b x.texts.length j, .slice c x.zset.length k]] w fun e w' => e = .returned (vI (sizeV x : Int)) ∧ Inv B H w' := by
 refine cW Tryz.func38 rfl Tryz.ntmps38 ?_
 simp only [al]
 refine sK fun _ k1 => rL (sl_box (L := [vI x.kind, vS x.text, .slice a x.pairs.length i, .slice b x.texts.length j, .slice c x.zset.length k]) tV (wn rfl) rfl rfl hv (fun w => by kernel_rfl) (fun b2 w3 hv => ?_))
 refine uA rfl (uW k1 ?_)
 refine sK fun _ k4 => sK fun _ k5 => rL (uF (vP b2) rfl (s12fa60_0 _ _ _) ?_)
 refine uL _ rfl (run_load1 s2na3 (hv.load 0 0 rfl rfl)) ?_
 by_cases hb6 : x.kind = 1
 ·refine uG (.bool true) rfl (ex_eql rfl rfl rfl (qT hb6)) (uW k5 ?_)
  refine cT rfl (sK fun _ k7 => ?_)
  refine rL (uF (.pointer (some ⟨b2, 1, none⟩)) rfl (s12fa60_1 _ _ _) ?_)
  refine uL _ rfl (run_load1 s9na9 (hv.load 0 1 rfl rfl)) ?_
  refine uG (vI (x.text.length : Int)) rfl (ex_lenStr Tryz.underlying9 rfl rfl) (uA rfl ?_)
  refine uW k7 (rR ?_)
  refine tR (bR rfl rfl ?_)
  exact ⟨congrArg (fun n : Int => Ending.returned (vI n)) (by unfold sizeV; split <;> omega), (hv.kp [] 0 1)⟩
 refine uG (.bool false) rfl (ex_eql rfl rfl rfl (qF hb6)) (uW k5 ?_)
 refine cF rfl (kS ?_)
 refine tK k4 (sK fun _ k8 => ?_)
 refine rL (uF (.pointer (some ⟨b2, 2, none⟩)) rfl (s1fa60_2 _ _ _) ?_)
 refine uL _ rfl (run_load1 s1na57 (hv.load 0 2 rfl rfl)) ?_
 refine uG (vI (x.pairs.length : Int)) rfl (ex_len0 Tryz.underlying57 rfl rfl) ?_
 refine uF (.pointer (some ⟨b2, 3, none⟩)) rfl (s1fa60_3 _ _ _) ?_
 refine uL _ rfl (run_load1 s1na23 (hv.load 0 3 rfl rfl)) ?_
 refine uG (vI (x.texts.length : Int)) rfl (ex_len0 Tryz.underlying23 rfl rfl) ?_
 refine uG (vI ((x.pairs.length : Int) + (x.texts.length : Int))) rfl (ex_add rfl rfl rfl (i64_in (by omega))) ?_
 refine uF (.pointer (some ⟨b2, 4, none⟩)) rfl (s1fa60_4 _ _ _) ?_
 refine uL _ rfl (run_load1 s1na58 (hv.load 0 4 rfl rfl)) ?_
 refine uG (vI (x.zset.length : Int)) rfl (ex_len0 Tryz.underlying58 rfl rfl) ?_
 refine uG (vI (((x.pairs.length : Int) + (x.texts.length : Int)) + (x.zset.length : Int))) rfl (ex_add rfl rfl rfl (i64_in (by omega))) (uA rfl ?_)
 refine uW k8 (rR ?_)
 refine bR rfl rfl (⟨congrArg (fun n : Int => Ending.returned (vI n)) (by unfold sizeV; split <;> omega), (hv.kp [] 0 1)⟩)
theorem refSize (B : Base) (H : List Res) (w : World) (x : Val) (p t z : Value) (h : ValAt B x p t z) (hv : Inv B H w) : Calls Tryz.prog 38 #[.agg (valCells x p t z).toArray] w fun e w' => e = .returned (vI (sizeV x : Int)) ∧ Inv B H w' := by
 obtain ⟨a, b, c, i, j, k, rfl, rfl, rfl⟩ := valAt_sl h
 exact refSize0 B H w x a b c i j k h.pm h.tm h.zm hv
theorem viewMay (B : Base) (H : List Res) (w : World) (ka : Option Addr) (kc : Nat) (ks : List (List UInt8)) (hr : RdV B [] ka (textCells ks)) (hm : ks.length ≤ 1000000) (hv : Inv B H w) :
  Calls Tryz.prog 105 #[.slice ka ks.length kc] w fun e w' => e = .returned (vI (if ks.any (fun s : List UInt8 => decide (s.length > 256)) then 2 else 0)) ∧ Inv B H w' := by
 refine cW Tryz.func105 rfl Tryz.ntmps105 ?_
 simp only [al]
 refine sK fun _ k1 => rL (uA rfl ?_)
 refine uW k1 (sK fun _ k2 => ?_)
 refine sK fun _ k3 => rL (uM rfl ?_)
 refine uG (vI (ks.length : Int)) rfl (ex_len0 Tryz.underlying23 rfl rfl) (uM rfl ?_)
 refine uW k3 (bB ?_)
 gi_loopw [7] (fun x7 wr => ∃ (i : Nat), x7 = vI i ∧ i ≤ ks.length ∧ (∀ j x, j < i → ks[j]? = some x → x.length ≤ 256) ∧ Inv B H wr) (fun x7 _ => ks.length - (intOf x7).toNat)
 case atStart => exact ⟨0, rfl, Nat.zero_le _, fun j x h => by omega, hv⟩
 case round =>
  obtain ⟨i, rfl, hi, hno, hv⟩ := hrel
  refine sK fun _ k5 => rL ?_
  by_cases hb6 : (i : Int) < (ks.length : Int)
  ·refine uG (.bool true) rfl (ex_lss rfl rfl rfl (qT hb6)) (uW k5 ?_)
   refine sK fun _ k7 => cT rfl (kS ?_)
   refine tK k7 (sK fun _ k8 => ?_)
   refine bB (sK fun _ k9 => ?_)
   obtain ⟨x, hx⟩ : ∃ x, ks[i]? = some x := ⟨_, List.getElem?_eq_getElem (show i < ks.length by omega)⟩
   obtain ⟨bb, bo, had, hrdx⟩ := text_reads hr hx
   subst had
   refine rL (uG (.pointer (some ⟨bb, bo + i, none⟩)) rfl (ex_index rfl rfl rfl (run_idx1 (k := i) Tryz.underlying23 s9es23 (by omega))) ?_)
   refine uL _ rfl (run_load1 s9na9 (hrdx _ _ _ (Base.Le.refl _) no_res hv 0 _ rfl)) (uA rfl ?_)
   refine uW k9 (sK fun _ k10 => ?_)
   refine rL (uM rfl ?_)
   refine uG (vI (x.length : Int)) rfl (ex_lenStr Tryz.underlying9 rfl rfl) ?_
   by_cases hb11 : (x.length : Int) > 256
   ·refine uG (.bool true) rfl (ex_gtr rfl rfl rfl (qT hb11)) (uW k10 ?_)
    refine cT rfl (sK fun _ k12 => ?_)
    refine rL (uA rfl ?_)
    refine uW k12 (rR ?_)
    refine bZ (tR ?_)
    refine tR (bZ ?_)
    refine tR (bR rfl rfl ?_)
    exact ⟨congrArg (fun n : Int => Ending.returned (vI n)) (if_pos (any_of hx (by simp; omega))).symm, hv⟩
   refine uG (.bool false) rfl (ex_gtr rfl rfl rfl (qF hb11)) (uW k10 ?_)
   refine cF rfl (kS ?_)
   refine bN (tK k8 ?_)
   refine rL (uG (vI ((i + 1 : Nat) : Int)) rfl (ex_add rfl rfl rfl (by rw [i64_in (by omega)]; omega)) ?_)
   refine uM rfl (uZ ?_)
   refine then_normal ?_
   go_roundw
   case rel => exact ⟨i + 1, rfl, by omega, fun j x' hj hx' => (by
      rcases Nat.lt_or_ge j i with h | h
      ·exact hno j x' h hx'
      obtain rfl : j = i := by omega
      rw [hx] at hx'; cases hx'; omega), hv⟩
   case measure => show ks.length - (((i + 1 : Nat) : Int)).toNat < ks.length - ((i : Int)).toNat; omega
  refine uG (.bool false) rfl (ex_lss rfl rfl rfl (qF hb6)) (uW k5 ?_)
  refine sK fun _ k13 => cF rfl (xE ?_)
  refine tX (tX ?_)
  refine bH (tK k2 ?_)
  refine sK fun _ k14 => rL (uA rfl ?_)
  refine uW k14 (rR ?_)
  refine bR rfl rfl ?_
  obtain rfl : i = ks.length := by omega
  exact ⟨congrArg (fun n : Int => Ending.returned (vI n)) (if_neg (by rw [any_none (fun i x hx => by simpa using hno i x (List.getElem?_eq_some_iff.1 hx).1 hx)]; decide)).symm, hv⟩
theorem v1al81 : AL Tryz.prog 81 [vI 0, .bool false, vI 0, vI 0, vS [], vN, vN, vN] := fun w => by kernel_rfl
theorem v1al44 : AL Tryz.prog 44 [vI 0] := fun w => by kernel_rfl
theorem v1fa79_0 : FA Tryz.prog 79 0 0 := fun w b o => by kernel_rfl
theorem v1na77 (w : World) : (isAgg 77).run Tryz.prog w = .ok false w := by kernel_rfl
theorem v1callable172 : Callable Tryz.prog 172 := cb Tryz.func172 (by kernel_rfl)
theorem v1sz44 : (Tryz.prog.info? 44).map (·.size) = some 1 := by kernel_rfl
theorem v1na44 (w : World) : (isAgg 44).run Tryz.prog w = .ok false w := by kernel_rfl
theorem v1callable97 : Callable Tryz.prog 97 := cb Tryz.func97 (by kernel_rfl)
theorem v1rec97 (n : Nat) (x0 x1 : Value) (w : World) : CallsDIn Fence.wide n Tryz.prog 97 #[x0, x1] .returning w fun e u' w' => e = .returned (.tuple #[]) ∧ u' = .returning ∧ w' = w := by
 refine callsDIn_of_wpSIn Tryz.func97 rfl trivial fun c₀ cs hu => ?_
 apply wpSIn_seq
 apply wpSIn_region
 simp [wpOpsSIn, go_sem, recoverD, hu, Tryz.ntmps97, Exit.thenS]
 refine wpSIn_cond (t := false) (by simp [Act.eval, Array.replicate]) ?_
 simp only [Bool.false_eq_true, if_false]
 refine wpSIn_of_wpIn rfl (wpIn_skip ?_)
 cases c₀
 simp_all [bodyPostS, results, Tryz.results97]
theorem viewOf (B : Base) (H : List Res) (w : World) (v t m s p wb : Nat) (va : Option Addr) (vc : Nat) (sv : Value) (clk : Int) (es : List (List UInt8 × Value)) (M : List (List UInt8 × Ver)) (key : List UInt8) (kind : Int) (hM : VM B es M) (hv : Inv B (Res.cell v [.iface 52 (vP t)] 79 :: txR t m s p wb va vc sv clk es :: H) w) :
  Calls Tryz.prog 75 #[vP v, vS key, vI kind] w fun e w' => ∃ C y p' t' z' ec, B.Le C ∧ e = .returned (.tuple #[.agg (verCells y p' t' z').toArray, vI ec]) ∧ ValAt C y.val p' t' z' ∧ OfI M clk key kind y ec ∧ Inv C (Res.cell v [.iface 52 (vP t)] 79 :: txR t m s p wb va vc sv clk es :: H) w' := by
 refine (callsIn_wide (n := 5)).1 (callsIn_of_wp_defers Tryz.func75 rfl trivial ?_)
 simp only [Tryz.ntmps75, List.size_toArray, List.length_cons, List.length_nil, Nat.reduceAdd, Nat.reduceSub, Array.replicate_succ, Array.replicate_zero, List.push_toArray, List.append_toArray, List.nil_append, List.cons_append]
 refine sK fun _ k1 => rL (sl_alloc tV (wn rfl) rfl hv v1al81 (fun b2 w3 hv => ?_))
 refine sl_alloc tV (wn rfl) rfl hv v1al44 (fun b4 w5 hv => ?_)
 refine uW k1 (sK fun _ k6 => ?_)
 refine rL (uG (.func (.func 97) #[] #[vP b2, vP b4]) rfl (ex_makeFunc (c' := #[vP b2, vP b4]) rfl (by simp only [List.map_toArray, List.map_nil]) (by simp only [List.map_toArray, List.map_cons, List.map_nil]; rfl)) ?_)
 refine wpi_defer tV rfl (wn rfl) rfl rfl (uW k6 ?_)
 refine sK fun _ k7 => rL (uM rfl ?_)
 refine uG (vP v) rfl (ex_nil rfl rfl) ?_
 refine uF (vP v) rfl (v1fa79_0 _ _ _) ?_
 refine uL _ rfl (run_load1 v1na77 (hv.load 2 0 rfl rfl)) (uM rfl ?_)
 replace hv := hv.front 3 rfl
 simp only [eS, eZ] at hv
 refine wpi_callI v1callable172 tV wideC rfl (wn rfl) rfl rfl (r := vP t) (fun w => by kernel_rfl) (args := #[vS key]) (by simp only [List.map_toArray, List.map_cons, List.map_nil]; rfl) ((txnGet B _ _ t m s p wb va vc sv clk es M key hM hv).mono ?_)
 rintro e w8 ⟨C, x, xp, xt, xz, ok, hBC, rfl, hget, hxv, hv⟩
 refine ⟨_, rfl, ?_⟩
 rcases hget with ⟨rfl, hlk, hal⟩ | ⟨rfl, hx0, hdead⟩
 ·refine uM rfl (uE rfl ?_)
  refine uE rfl ?_
  refine sl_alloc tV (wn rfl) rfl hv v1al81 (fun b9 w10 hv => ?_)
  refine xS 0 rfl hv x0sz81 rfl (by exact ⟨rfl, rfl, rfl, rfl, rfl, hxv.p.one, hxv.t.one, hxv.z.one, trivial⟩) (fun w11 hv => ?_)
  simp only [zO, sp] at hv
  refine uA rfl (uW k7 ?_)
  refine sK fun _ k12 => sK fun _ k13 => rL (uM rfl ?_)
  refine uG (.bool false) rfl (ex_not rfl rfl rfl) (uW k13 ?_)
  refine cF rfl (kS ?_)
  refine tK k12 (sK fun _ k14 => ?_)
  refine sK fun _ k15 => rL (uF (.pointer (some ⟨b9, 3, none⟩)) rfl (x2fa81_3 _ _ _) ?_)
  refine uF (.pointer (some ⟨b9, 3, none⟩)) rfl (s12fa60_0 _ _ _) ?_
  refine uL _ rfl (run_load1 s2na3 (hv.load 0 3 rfl rfl)) (uM rfl ?_)
  by_cases hb16 : x.val.kind ≠ kind
  ·refine uG (.bool true) rfl (ex_neq rfl rfl rfl (qT hb16)) (uW k15 ?_)
   refine cT rfl (sK fun _ k17 => ?_)
   refine rL (uG (.agg #[vI 0, .bool false, vI 0, vI 0, vS [], vN, vN, vN]) rfl (ex_buildN (vs := #[]) rfl (by simp only [List.map_toArray, List.map_nil]) (by kernel_rfl)) ?_)
   refine xS 3 rfl hv x0sz81 rfl (by exact ⟨rfl, rfl, rfl, rfl, rfl, rfl, rfl, rfl, trivial⟩) (fun w18 hv => ?_)
   simp only [zS, zO, sp] at hv
   refine xV 2 (vI 40) rfl hv v1sz44 rfl rfl (fun w19 hv => ?_)
   simp only [zS, zO, sp] at hv
   refine uW k17 (rR ?_)
   refine tR (leave_rec v1callable97 (v1rec97 _ _ _ _) (res_cells2 rfl rfl (lM 3 x0wd81 hv rfl rfl rfl rfl) rfl (run_load1 v1na44 (hv.load 2 0 rfl rfl))) ?_)
   exact ⟨_, zver0, _, _, _, 40, hBC, rfl, zver0_at _, .inr (.inl ⟨rfl, rfl, x, hlk, hal, hb16⟩), (hv.kp [1, 4] 2 3)⟩
  refine uG (.bool false) rfl (ex_neq rfl rfl rfl (qF hb16)) (uW k15 ?_)
  refine cF rfl (kS ?_)
  refine tK k14 (sK fun _ k20 => ?_)
  refine rL (uF (.pointer (some ⟨b9, 3, none⟩)) rfl (x2fa81_3 _ _ _) ?_)
  refine uL (.agg #[vI x.val.kind, vS x.val.text, xp, xt, xz]) rfl (lM 0 s1wd60 hv rfl rfl rfl rfl) ?_
  refine xC x2callable37 rfl ((valueClone _ _ _ x.val xp xt xz (hxv.more (Base.Le.refl _)) hv).mono ?_) rfl
  rintro e w25 ⟨C21, p22, t23, z24, hC21, rfl, hp22, hv⟩
  refine ⟨_, rfl, uF (.pointer (some ⟨b9, 3, none⟩)) rfl (x2fa81_3 _ _ _) ?_⟩
  refine xS 0 rfl hv s1sz60 rfl (by exact ⟨rfl, rfl, hp22.p.one, hp22.t.one, hp22.z.one, trivial⟩) (fun w26 hv => ?_)
  simp only [zO, sp] at hv
  refine uW k20 (sK fun _ k27 => ?_)
  refine rL (uL (.agg #[vI x.stamp, .bool x.gone, vI x.expire, vI x.val.kind, vS x.val.text, p22, t23, z24]) rfl (lM 0 x0wd81 hv rfl rfl rfl rfl) ?_)
  refine xS 3 rfl hv x0sz81 rfl (by exact ⟨rfl, rfl, rfl, rfl, rfl, hp22.p.one, hp22.t.one, hp22.z.one, trivial⟩) (fun w28 hv => ?_)
  simp only [zS, zO, sp] at hv
  refine xV 2 (vI 0) rfl hv v1sz44 rfl rfl (fun w29 hv => ?_)
  simp only [zS, zO, sp] at hv
  refine uW k27 (rR ?_)
  refine leave_rec v1callable97 (v1rec97 _ _ _ _) (res_cells2 rfl rfl (lM 3 x0wd81 hv rfl rfl rfl rfl) rfl (run_load1 v1na44 (hv.load 2 0 rfl rfl))) (⟨_, x, _, _, _, 0, (hBC.trans hC21), rfl, hp22, .inr (.inr ⟨rfl, hlk, hal, by omega⟩), (hv.kp [1, 4] 2 3)⟩)
 refine uM rfl (uE rfl ?_)
 refine uE rfl ?_
 refine sl_alloc tV (wn rfl) rfl hv v1al81 (fun b30 w31 hv => ?_)
 refine xS 0 rfl hv x0sz81 rfl (by exact ⟨rfl, rfl, rfl, rfl, rfl, hxv.p.one, hxv.t.one, hxv.z.one, trivial⟩) (fun w32 hv => ?_)
 simp only [zO, sp] at hv
 refine uA rfl (uW k7 ?_)
 refine sK fun _ k33 => sK fun _ k34 => rL (uM rfl ?_)
 refine uG (.bool true) rfl (ex_not rfl rfl rfl) (uW k34 ?_)
 refine cT rfl (sK fun _ k35 => ?_)
 refine rL (uG (.agg #[vI 0, .bool false, vI 0, vI 0, vS [], vN, vN, vN]) rfl (ex_buildN (vs := #[]) rfl (by simp only [List.map_toArray, List.map_nil]) (by kernel_rfl)) ?_)
 refine xS 3 rfl hv x0sz81 rfl (by exact ⟨rfl, rfl, rfl, rfl, rfl, rfl, rfl, rfl, trivial⟩) (fun w36 hv => ?_)
 simp only [zS, zO, sp] at hv
 refine xV 2 (vI 0) rfl hv v1sz44 rfl rfl (fun w37 hv => ?_)
 simp only [zS, zO, sp] at hv
 refine uW k35 (rR ?_)
 refine tR (leave_rec v1callable97 (v1rec97 _ _ _ _) (res_cells2 rfl rfl (lM 3 x0wd81 hv rfl rfl rfl rfl) rfl (run_load1 v1na44 (hv.load 2 0 rfl rfl))) ?_)
 exact ⟨_, zver0, _, _, _, 0, hBC, rfl, zver0_at _, .inl ⟨rfl, rfl, hdead⟩, (hv.kp [1, 4] 2 3)⟩
theorem v1callable174 : Callable Tryz.prog 174 := cb Tryz.func174 (by kernel_rfl)
theorem v1callable35 : Callable Tryz.prog 35 := cb Tryz.func35 (by kernel_rfl)
theorem v1rec35 (n : Nat) (x0 : Value) (w : World) : CallsDIn Fence.wide n Tryz.prog 35 #[x0] .returning w fun e u' w' => e = .returned (.tuple #[]) ∧ u' = .returning ∧ w' = w := by
 refine callsDIn_of_wpSIn Tryz.func35 rfl trivial fun c₀ cs hu => ?_
 apply wpSIn_seq
 apply wpSIn_region
 simp [wpOpsSIn, go_sem, recoverD, hu, Tryz.ntmps35, Exit.thenS]
 refine wpSIn_cond (t := false) (by simp [Act.eval, Array.replicate]) ?_
 simp only [Bool.false_eq_true, if_false]
 refine wpSIn_of_wpIn rfl (wpIn_skip ?_)
 cases c₀
 simp_all [bodyPostS, results, Tryz.results35]
theorem v1callable36 : Callable Tryz.prog 36 := cb Tryz.func36 (by kernel_rfl)
theorem v1mk9 : (Tryz.prog.info? 9).map (fun i => (i.zero, i.size, i.bytes)) = some (some (vS []), 1, 16) := by kernel_rfl
theorem v1el23 : Elem Tryz.prog 23 9 (vS []) 1 16 := elem_of Tryz.underlying23 v1mk9 (by rfl) (by decide)
theorem v1callable171 : Callable Tryz.prog 171 := cb Tryz.func171 (by kernel_rfl)
theorem viewKeep (B : Base) (H : List Res) (w : World) (v t m s p wb : Nat) (va : Option Addr) (vc : Nat) (sv : Value) (clk : Int) (es : List (List UInt8 × Value)) (M : List (List UInt8 × Ver)) (key : List UInt8) (x : Val) (xp xt xz : Value) (exp : Int) (hM : VM B es M) (hval : ValAt B x xp xt xz) (hv : Inv B (Res.cell v [.iface 52 (vP t)] 79 :: txR t m s p wb va vc sv clk es :: H) w) :
  Calls Tryz.prog 18 #[vP v, vS key, .agg #[vI x.kind, vS x.text, xp, xt, xz], vI exp] w fun e w' => ∃ C es' M' ec, B.Le C ∧ e = .returned (vI ec) ∧ VM C es' M' ∧ KeepI M clk key x exp ec M' ∧ Inv C (Res.cell v [.iface 52 (vP t)] 79 :: txR t m s p wb va vc sv clk es' :: H) w' := by
 refine (callsIn_wide (n := 5)).1 (callsIn_of_wp_defers Tryz.func18 rfl trivial ?_)
 simp only [Tryz.ntmps18, List.size_toArray, List.length_cons, List.length_nil, Nat.reduceAdd, Nat.reduceSub, Array.replicate_succ, Array.replicate_zero, List.push_toArray, List.append_toArray, List.nil_append, List.cons_append]
 refine sK fun _ k1 => rL (sl_box (L := [vI x.kind, vS x.text, xp, xt, xz]) tV (wn rfl) rfl rfl hv (fun w => by kernel_rfl) (fun b2 w3 hv => ?_))
 refine sl_alloc tV (wn rfl) rfl hv v1al44 (fun b4 w5 hv => ?_)
 refine uW k1 (sK fun _ k6 => ?_)
 refine rL (uG (.func (.func 35) #[] #[vP b4]) rfl (ex_makeFunc (c' := #[vP b4]) rfl (by simp only [List.map_toArray, List.map_nil]) (by simp only [List.map_toArray, List.map_cons, List.map_nil]; rfl)) ?_)
 refine wpi_defer tV rfl (wn rfl) rfl rfl (uW k6 ?_)
 refine sK fun _ k7 => sK fun _ k8 => rL (uF (vP b2) rfl (s12fa60_0 _ _ _) ?_)
 refine uL _ rfl (run_load1 s2na3 (hv.load 1 0 rfl rfl)) ?_
 by_cases hb9 : x.kind = 1
 ·refine uG (.bool true) rfl (ex_eql rfl rfl rfl (qT hb9)) (uM rfl ?_)
  iterate 3 refine uP rfl ?_
  refine uK rfl (uW k8 ?_)
  refine cT rfl (sK fun _ k10 => ?_)
  refine rW mixed [6, 10, 11] [0,1,2,3,4,5,7,8,9,6,10,11] 48 rfl (by kernel_rfl) hv ?_
  simp only [qm, opAt]
  refine dM (vP v) rfl (dG (vP v) rfl (ex_nil rfl rfl) ?_)
  refine dG (vP v) rfl (ex_field rfl rfl (v1fa79_0 _ _ _)) ?_
  simp only [zP, po]
  refine dF _ rfl (fun hv => ex_load rfl rfl (run_load1 v1na77 (hv.load 2 0 rfl rfl))) fun f11 hf11 => dM (vS key) rfl (dL (.agg #[vI x.kind, vS x.text, xp, xt, xz]) rfl (fun hv => ex_load rfl rfl (lM 1 s1wd60 hv rfl rfl rfl rfl)) ?_)
  simp only [zP, po]
  refine dM (vI exp) rfl (dG (.iface 52 (vP t)) rfl (ex_nilI rfl rfl) ?_)
  refine dM (.iface 52 (vP t)) rfl ?_
  simp only [zP, po]
  refine dS rfl fun w12 hv => mC x2callable37 rfl ((valueClone _ _ _ x xp xt xz (hval.more (Base.Le.refl _)) hv).mono ?_) rfl
  rintro e w17 ⟨C13, p14, t15, z16, hC13, rfl, hp14, hv⟩
  refine ⟨_, rfl, dV hv (fC (fun ww hv => hf11 ww (ex_load rfl rfl (run_load1 v1na77 (hv.load 2 0 rfl rfl)))) fN) ?_⟩
  refine dS rfl fun w18 hv => ?_
  replace hv := hv.front 3 rfl
  simp only [eS, eZ] at hv
  refine stepMem_callI v1callable174 rfl rfl rfl (r := vP t) (fun w => by kernel_rfl) (args := #[vS key, .agg #[vI x.kind, vS x.text, p14, t15, z16], vI exp]) (by simp only [List.map_toArray, List.map_cons, List.map_nil]; rfl) ((txnPut C13 _ _ t m s p wb va vc sv clk es M key x p14 t15 z16 exp (hM.more hC13) hp14 hv).mono ?_)
  rintro e w19 ⟨D, es2, ec, hD, rfl, hput, hv⟩
  refine ⟨_, rfl, dV hv (fK rfl fN) ?_⟩
  refine dS rfl fun w20 hv => mV 1 (vI ec) rfl hv v1sz44 rfl rfl (fun w21 hv => ?_)
  simp only [zS, zO, sp] at hv
  refine dV hv (fK rfl fN) (dE fun w22 hv => ?_)
  simp only [zP, po]
  refine tK k10 (rR ?_)
  refine tR (leave_rec v1callable35 (v1rec35 _ _ _) (res_cell1 rfl rfl (run_load1 v1na44 (hv.load 1 0 rfl rfl))) ?_)
  have hfull : FullV x := .inl hb9
  rcases hput with ⟨rfl, hok, hM2⟩ | ⟨rfl, hok, he9⟩
  ·exact ⟨_, _, _, 0, (hC13.trans hD), rfl, hM2, .inl ⟨hfull, hok, rfl, rfl⟩, (hv.kp [3] 2 2)⟩
  rw [he9] at hv
  exact ⟨_, _, M, 2, (hC13.trans hD), rfl, hM.more (hC13.trans hD), .inr (.inl ⟨hfull, hok, rfl, rfl⟩), (hv.kp [3] 2 2)⟩
 refine uG (.bool false) rfl (ex_eql rfl rfl rfl (qF hb9)) (uM rfl ?_)
 refine uL (.agg #[vI x.kind, vS x.text, xp, xt, xz]) rfl (lM 1 s1wd60 hv rfl rfl rfl rfl) ?_
 refine xC v1callable36 rfl ((valueSize B _ _ x xp xt xz hval hv).mono ?_) rfl
 rintro e w23 ⟨rfl, hv⟩
 refine ⟨_, rfl, ?_⟩
 simp only [zP, po]
 by_cases hb24 : (sizeV x : Int) > 0
 ·refine uG (.bool true) rfl (ex_gtr rfl rfl rfl (qT hb24)) (uK rfl ?_)
  refine uW k8 (cT rfl ?_)
  refine sK fun _ k25 => rW mixed [6, 10, 11] [0,1,2,3,4,5,7,8,9,6,10,11] 48 rfl (by kernel_rfl) hv ?_
  simp only [qm, opAt]
  refine dM (vP v) rfl (dG (vP v) rfl (ex_nil rfl rfl) ?_)
  refine dG (vP v) rfl (ex_field rfl rfl (v1fa79_0 _ _ _)) ?_
  simp only [zP, po]
  refine dF _ rfl (fun hv => ex_load rfl rfl (run_load1 v1na77 (hv.load 2 0 rfl rfl))) fun f26 hf26 => dM (vS key) rfl (dL (.agg #[vI x.kind, vS x.text, xp, xt, xz]) rfl (fun hv => ex_load rfl rfl (lM 1 s1wd60 hv rfl rfl rfl rfl)) ?_)
  simp only [zP, po]
  refine dM (vI exp) rfl (dG (.iface 52 (vP t)) rfl (ex_nilI rfl rfl) ?_)
  refine dM (.iface 52 (vP t)) rfl ?_
  simp only [zP, po]
  refine dS rfl fun w27 hv => mC x2callable37 rfl ((valueClone _ _ _ x xp xt xz (hval.more (Base.Le.refl _)) hv).mono ?_) rfl
  rintro e w32 ⟨C28, p29, t30, z31, hC28, rfl, hp29, hv⟩
  refine ⟨_, rfl, dV hv (fC (fun ww hv => hf26 ww (ex_load rfl rfl (run_load1 v1na77 (hv.load 2 0 rfl rfl)))) fN) ?_⟩
  refine dS rfl fun w33 hv => ?_
  replace hv := hv.front 3 rfl
  simp only [eS, eZ] at hv
  refine stepMem_callI v1callable174 rfl rfl rfl (r := vP t) (fun w => by kernel_rfl) (args := #[vS key, .agg #[vI x.kind, vS x.text, p29, t30, z31], vI exp]) (by simp only [List.map_toArray, List.map_cons, List.map_nil]; rfl) ((txnPut C28 _ _ t m s p wb va vc sv clk es M key x p29 t30 z31 exp (hM.more hC28) hp29 hv).mono ?_)
  rintro e w34 ⟨D, es2, ec, hD, rfl, hput, hv⟩
  refine ⟨_, rfl, dV hv (fK rfl fN) ?_⟩
  refine dS rfl fun w35 hv => mV 1 (vI ec) rfl hv v1sz44 rfl rfl (fun w36 hv => ?_)
  simp only [zS, zO, sp] at hv
  refine dV hv (fK rfl fN) (dE fun w37 hv => ?_)
  simp only [zP, po]
  refine tK k25 (rR ?_)
  refine tR (leave_rec v1callable35 (v1rec35 _ _ _) (res_cell1 rfl rfl (run_load1 v1na44 (hv.load 1 0 rfl rfl))) ?_)
  have hfull : FullV x := .inr (by have h9 := hb24; unfold sizeV at h9; rw [if_neg hb9] at h9; omega)
  rcases hput with ⟨rfl, hok, hM2⟩ | ⟨rfl, hok, he9⟩
  ·exact ⟨_, _, _, 0, (hC28.trans hD), rfl, hM2, .inl ⟨hfull, hok, rfl, rfl⟩, (hv.kp [3] 2 2)⟩
  rw [he9] at hv
  exact ⟨_, _, M, 2, (hC28.trans hD), rfl, hM.more (hC28.trans hD), .inr (.inl ⟨hfull, hok, rfl, rfl⟩), (hv.kp [3] 2 2)⟩
 refine uG (.bool false) rfl (ex_gtr rfl rfl rfl (qF hb24)) (uK rfl ?_)
 refine uW k8 (cF rfl ?_)
 refine kS (tK k7 ?_)
 refine sK fun _ k38 => sK fun _ k39 => rL (uM rfl ?_)
 refine uG (vP v) rfl (ex_nil rfl rfl) ?_
 refine uF (vP v) rfl (v1fa79_0 _ _ _) ?_
 refine uL _ rfl (run_load1 v1na77 (hv.load 2 0 rfl rfl)) (uM rfl ?_)
 replace hv := hv.front 3 rfl
 simp only [eS, eZ] at hv
 refine wpi_callI v1callable172 tV wideC rfl (wn rfl) rfl rfl (r := vP t) (fun w => by kernel_rfl) (args := #[vS key]) (by simp only [List.map_toArray, List.map_cons, List.map_nil]; rfl) ((txnGet B _ _ t m s p wb va vc sv clk es M key hM hv).mono ?_)
 rintro e w40 ⟨C, x2, yp, yt, yz, ok, hBC, rfl, hget, hyv, hv⟩
 refine ⟨_, rfl, ?_⟩
 rcases hget with ⟨rfl, hlk, hal⟩ | ⟨rfl, hx0, hdead⟩
 ·refine uM rfl (uE rfl ?_)
  refine uE rfl ?_
  refine sl_alloc tV (wn rfl) rfl hv v1al81 (fun b41 w42 hv => ?_)
  refine xS 0 rfl hv x0sz81 rfl (by exact ⟨rfl, rfl, rfl, rfl, rfl, hyv.p.one, hyv.t.one, hyv.z.one, trivial⟩) (fun w43 hv => ?_)
  simp only [zO, sp] at hv
  refine uA rfl (uW k39 ?_)
  refine sK fun _ k44 => rL (uM rfl ?_)
  refine uW k44 (cT rfl ?_)
  refine sK fun _ k45 => rL (uM rfl ?_)
  refine uG (vP v) rfl (ex_nil rfl rfl) ?_
  refine uF (vP v) rfl (v1fa79_0 _ _ _) ?_
  refine uL _ rfl (run_load1 v1na77 (hv.load 4 0 rfl rfl)) (uM rfl ?_)
  refine sl_rowOne (v := vS key) tV (wn rfl) rfl rfl hv v1el23 rfl (fun b46 w47 hv => ?_)
  simp only [zP, po]
  obtain ⟨D, hD, hv, hrk, -, -⟩ := (hv.cellRow (n := 1) (c := 1) (size := 1) rfl (by decide) (by decide)).rowBy
  replace hv := hv.front 1 rfl
  simp only [eS, eZ] at hv
  refine wpi_callI v1callable171 tV wideC rfl (wn rfl) rfl rfl (r := vP t) (fun w => by kernel_rfl) (args := #[.slice (some ⟨b46, 0, none⟩) 1 1]) (by simp only [List.map_toArray, List.map_cons, List.map_nil]; rfl) ((txnDel D _ _ t m s p wb va vc sv clk es M _ 1 [key] hrk (by simp) (hM.more (hBC.trans hD)) hv).mono ?_)
  rintro e w48 ⟨es2, ec, rfl, hdel, hv⟩
  refine ⟨_, rfl, ?_⟩
  refine xV 2 (vI ec) rfl hv v1sz44 rfl rfl (fun w49 hv => ?_)
  simp only [zS, zO, sp] at hv
  refine uW k45 (rR ?_)
  refine tR (leave_rec v1callable35 (v1rec35 _ _ _) (res_cell1 rfl rfl (run_load1 v1na44 (hv.load 2 0 rfl rfl))) ?_)
  have hnf : ¬ FullV x := fun h => h.elim hb9 (fun h => by have h9 := hb24; unfold sizeV at h9; rw [if_neg hb9] at h9; omega)
  rcases hdel with ⟨rfl, hk, hM2⟩ | ⟨rfl, hk, he9⟩
  ·exact ⟨_, _, updA M key gver, 0, (hBC.trans hD), rfl, hM2, .inr (.inr (.inr ⟨hnf, ⟨x2, hlk, hal⟩, .inl ⟨by simpa using hk, rfl, rfl⟩⟩)), (hv.kp [4] 2 3)⟩
  rw [he9] at hv
  exact ⟨_, _, M, 2, (hBC.trans hD), rfl, hM.more (hBC.trans hD), .inr (.inr (.inr ⟨hnf, ⟨x2, hlk, hal⟩, .inr ⟨by simpa using hk, rfl, rfl⟩⟩)), (hv.kp [4] 2 3)⟩
 refine uM rfl (uE rfl ?_)
 refine uE rfl ?_
 refine sl_alloc tV (wn rfl) rfl hv v1al81 (fun b50 w51 hv => ?_)
 refine xS 0 rfl hv x0sz81 rfl (by exact ⟨rfl, rfl, rfl, rfl, rfl, hyv.p.one, hyv.t.one, hyv.z.one, trivial⟩) (fun w52 hv => ?_)
 simp only [zO, sp] at hv
 refine uA rfl (uW k39 ?_)
 refine sK fun _ k53 => rL (uM rfl ?_)
 refine uW k53 (cF rfl ?_)
 refine kS (tK k38 ?_)
 refine sK fun _ k54 => rL (xV 2 (vI 0) rfl hv v1sz44 rfl rfl (fun w55 hv => ?_))
 simp only [zS, zO, sp] at hv
 refine uW k54 (rR ?_)
 refine leave_rec v1callable35 (v1rec35 _ _ _) (res_cell1 rfl rfl (run_load1 v1na44 (hv.load 2 0 rfl rfl))) ?_
 have hnf : ¬ FullV x := fun h => h.elim hb9 (fun h => by have h9 := hb24; unfold sizeV at h9; rw [if_neg hb9] at h9; omega)
 exact ⟨_, _, M, 0, hBC, rfl, hM.more hBC, .inr (.inr (.inl ⟨hnf, hdead, rfl, rfl⟩)), (hv.kp [1, 4] 2 3)⟩
end Go.Proofs.YtmpackidbgfoiaaGreatDoor
namespace Go.Pm
open Go.RowKit
structure KeyR where
 name : List UInt8
 val : Val
 exp : Int
abbrev krCells (v : KeyR) (p t z : Value) : List Value := [strV v.name, .int .i64 v.val.kind, strV v.val.text, p, t, z, .int .i64 v.exp]
theorem krCells_one {B : Base} {v : KeyR} {p t z : Value} (h : ValAt B v.val p t z) : ∀ u ∈ krCells v p t z, u.oneCell' = true := by
 intro u hu
 simp only [List.mem_cons, List.not_mem_nil, or_false] at hu
 rcases hu with rfl | rfl | rfl | rfl | rfl | rfl | rfl
 ·rfl
 ·rfl
 ·rfl
 ·exact h.p.one
 ·exact h.t.one
 ·exact h.z.one
 rfl
def KeysAt (B : Base) : List KeyR → List Value → Prop
 | [], xs => xs = []
 | v :: l, xs => ∃ p t z r, xs = krCells v p t z ++ r ∧ ValAt B v.val p t z ∧ KeysAt B l r
theorem KeysAt.more {B C : Base} (hB : B.Le C) : ∀ {l : List KeyR} {xs : List Value}, KeysAt B l xs → KeysAt C l xs
 | [], _, h => h
 | _ :: _, _, ⟨p, t, z, r, h1, h2, h3⟩ => ⟨p, t, z, r, h1, h2.more hB, KeysAt.more hB h3⟩
theorem KeysAt.append {B : Base} {k : List KeyR} {ys : List Value} (hk : KeysAt B k ys) : ∀ {l : List KeyR} {xs : List Value}, KeysAt B l xs → KeysAt B (l ++ k) (xs ++ ys)
 | [], xs, h => by
  cases (show xs = [] from h)
  exact hk
 | v :: l, xs, ⟨p, t, z, r, h1, h2, h3⟩ => by
  subst h1
  exact ⟨p, t, z, r ++ ys, by rw [List.append_assoc], h2, KeysAt.append hk h3⟩
theorem KeysAt.single {B : Base} {v : KeyR} {p t z : Value} (h : ValAt B v.val p t z) : KeysAt B [v] (krCells v p t z) := ⟨p, t, z, [], by simp, h, rfl⟩
theorem KeysAt.len {B : Base} : ∀ {l : List KeyR} {xs : List Value}, KeysAt B l xs → xs.length = l.length * 7
 | [], xs, h => by cases (show xs = [] from h); rfl
 | v :: l, xs, ⟨p, t, z, r, h1, h2, h3⟩ => by
  subst h1
  rw [List.length_append, KeysAt.len h3]
  show 7 + l.length * 7 = (l.length + 1) * 7
  omega
theorem KeysAt.one {B : Base} : ∀ {l : List KeyR} {xs : List Value}, KeysAt B l xs → ∀ u ∈ xs, u.oneCell' = true
 | [], xs, h, u, hu => by cases (show xs = [] from h); cases hu
 | v :: l, xs, ⟨p, t, z, r, h1, h2, h3⟩, u, hu => by
  subst h1
  rcases List.mem_append.1 hu with h | h
  ·exact krCells_one h2 u h
  exact KeysAt.one h3 u h
theorem KeysAt.get {B : Base} : ∀ {l : List KeyR} {xs : List Value}, KeysAt B l xs → ∀ i (hi : i < l.length), ∃ p t z, ValAt B l[i].val p t z ∧ ∀ j, j < 7 → (krCells l[i] p t z)[j]? = (xs.drop (i * 7))[j]?
 | [], xs, h, i, hi => by simp at hi
 | v :: l, xs, ⟨p, t, z, r, h1, h2, h3⟩, i, hi => by
  subst h1
  cases i with
  | zero => exact ⟨p, t, z, h2, fun j hj => by rw [Nat.zero_mul, List.drop_zero, List.getElem?_append_left hj]; rfl⟩
  | succ i =>
   obtain ⟨p', t', z', e1, e2⟩ := KeysAt.get h3 i (by simpa using hi)
   refine ⟨p', t', z', e1, fun j hj => (e2 j hj).trans ?_⟩
   rw [show (i + 1) * 7 = i * 7 + 7 by rw [Nat.succ_mul], Nat.add_comm, ← List.drop_drop]
   rfl
theorem KeysAt.take {B : Base} : ∀ {l : List KeyR} {xs : List Value}, KeysAt B l xs → ∀ i, KeysAt B (l.take i) (xs.take (i * 7))
 | [], xs, h, i => by cases (show xs = [] from h); simp [KeysAt]
 | v :: l, xs, ⟨p, t, z, r, h1, h2, h3⟩, i => by
  subst h1
  cases i with
  | zero => simp [KeysAt]
  | succ i =>
   refine ⟨p, t, z, r.take (i * 7), ?_, h2, KeysAt.take h3 i⟩
   rw [show (i + 1) * 7 = i * 7 + 7 by rw [Nat.succ_mul], List.take_append]
   show List.take (i * 7 + 7) (krCells v p t z) ++ List.take (i * 7 + 7- 7) r = _
   rw [List.take_of_length_le (by show 7 ≤ _; omega), Nat.add_sub_cancel]
theorem KeysAt.drop {B : Base} : ∀ {l : List KeyR} {xs : List Value}, KeysAt B l xs → ∀ i, KeysAt B (l.drop i) (xs.drop (i * 7))
 | [], xs, h, i => by cases (show xs = [] from h); simp [KeysAt]
 | v :: l, xs, ⟨p, t, z, r, h1, h2, h3⟩, i => by
  subst h1
  cases i with
  | zero => exact ⟨p, t, z, r, by simp, h2, h3⟩
  | succ i =>
   rw [show (i + 1) * 7 = i * 7 + 7 by rw [Nat.succ_mul], Nat.add_comm, ← List.drop_drop]
   exact KeysAt.drop h3 i
theorem KeysAt.reads {B : Base} {l : List KeyR} {xs : List Value} {ad : Option Addr} {i : Nat} {x : KeyR} (h : KeysAt B l xs) (hr : RdV B [] ad xs) (hx : l[i]? = some x) : ∃ b off p t z, ad = some ⟨b, off, none⟩ ∧ ValAt B x.val p t z ∧ Reads B [] b (off + i * 7) (krCells x p t z) := by
 obtain ⟨hi, rfl⟩ := List.getElem?_eq_some_iff.1 hx
 obtain ⟨p, t, z, h1, h2⟩ := h.get i hi
 have hl := h.len
 have hle : i * 7 + 7 ≤ xs.length := by rw [hl]; have := Nat.mul_le_mul_right 7 (show i + 1 ≤ l.length by omega); rw [Nat.succ_mul] at this; exact this
 obtain ⟨b, off, h3, h4⟩ := rdW_reads (cs := krCells l[i] p t z) (k := i * 7) (m := 7) (hr.rdW []) hle (by decide) rfl (fun j hj => by
  rw [h2 j hj, List.getElem?_drop])
 exact ⟨b, off, p, t, z, h3, h1, h4⟩
theorem KeysAt.reads2 {B : Base} {l : List KeyR} {xs : List Value} {ad : Option Addr} {i : Nat} {x : KeyR} (h : KeysAt B l xs) (hr : RdV B [] ad xs) (hx : l[i]? = some x) : ∃ b off p t z, ad = some ⟨b, off, none⟩ ∧ ValAt B x.val p t z ∧ Reads B [] b (off + i * 7) (krCells x p t z) ∧ (xs.drop (i * 7)).take 7 = krCells x p t z := by
 obtain ⟨hi, rfl⟩ := List.getElem?_eq_some_iff.1 hx
 obtain ⟨p, t, z, h1, h2⟩ := h.get i hi
 have hl := h.len
 have hle : i * 7 + 7 ≤ xs.length := by rw [hl]; have := Nat.mul_le_mul_right 7 (show i + 1 ≤ l.length by omega); rw [Nat.succ_mul] at this; exact this
 obtain ⟨b, off, h3, h4⟩ := rdW_reads (cs := krCells l[i] p t z) (k := i * 7) (m := 7) (hr.rdW []) hle (by decide) rfl (fun j hj => by
  rw [h2 j hj, List.getElem?_drop])
 refine ⟨b, off, p, t, z, h3, h1, h4, List.ext_getElem? fun j => ?_⟩
 rcases Nat.lt_or_ge j 7 with hj | hj
 ·rw [List.getElem?_take_of_lt hj, h2 j hj]
 rw [List.getElem?_eq_none (by rw [List.length_take, List.length_drop]; omega), List.getElem?_eq_none (by show 7 ≤ j; omega)]
theorem KeysAt.next {B : Base} {l : List KeyR} {i : Nat} {x : KeyR} {ys : List Value} {p t z : Value} (h : KeysAt B (l.take i) ys) (hx : l[i]? = some x) (hv : ValAt B x.val p t z) : KeysAt B (l.take (i + 1)) (ys ++ krCells x p t z) := by
 rw [take_next hx]
 exact KeysAt.append (KeysAt.single hv) h
inductive Rp where
 | mk (kind : Int) (s : List UInt8) (n : Int) (l : List Rp)
def Rp.kind : Rp → Int
 | .mk k _ _ _ => k
abbrev rpCells (k : Int) (s : List UInt8) (n : Int) (v : Value) : List Value := [.int .i64 k, strV s, .int .i64 n, v]
mutual
def RpAt (B : Base) : Rp → List Value → Prop
 | .mk k s n l, cs => ∃ v xs, cs = rpCells k s n v ∧ RowB B v l.length xs ∧ RpsAt B l xs
def RpsAt (B : Base) : List Rp → List Value → Prop
 | [], xs => xs = []
 | r :: l, xs => ∃ cs ys, xs = cs ++ ys ∧ RpAt B r cs ∧ RpsAt B l ys
end
mutual
theorem RpAt.more {B C : Base} (hB : B.Le C) : ∀ {r : Rp} {cs : List Value}, RpAt B r cs → RpAt C r cs
 | .mk _ _ _ _, _, h => by
  simp only [RpAt] at h ⊢
  obtain ⟨v, xs, h1, h2, h3⟩ := h
  exact ⟨v, xs, h1, h2.more hB, RpsAt.more hB h3⟩
theorem RpsAt.more {B C : Base} (hB : B.Le C) : ∀ {l : List Rp} {xs : List Value}, RpsAt B l xs → RpsAt C l xs
 | [], _, h => by simp only [RpsAt] at h ⊢; exact h
 | _ :: _, _, h => by
  simp only [RpsAt] at h ⊢
  obtain ⟨cs, ys, h1, h2, h3⟩ := h
  exact ⟨cs, ys, h1, RpAt.more hB h2, RpsAt.more hB h3⟩
end
theorem RpsAt.nil {B : Base} : RpsAt B [] [] := by simp only [RpsAt]
theorem RpsAt.cons {B : Base} {r : Rp} {l : List Rp} {cs ys : List Value} (h1 : RpAt B r cs) (h2 : RpsAt B l ys) : RpsAt B (r :: l) (cs ++ ys) := by
 simp only [RpsAt]; exact ⟨cs, ys, rfl, h1, h2⟩
theorem RpsAt.uncons {B : Base} {r : Rp} {l : List Rp} {xs : List Value} (h : RpsAt B (r :: l) xs) : ∃ cs ys, xs = cs ++ ys ∧ RpAt B r cs ∧ RpsAt B l ys := by
 simp only [RpsAt] at h; exact h
theorem RpsAt.append {B : Base} {k : List Rp} {ys : List Value} (hk : RpsAt B k ys) : ∀ {l : List Rp} {xs : List Value}, RpsAt B l xs → RpsAt B (l ++ k) (xs ++ ys)
 | [], xs, h => by
  simp only [RpsAt] at h; subst h; exact hk
 | r :: l, xs, h => by
  obtain ⟨cs, zs, rfl, h1, h2⟩ := h.uncons
  rw [List.append_assoc]
  exact RpsAt.cons h1 (RpsAt.append hk h2)
theorem RpsAt.single {B : Base} {r : Rp} {cs : List Value} (h : RpAt B r cs) : RpsAt B [r] cs := by
 have := RpsAt.cons h (RpsAt.nil (B := B))
 rwa [List.append_nil] at this
def rInt (n : Int) : Rp := .mk 2 [] n []
def rNone : Rp := .mk 4 [] 0 []
def rText (s : List UInt8) : Rp := .mk 0 s 0 []
def rFault (s : List UInt8) : Rp := .mk 1 s 0 []
def rList (l : List Rp) : Rp := .mk 5 [] 0 l
theorem RpAt.lv {B : Base} {r : Rp} {k : Int} {s : List UInt8} {n : Int} {v : Value} (h : RpAt B r (rpCells k s n v)) : v.cells = #[v] ∧ v.oneCell' = true := by
 cases r; simp only [RpAt] at h
 obtain ⟨v2, xs, h1, h2, -⟩ := h
 simp only [List.cons.injEq, and_true] at h1
 obtain ⟨-, -, -, rfl⟩ := h1
 exact ⟨h2.cells, h2.one⟩
theorem rpAt_leaf {B : Base} {k : Int} {s : List UInt8} {n : Int} : RpAt B (.mk k s n []) (rpCells k s n (.slice none 0 0)) := by
 simp only [RpAt]
 exact ⟨_, [], rfl, ⟨none, 0, rfl, ⟨Nat.le_refl _, Nat.zero_le _, fun _ => rfl⟩, rdV_nil⟩, RpsAt.nil⟩
theorem rpAt_of {B : Base} {k : Int} {s : List UInt8} {n : Int} {l : List Rp} {v : Value} {xs : List Value} (h1 : RowB B v l.length xs) (h2 : RpsAt B l xs) : RpAt B (.mk k s n l) (rpCells k s n v) := by
 simp only [RpAt]; exact ⟨v, xs, rfl, h1, h2⟩
end Go.Pm
namespace Go.Proofs.YtmpackidbgfoiaaGreatDoor
open Go.RowKit Go.Pm
def OkM (M : List (List UInt8 × Ver)) : Prop := ∀ k y, lookA M k = some y → y.gone = true ∨ PutOk k y.val y.expire
section
variable {M M' : List (List UInt8 × Ver)} {clk exp ec : Int} {key : List UInt8} {x : Val} {y : Ver}
theorem OkM.nil : OkM [] := fun k y h => by cases h
theorem OkM.upd (h : OkM M) {k : List UInt8} {y : Ver} (hy : y.gone = true ∨ PutOk k y.val y.expire) : OkM (updA M k y) := fun k2 y2 h2 => by
 rw [look_upd] at h2
 split at h2
 ·rename_i e; cases h2; subst e; exact hy
 exact h k2 y2 h2
theorem OkM.keep (h : OkM M) (hk : KeepI M clk key x exp ec M') : OkM M' := by
 rcases hk with ⟨-, h1, -, rfl⟩ | ⟨-, -, -, rfl⟩ | ⟨-, -, -, rfl⟩ | ⟨-, -, ⟨-, -, rfl⟩ | ⟨-, -, rfl⟩⟩
 ·exact h.upd (.inr h1)
 ·exact h
 ·exact h
 ·exact h.upd (.inl rfl)
 exact h
theorem keep_not (hk : KeepI M clk key x exp ec M') (he : ec ≠ 0) : M' = M := by
 rcases hk with ⟨-, -, h, -⟩ | ⟨-, -, -, rfl⟩ | ⟨-, -, -, rfl⟩ | ⟨-, -, ⟨-, h, -⟩ | ⟨-, -, rfl⟩⟩
 ·exact absurd h he
 ·rfl
 ·rfl
 ·exact absurd h he
 rfl
theorem alive_gone {y : Ver} (h : aliveB y clk = true) : y.gone = false := by
 unfold aliveB at h
 cases hy : y.gone <;> simp [hy] at h ⊢
theorem OkM.alive (h : OkM M) (hl : lookA M key = some y) (ha : aliveB y clk = true) : PutOk key y.val y.expire := by
 rcases h key y hl with h1 | h1
 ·rw [alive_gone ha] at h1; cases h1
 exact h1
end
def IsF (r : Rp) : Prop := r.kind = 1
def DoneR (ec : Int) (r0 r : Rp) : Prop := (ec = 0 ∧ r = r0) ∨ (ec ≠ 0 ∧ IsF r)
def CmdR (M M' : List (List UInt8 × Ver)) (r : Rp) : Prop := OkM M' ∧ (IsF r → M' = M)
theorem isF_int {n : Int} : ¬ IsF (rInt n) := fun h => absurd (show (2 : Int) = 1 from h) (by decide)
theorem DoneR.keep {M M' : List (List UInt8 × Ver)} {clk exp ec : Int} {key : List UInt8} {x : Val} {r0 r : Rp} (hM : OkM M) (hk : KeepI M clk key x exp ec M') (hd : DoneR ec r0 r) (h0 : ¬ IsF r0) : CmdR M M' r := by
 refine ⟨hM.keep hk, fun hf => ?_⟩
 rcases hd with ⟨-, rfl⟩ | ⟨he, -⟩
 ·exact absurd hf h0
 exact keep_not hk he
theorem rsal38 : AL Tryz.prog 38 [vI 0, vS [], vI 0, vN] := fun w => by kernel_rfl
theorem rssz38 : (Tryz.prog.info? 38).map (·.size) = some 4 := by kernel_rfl
theorem rswd38 : Wide Tryz.prog 38 4 := wide_of (fun w => by kernel_rfl) (by kernel_rfl)
theorem respInt (B : Base) (H : List Res) (w : World) (n : Int) (hv : Inv B H w) :
  Calls Tryz.prog 48 #[vI n] w fun e w' => e = .returned (.agg #[vI 2, vS [], vI n, vN]) ∧ Inv B H w' := by
 refine cW Tryz.func48 rfl Tryz.ntmps48 ?_
 simp only [al]
 refine sK fun _ k1 => rL (sl_alloc tV (wn rfl) rfl hv rsal38 (fun b2 w3 hv => ?_))
 refine uW k1 (sK fun _ k4 => ?_)
 refine rL (uM rfl ?_)
 refine uG (.agg #[vI 2, vS [], vI n, vN]) rfl (ex_buildN (vs := #[(0, vI 2), (2, vI n)]) rfl (by simp only [List.map_toArray, List.map_cons, List.map_nil]; rfl) (by kernel_rfl)) ?_
 refine xS 0 rfl hv rssz38 rfl (by exact ⟨rfl, rfl, rfl, rfl, trivial⟩) (fun w5 hv => ?_)
 simp only [zO, sp] at hv
 refine uW k4 (rR ?_)
 refine bC 0 rswd38 hv rfl rfl rfl rfl (⟨rfl, (hv.kp [] 0 1)⟩)
theorem respStr (B : Base) (H : List Res) (w : World) (s : List UInt8) (hv : Inv B H w) :
  Calls Tryz.prog 77 #[vS s] w fun e w' => e = .returned (.agg #[vI 3, vS s, vI 0, vN]) ∧ Inv B H w' := by
 refine cW Tryz.func77 rfl Tryz.ntmps77 ?_
 simp only [al]
 refine sK fun _ k1 => rL (sl_alloc tV (wn rfl) rfl hv rsal38 (fun b2 w3 hv => ?_))
 refine uW k1 (sK fun _ k4 => ?_)
 refine rL (uM rfl ?_)
 refine uG (.agg #[vI 3, vS s, vI 0, vN]) rfl (ex_buildN (vs := #[(0, vI 3), (1, vS s)]) rfl (by simp only [List.map_toArray, List.map_cons, List.map_nil]; rfl) (by kernel_rfl)) ?_
 refine xS 0 rfl hv rssz38 rfl (by exact ⟨rfl, rfl, rfl, rfl, trivial⟩) (fun w5 hv => ?_)
 simp only [zO, sp] at hv
 refine uW k4 (rR ?_)
 refine bC 0 rswd38 hv rfl rfl rfl rfl (⟨rfl, (hv.kp [] 0 1)⟩)
theorem respText (B : Base) (H : List Res) (w : World) (s : List UInt8) (hv : Inv B H w) :
  Calls Tryz.prog 57 #[vS s] w fun e w' => e = .returned (.agg #[vI 0, vS s, vI 0, vN]) ∧ Inv B H w' := by
 refine cW Tryz.func57 rfl Tryz.ntmps57 ?_
 simp only [al]
 refine sK fun _ k1 => rL (sl_alloc tV (wn rfl) rfl hv rsal38 (fun b2 w3 hv => ?_))
 refine uW k1 (sK fun _ k4 => ?_)
 refine rL (uM rfl ?_)
 refine uG (.agg #[vI 0, vS s, vI 0, vN]) rfl (ex_buildN (vs := #[(0, vI 0), (1, vS s)]) rfl (by simp only [List.map_toArray, List.map_cons, List.map_nil]; rfl) (by kernel_rfl)) ?_
 refine xS 0 rfl hv rssz38 rfl (by exact ⟨rfl, rfl, rfl, rfl, trivial⟩) (fun w5 hv => ?_)
 simp only [zO, sp] at hv
 refine uW k4 (rR ?_)
 refine bC 0 rswd38 hv rfl rfl rfl rfl (⟨rfl, (hv.kp [] 0 1)⟩)
theorem respWrong (B : Base) (H : List Res) (w : World) (s : List UInt8) (hv : Inv B H w) :
  Calls Tryz.prog 43 #[vS s] w fun e w' => e = .returned (.agg #[vI 1, vS s, vI 0, vN]) ∧ Inv B H w' := by
 refine cW Tryz.func43 rfl Tryz.ntmps43 ?_
 simp only [al]
 refine sK fun _ k1 => rL (sl_alloc tV (wn rfl) rfl hv rsal38 (fun b2 w3 hv => ?_))
 refine uW k1 (sK fun _ k4 => ?_)
 refine rL (uM rfl ?_)
 refine uG (.agg #[vI 1, vS s, vI 0, vN]) rfl (ex_buildN (vs := #[(0, vI 1), (1, vS s)]) rfl (by simp only [List.map_toArray, List.map_cons, List.map_nil]; rfl) (by kernel_rfl)) ?_
 refine xS 0 rfl hv rssz38 rfl (by exact ⟨rfl, rfl, rfl, rfl, trivial⟩) (fun w5 hv => ?_)
 simp only [zO, sp] at hv
 refine uW k4 (rR ?_)
 refine bC 0 rswd38 hv rfl rfl rfl rfl (⟨rfl, (hv.kp [] 0 1)⟩)
theorem respNone (B : Base) (H : List Res) (w : World) (hv : Inv B H w) :
  Calls Tryz.prog 76 #[] w fun e w' => e = .returned (.agg #[vI 4, vS [], vI 0, vN]) ∧ Inv B H w' := by
 refine cW Tryz.func76 rfl Tryz.ntmps76 ?_
 simp only [al]
 refine sK fun _ k1 => rL (sl_alloc tV (wn rfl) rfl hv rsal38 (fun b2 w3 hv => ?_))
 refine uW k1 (sK fun _ k4 => ?_)
 refine rL (uG (.agg #[vI 4, vS [], vI 0, vN]) rfl (ex_buildN (vs := #[(0, vI 4)]) rfl (by simp only [List.map_toArray, List.map_cons, List.map_nil]; rfl) (by kernel_rfl)) ?_)
 refine xS 0 rfl hv rssz38 rfl (by exact ⟨rfl, rfl, rfl, rfl, trivial⟩) (fun w5 hv => ?_)
 simp only [zO, sp] at hv
 refine uW k4 (rR ?_)
 refine bC 0 rswd38 hv rfl rfl rfl rfl (⟨rfl, (hv.kp [] 0 1)⟩)
theorem rscallable43 : Callable Tryz.prog 43 := cb Tryz.func43 (by kernel_rfl)
theorem viewWrong (B : Base) (H : List Res) (w : World) (n : Int) (hv : Inv B H w) :
  Calls Tryz.prog 22 #[vI n] w fun e w' => ∃ s : List UInt8, e = .returned (.agg #[vI 1, vS s, vI 0, vN]) ∧ Inv B H w' := by
 refine cW Tryz.func22 rfl Tryz.ntmps22 ?_
 simp only [al]
 refine sK fun _ k1 => rL (sl_alloc tV (wn rfl) rfl hv rsal38 (fun b2 w3 hv => ?_))
 refine uW k1 (sK fun _ k4 => ?_)
 refine sK fun _ k5 => rL (uM rfl ?_)
 refine uW k5 (bB ?_)
 refine sK fun _ k6 => rL ?_
 by_cases hb7 : n = 40
 ·refine uG (.bool true) rfl (ex_eql rfl rfl rfl (qT hb7)) (uA rfl ?_)
  refine uW k6 (cT rfl ?_)
  refine sK fun _ k8 => rL (xC rscallable43 rfl ((respWrong B _ _ ([87, 82, 79, 78, 71, 84, 89, 80, 69, 32, 116, 104, 101, 32, 107, 101, 121, 32, 104, 97, 115, 32, 97, 32, 118, 97, 108, 117, 101, 32, 111, 102, 32, 97, 110, 111, 116, 104, 101, 114, 32, 107, 105, 110, 100] : List UInt8) hv).mono ?_) rfl)
  rintro e w9 ⟨rfl, hv⟩
  refine ⟨_, rfl, ?_⟩
  refine xS 0 rfl hv rssz38 rfl (by exact ⟨rfl, rfl, rfl, rfl, trivial⟩) (fun w10 hv => ?_)
  simp only [zO, sp] at hv
  refine uW k8 (rR ?_)
  refine bZ (tR ?_)
  refine bC 0 rswd38 hv rfl rfl rfl rfl (⟨_, rfl, (hv.kp [] 0 1)⟩)
 refine uG (.bool false) rfl (ex_eql rfl rfl rfl (qF hb7)) (uA rfl ?_)
 refine uW k6 (cF rfl ?_)
 refine sK fun _ k11 => rL ?_
 by_cases hb12 : n = 41
 ·refine uG (.bool true) rfl (ex_eql rfl rfl rfl (qT hb12)) (uA rfl ?_)
  refine uW k11 (cT rfl ?_)
  refine sK fun _ k13 => rL (xC rscallable43 rfl ((respWrong B _ _ ([69, 82, 82, 32, 105, 116, 32, 105, 115, 32, 110, 111, 32, 110, 117, 109, 98, 101, 114] : List UInt8) hv).mono ?_) rfl)
  rintro e w14 ⟨rfl, hv⟩
  refine ⟨_, rfl, ?_⟩
  refine xS 0 rfl hv rssz38 rfl (by exact ⟨rfl, rfl, rfl, rfl, trivial⟩) (fun w15 hv => ?_)
  simp only [zO, sp] at hv
  refine uW k13 (rR ?_)
  refine bZ (tR ?_)
  refine bC 0 rswd38 hv rfl rfl rfl rfl (⟨_, rfl, (hv.kp [] 0 1)⟩)
 refine uG (.bool false) rfl (ex_eql rfl rfl rfl (qF hb12)) (uA rfl ?_)
 refine uW k11 (cF rfl ?_)
 refine sK fun _ k16 => rL ?_
 by_cases hb17 : n = 13
 ·refine uG (.bool true) rfl (ex_eql rfl rfl rfl (qT hb17)) (uA rfl ?_)
  refine uW k16 (cT rfl ?_)
  refine sK fun _ k18 => rL (xC rscallable43 rfl ((respWrong B _ _ ([69, 82, 82, 32, 116, 104, 101, 32, 110, 117, 109, 98, 101, 114, 32, 105, 115, 32, 116, 111, 111, 32, 103, 114, 101, 97, 116, 32, 111, 114, 32, 116, 111, 111, 32, 115, 109, 97, 108, 108] : List UInt8) hv).mono ?_) rfl)
  rintro e w19 ⟨rfl, hv⟩
  refine ⟨_, rfl, ?_⟩
  refine xS 0 rfl hv rssz38 rfl (by exact ⟨rfl, rfl, rfl, rfl, trivial⟩) (fun w20 hv => ?_)
  simp only [zO, sp] at hv
  refine uW k18 (rR ?_)
  refine bZ (tR ?_)
  refine bC 0 rswd38 hv rfl rfl rfl rfl (⟨_, rfl, (hv.kp [] 0 1)⟩)
 refine uG (.bool false) rfl (ex_eql rfl rfl rfl (qF hb17)) (uA rfl ?_)
 refine uW k16 (cF rfl ?_)
 refine sK fun _ k21 => rL ?_
 by_cases hb22 : n = 42
 ·refine uG (.bool true) rfl (ex_eql rfl rfl rfl (qT hb22)) (uA rfl ?_)
  refine uW k21 (cT rfl ?_)
  refine sK fun _ k23 => rL (xC rscallable43 rfl ((respWrong B _ _ ([69, 82, 82, 32, 115, 121, 110, 116, 97, 120] : List UInt8) hv).mono ?_) rfl)
  rintro e w24 ⟨rfl, hv⟩
  refine ⟨_, rfl, ?_⟩
  refine xS 0 rfl hv rssz38 rfl (by exact ⟨rfl, rfl, rfl, rfl, trivial⟩) (fun w25 hv => ?_)
  simp only [zO, sp] at hv
  refine uW k23 (rR ?_)
  refine bZ (tR ?_)
  refine bC 0 rswd38 hv rfl rfl rfl rfl (⟨_, rfl, (hv.kp [] 0 1)⟩)
 refine uG (.bool false) rfl (ex_eql rfl rfl rfl (qF hb22)) (uA rfl ?_)
 refine uW k21 (cF rfl ?_)
 refine sK fun _ k26 => rL ?_
 by_cases hb27 : n = 43
 ·refine uG (.bool true) rfl (ex_eql rfl rfl rfl (qT hb27)) (uA rfl ?_)
  refine uW k26 (cT rfl ?_)
  refine sK fun _ k28 => rL (xC rscallable43 rfl ((respWrong B _ _ ([69, 82, 82, 32, 119, 114, 111, 110, 103, 32, 110, 117, 109, 98, 101, 114, 32, 111, 102, 32, 97, 114, 103, 117, 109, 101, 110, 116, 115] : List UInt8) hv).mono ?_) rfl)
  rintro e w29 ⟨rfl, hv⟩
  refine ⟨_, rfl, ?_⟩
  refine xS 0 rfl hv rssz38 rfl (by exact ⟨rfl, rfl, rfl, rfl, trivial⟩) (fun w30 hv => ?_)
  simp only [zO, sp] at hv
  refine uW k28 (rR ?_)
  refine bZ (tR ?_)
  refine bC 0 rswd38 hv rfl rfl rfl rfl (⟨_, rfl, (hv.kp [] 0 1)⟩)
 refine uG (.bool false) rfl (ex_eql rfl rfl rfl (qF hb27)) (uA rfl ?_)
 refine uW k26 (cF rfl ?_)
 refine sK fun _ k31 => rL ?_
 by_cases hb32 : n = 44
 ·refine uG (.bool true) rfl (ex_eql rfl rfl rfl (qT hb32)) (uA rfl ?_)
  refine uW k31 (cT rfl ?_)
  refine sK fun _ k33 => rL (xC rscallable43 rfl ((respWrong B _ _ ([69, 82, 82, 32, 116, 104, 101, 114, 101, 32, 105, 115, 32, 110, 111, 32, 115, 117, 99, 104, 32, 112, 108, 97, 99, 101] : List UInt8) hv).mono ?_) rfl)
  rintro e w34 ⟨rfl, hv⟩
  refine ⟨_, rfl, ?_⟩
  refine xS 0 rfl hv rssz38 rfl (by exact ⟨rfl, rfl, rfl, rfl, trivial⟩) (fun w35 hv => ?_)
  simp only [zO, sp] at hv
  refine uW k33 (rR ?_)
  refine bZ (tR ?_)
  refine bC 0 rswd38 hv rfl rfl rfl rfl (⟨_, rfl, (hv.kp [] 0 1)⟩)
 refine uG (.bool false) rfl (ex_eql rfl rfl rfl (qF hb32)) (uA rfl ?_)
 refine uW k31 (cF rfl ?_)
 refine sK fun _ k36 => rL ?_
 by_cases hb37 : n = 23
 ·refine uG (.bool true) rfl (ex_eql rfl rfl rfl (qT hb37)) (uA rfl ?_)
  refine uW k36 (cT rfl ?_)
  refine sK fun _ k38 => rL (xC rscallable43 rfl ((respWrong B _ _ ([69, 82, 82, 32, 116, 104, 101, 114, 101, 32, 105, 115, 32, 110, 111, 32, 115, 117, 99, 104, 32, 107, 101, 121] : List UInt8) hv).mono ?_) rfl)
  rintro e w39 ⟨rfl, hv⟩
  refine ⟨_, rfl, ?_⟩
  refine xS 0 rfl hv rssz38 rfl (by exact ⟨rfl, rfl, rfl, rfl, trivial⟩) (fun w40 hv => ?_)
  simp only [zO, sp] at hv
  refine uW k38 (rR ?_)
  refine bZ (tR ?_)
  refine bC 0 rswd38 hv rfl rfl rfl rfl (⟨_, rfl, (hv.kp [] 0 1)⟩)
 refine uG (.bool false) rfl (ex_eql rfl rfl rfl (qF hb37)) (uA rfl ?_)
 refine uW k36 (cF rfl ?_)
 refine sK fun _ k41 => sK fun _ k42 => rL ?_
 by_cases hb43 : n = 12
 ·refine uG (.bool true) rfl (ex_eql rfl rfl rfl (qT hb43)) (uA rfl ?_)
  refine uW k42 (cT rfl ?_)
  refine kS (tK k41 ?_)
  refine cT rfl (sK fun _ k44 => ?_)
  refine rL (xC rscallable43 rfl ((respWrong B _ _ ([69, 82, 82, 32, 105, 116, 32, 105, 115, 32, 116, 111, 111, 32, 109, 117, 99, 104] : List UInt8) hv).mono ?_) rfl)
  rintro e w45 ⟨rfl, hv⟩
  refine ⟨_, rfl, ?_⟩
  refine xS 0 rfl hv rssz38 rfl (by exact ⟨rfl, rfl, rfl, rfl, trivial⟩) (fun w46 hv => ?_)
  simp only [zO, sp] at hv
  refine uW k44 (rR ?_)
  refine bZ (tR ?_)
  refine bC 0 rswd38 hv rfl rfl rfl rfl (⟨_, rfl, (hv.kp [] 0 1)⟩)
 refine uG (.bool false) rfl (ex_eql rfl rfl rfl (qF hb43)) (uA rfl ?_)
 refine uW k42 (cF rfl ?_)
 refine rL ?_
 by_cases hb47 : n = 22
 ·refine uG (.bool true) rfl (ex_eql rfl rfl rfl (qT hb47)) (uA rfl ?_)
  refine uW k41 (cT rfl ?_)
  refine sK fun _ k48 => rL (xC rscallable43 rfl ((respWrong B _ _ ([69, 82, 82, 32, 105, 116, 32, 105, 115, 32, 116, 111, 111, 32, 109, 117, 99, 104] : List UInt8) hv).mono ?_) rfl)
  rintro e w49 ⟨rfl, hv⟩
  refine ⟨_, rfl, ?_⟩
  refine xS 0 rfl hv rssz38 rfl (by exact ⟨rfl, rfl, rfl, rfl, trivial⟩) (fun w50 hv => ?_)
  simp only [zO, sp] at hv
  refine uW k48 (rR ?_)
  refine bZ (tR ?_)
  refine bC 0 rswd38 hv rfl rfl rfl rfl (⟨_, rfl, (hv.kp [] 0 1)⟩)
 refine uG (.bool false) rfl (ex_eql rfl rfl rfl (qF hb47)) (uA rfl ?_)
 refine uW k41 (cF rfl ?_)
 refine sK fun _ k51 => rL ?_
 by_cases hb52 : n = 32
 ·refine uG (.bool true) rfl (ex_eql rfl rfl rfl (qT hb52)) (uA rfl ?_)
  refine uW k51 (cT rfl ?_)
  refine sK fun _ k53 => rL (xC rscallable43 rfl ((respWrong B _ _ ([82, 69, 65, 68, 79, 78, 76, 89, 32, 105, 116, 32, 109, 97, 121, 32, 114, 101, 97, 100, 32, 97, 108, 111, 110, 101] : List UInt8) hv).mono ?_) rfl)
  rintro e w54 ⟨rfl, hv⟩
  refine ⟨_, rfl, ?_⟩
  refine xS 0 rfl hv rssz38 rfl (by exact ⟨rfl, rfl, rfl, rfl, trivial⟩) (fun w55 hv => ?_)
  simp only [zO, sp] at hv
  refine uW k53 (rR ?_)
  refine bZ (tR ?_)
  refine bC 0 rswd38 hv rfl rfl rfl rfl (⟨_, rfl, (hv.kp [] 0 1)⟩)
 refine uG (.bool false) rfl (ex_eql rfl rfl rfl (qF hb52)) (uA rfl ?_)
 refine uW k51 (cF rfl ?_)
 refine kS (bN ?_)
 refine tK k4 (sK fun _ k56 => ?_)
 refine rL (xC rscallable43 rfl ((respWrong B _ _ ([69, 82, 82, 32, 105, 116, 32, 109, 97, 121, 32, 110, 111, 116, 32, 98, 101] : List UInt8) hv).mono ?_) rfl)
 rintro e w57 ⟨rfl, hv⟩
 refine ⟨_, rfl, ?_⟩
 refine xS 0 rfl hv rssz38 rfl (by exact ⟨rfl, rfl, rfl, rfl, trivial⟩) (fun w58 hv => ?_)
 simp only [zO, sp] at hv
 refine uW k56 (rR ?_)
 refine bC 0 rswd38 hv rfl rfl rfl rfl (⟨_, rfl, (hv.kp [] 0 1)⟩)
theorem rscallable22 : Callable Tryz.prog 22 := cb Tryz.func22 (by kernel_rfl)
theorem viewDone (B : Base) (H : List Res) (w : World) (n k m : Int) (s0 : List UInt8) (v : Value) (_ : v.cells = #[v]) (h2 : v.oneCell' = true) (hv : Inv B H w) :
  Calls Tryz.prog 45 #[vI n, .agg #[vI k, vS s0, vI m, v]] w fun e w' => ∃ x, ((n = 0 ∧ x = .agg #[vI k, vS s0, vI m, v]) ∨ (n ≠ 0 ∧ ∃ s : List UInt8, x = .agg #[vI 1, vS s, vI 0, vN])) ∧ e = .returned x ∧ Inv B H w' := by
 refine cW Tryz.func45 rfl Tryz.ntmps45 ?_
 simp only [al]
 refine sK fun _ k1 => rL (sl_box (L := [vI k, vS s0, vI m, v]) tV (wn rfl) rfl rfl hv (fun w => by kernel_rfl) (fun b2 w3 hv => ?_))
 refine sl_alloc tV (wn rfl) rfl hv rsal38 (fun b4 w5 hv => ?_)
 refine uW k1 (sK fun _ k6 => ?_)
 refine sK fun _ k7 => rL (uM rfl ?_)
 by_cases hb8 : n ≠ 0
 ·refine uG (.bool true) rfl (ex_neq rfl rfl rfl (qT hb8)) (uW k7 ?_)
  refine cT rfl (sK fun _ k9 => ?_)
  refine rL (uM rfl ?_)
  refine xC rscallable22 rfl ((viewWrong B _ _ n hv).mono ?_) rfl
  rintro e w11 ⟨s10, rfl, hv⟩
  refine ⟨_, rfl, ?_⟩
  refine xS 0 rfl hv rssz38 rfl (by exact ⟨rfl, rfl, rfl, rfl, trivial⟩) (fun w12 hv => ?_)
  simp only [zO, sp] at hv
  refine uW k9 (rR ?_)
  refine tR (bC 0 rswd38 hv rfl rfl rfl rfl ?_)
  exact ⟨_, .inr ⟨by omega, _, rfl⟩, rfl, (hv.kp [] 0 2)⟩
 refine uG (.bool false) rfl (ex_neq rfl rfl rfl (qF hb8)) (uW k7 ?_)
 refine cF rfl (kS ?_)
 refine tK k6 (sK fun _ k13 => ?_)
 refine rL (uL (.agg #[vI k, vS s0, vI m, v]) rfl (lM 1 rswd38 hv rfl rfl rfl rfl) ?_)
 refine xS 0 rfl hv rssz38 rfl (by exact ⟨rfl, rfl, rfl, h2, trivial⟩) (fun w14 hv => ?_)
 simp only [zO, sp] at hv
 refine uW k13 (rR ?_)
 refine bC 0 rswd38 hv rfl rfl rfl rfl (⟨_, .inl ⟨by omega, rfl⟩, rfl, (hv.kp [] 0 2)⟩)
end Go.Proofs.YtmpackidbgfoiaaGreatDoor
namespace Go.Proofs
open Go.Shelf
def Tryz.laysPI_ren : Go.Shelf.Ren := ⟨fun | 174 => 104 | 247 => 110 | 245 => 111 | 287 => 113 | 279 => 114 | 280 => 115 | 281 => 116 | 282 => 117 | 321 => 122 | 322 => 123 | 316 => 124 | 171 => 126 | 205 => 125 | 243 => 132 | 246 => 112 | 283 => 118 | 284 => 119 | 285 => 120 | 286 => 121 | 129 => 128 | 317 => 127 | 318 => 129 | 319 => 130 | 320 => 131 | 337 => 133 | 338 => 134 | n => n, fun | 9 => 9 | 3 => 3 | 2 => 2 | 75 => 185 | 85 => 186 | 4 => 4 | 167 => 195 | 5 => 5 | 53 => 196 | 175 => 197 | 46 => 199 | 168 => 200 | 37 => 188 | 0 => 0 | 210 => 211 | 21 => 21 | 127 => 219 | 145 => 222 | 143 => 220 | 171 => 203 | 173 => 206 | 212 => 214 | 51 => 215 | 20 => 20 | 213 => 216 | 232 => 224 | 233 => 225 | 80 => 226 | n => n, fun | 15 => 0 | 16 => 1 | 17 => 2 | 18 => 3 | 19 => 4 | n => n⟩
theorem Tryz.laysPI : Go.Proofs.LaysC.n174 Tryz.prog Tryz.laysPI_ren := {
 mixed := by kernel_rfl
 f129 := Tryz.func128.trans (congrArg some (by kernel_rfl))
 f171 := Tryz.func126.trans (congrArg some (by kernel_rfl))
 f174 := Tryz.func104.trans (congrArg some (by kernel_rfl))
 f205 := Tryz.func125.trans (congrArg some (by kernel_rfl))
 f243 := Tryz.func132.trans (congrArg some (by kernel_rfl))
 f245 := Tryz.func111.trans (congrArg some (by kernel_rfl))
 f246 := Tryz.func112.trans (congrArg some (by kernel_rfl))
 f247 := Tryz.func110.trans (congrArg some (by kernel_rfl))
 f279 := Tryz.func114.trans (congrArg some (by kernel_rfl))
 f280 := Tryz.func115.trans (congrArg some (by kernel_rfl))
 f281 := Tryz.func116.trans (congrArg some (by kernel_rfl))
 f282 := Tryz.func117.trans (congrArg some (by kernel_rfl))
 f283 := Tryz.func118.trans (congrArg some (by kernel_rfl))
 f284 := Tryz.func119.trans (congrArg some (by kernel_rfl))
 f285 := Tryz.func120.trans (congrArg some (by kernel_rfl))
 f286 := Tryz.func121.trans (congrArg some (by kernel_rfl))
 f287 := Tryz.func113.trans (congrArg some (by kernel_rfl))
 f316 := Tryz.func124.trans (congrArg some (by kernel_rfl))
 f317 := Tryz.func127.trans (congrArg some (by kernel_rfl))
 f318 := Tryz.func129.trans (congrArg some (by kernel_rfl))
 f319 := Tryz.func130.trans (congrArg some (by kernel_rfl))
 f320 := Tryz.func131.trans (congrArg some (by kernel_rfl))
 f321 := Tryz.func122.trans (congrArg some (by kernel_rfl))
 f322 := Tryz.func123.trans (congrArg some (by kernel_rfl))
 f337 := Tryz.func133.trans (congrArg some (by kernel_rfl))
 f338 := Tryz.func134.trans (congrArg some (by kernel_rfl))
 t0 := Tryz.underlying0
 a0 := Tryz.isAgg0
 z0 := Tryz.sizeOf0
 v0 := Tryz.zeroValue0
 t2 := Tryz.underlying2
 a2 := Tryz.isAgg2
 z2 := Tryz.sizeOf2
 v2 := Tryz.zeroValue2
 t3 := Tryz.underlying3
 a3 := Tryz.isAgg3
 z3 := Tryz.sizeOf3
 v3 := Tryz.zeroValue3
 t4 := Tryz.underlying4
 a4 := Tryz.isAgg4
 z4 := Tryz.sizeOf4
 v4 := Tryz.zeroValue4
 t5 := Tryz.underlying5
 a5 := Tryz.isAgg5
 z5 := Tryz.sizeOf5
 v5 := Tryz.zeroValue5
 t9 := Tryz.underlying9
 a9 := Tryz.isAgg9
 z9 := Tryz.sizeOf9
 v9 := Tryz.zeroValue9
 t20 := Tryz.underlying20
 a20 := Tryz.isAgg20
 z20 := Tryz.sizeOf20
 v20 := Tryz.zeroValue20
 t21 := Tryz.underlying21
 a21 := Tryz.isAgg21
 z21 := Tryz.sizeOf21
 v21 := Tryz.zeroValue21
 t37 := Tryz.underlying188
 a37 := Tryz.isAgg188
 z37 := Tryz.sizeOf188
 v37 := Tryz.zeroValue188
 t46 := Tryz.underlying199
 a46 := Tryz.isAgg199
 z46 := Tryz.sizeOf199
 v46 := Tryz.zeroValue199
 t51 := Tryz.underlying215
 a51 := Tryz.isAgg215
 z51 := Tryz.sizeOf215
 v51 := Tryz.zeroValue215
 t53 := Tryz.underlying196
 a53 := Tryz.isAgg196
 z53 := Tryz.sizeOf196
 v53 := Tryz.zeroValue196
 t75 := Tryz.underlying185
 a75 := Tryz.isAgg185
 z75 := Tryz.sizeOf185
 v75 := Tryz.zeroValue185
 t85 := Tryz.underlying186
 a85 := Tryz.isAgg186
 z85 := Tryz.sizeOf186
 v85 := Tryz.zeroValue186
 t127 := Tryz.underlying219
 a127 := Tryz.isAgg219
 z127 := Tryz.sizeOf219
 v127 := Tryz.zeroValue219
 t143 := Tryz.underlying220
 a143 := Tryz.isAgg220
 z143 := Tryz.sizeOf220
 v143 := Tryz.zeroValue220
 t145 := Tryz.underlying222
 a145 := Tryz.isAgg222
 z145 := Tryz.sizeOf222
 v145 := Tryz.zeroValue222
 t167 := Tryz.underlying195
 a167 := Tryz.isAgg195
 z167 := Tryz.sizeOf195
 v167 := Tryz.zeroValue195
 t168 := Tryz.underlying200
 a168 := Tryz.isAgg200
 z168 := Tryz.sizeOf200
 v168 := Tryz.zeroValue200
 t171 := Tryz.underlying203
 a171 := Tryz.isAgg203
 z171 := Tryz.sizeOf203
 v171 := Tryz.zeroValue203
 t173 := Tryz.underlying206
 a173 := Tryz.isAgg206
 z173 := Tryz.sizeOf206
 v173 := Tryz.zeroValue206
 t175 := Tryz.underlying197
 a175 := Tryz.isAgg197
 z175 := Tryz.sizeOf197
 v175 := Tryz.zeroValue197
 t210 := Tryz.underlying211
 a210 := Tryz.isAgg211
 z210 := Tryz.sizeOf211
 v210 := Tryz.zeroValue211
 t212 := Tryz.underlying214
 a212 := Tryz.isAgg214
 z212 := Tryz.sizeOf214
 v212 := Tryz.zeroValue214
 t213 := Tryz.underlying216
 a213 := Tryz.isAgg216
 z213 := Tryz.sizeOf216
 t232 := Tryz.underlying224
 a232 := Tryz.isAgg224
 z232 := Tryz.sizeOf224
 v232 := Tryz.zeroValue224
 t233 := Tryz.underlying225
 a233 := Tryz.isAgg225
 z233 := Tryz.sizeOf225
 v233 := Tryz.zeroValue225
 g15 := by kernel_rfl
 g16 := by kernel_rfl
 g17 := by kernel_rfl
 g18 := by kernel_rfl
 g19 := by kernel_rfl
 t80 := Tryz.underlying226
 a80 := Tryz.isAgg226
 z80 := Tryz.sizeOf226
 v80 := Tryz.zeroValue226
 i0 := by kernel_rfl
 i2 := by kernel_rfl
 i3 := by kernel_rfl
 i4 := by kernel_rfl
 i5 := by kernel_rfl
 i9 := by kernel_rfl
 i20 := by kernel_rfl
 i21 := by kernel_rfl
 i37 := by kernel_rfl
 i46 := by kernel_rfl
 i51 := by kernel_rfl
 i53 := by kernel_rfl
 i75 := by kernel_rfl
 i80 := by kernel_rfl
 i85 := by kernel_rfl
 i127 := by kernel_rfl
 i143 := by kernel_rfl
 i145 := by kernel_rfl
 i167 := by kernel_rfl
 i168 := by kernel_rfl
 i171 := by kernel_rfl
 i173 := by kernel_rfl
 i175 := by kernel_rfl
 i210 := by kernel_rfl
 i212 := by kernel_rfl
 i232 := by kernel_rfl
 i233 := by kernel_rfl
 m15 := by kernel_rfl
 m16 := by kernel_rfl
 m17 := by kernel_rfl
 m18 := by kernel_rfl
 m19 := by kernel_rfl
 c0 := by kernel_rfl
 c2 := by kernel_rfl
 c3 := by kernel_rfl
 c4 := by kernel_rfl
 c5 := by kernel_rfl
 c9 := by kernel_rfl
 c20 := by kernel_rfl
 c21 := by kernel_rfl
 c37 := by kernel_rfl
 c46 := by kernel_rfl
 c51 := by kernel_rfl
 c53 := by kernel_rfl
 c75 := by kernel_rfl
 c80 := by kernel_rfl
 c85 := by kernel_rfl
 c127 := by kernel_rfl
 c143 := by kernel_rfl
 c145 := by kernel_rfl
 c167 := by kernel_rfl
 c168 := by kernel_rfl
 c171 := by kernel_rfl
 c173 := by kernel_rfl
 c175 := by kernel_rfl
 c210 := by kernel_rfl
 c212 := by kernel_rfl
 c213 := by kernel_rfl
 c232 := by kernel_rfl
 c233 := by kernel_rfl }
def Tryz.laysFI_ren : Go.Shelf.Ren := ⟨fun | 173 => 106 | 246 => 112 | 283 => 118 | 284 => 119 | 285 => 120 | 286 => 121 | 129 => 128 | 317 => 127 | 318 => 129 | 319 => 130 | 320 => 131 | 337 => 133 | 338 => 134 | n => n, fun | 2 => 2 | 3 => 3 | 9 => 9 | 4 => 4 | 171 => 203 | 0 => 0 | 53 => 196 | 37 => 188 | 5 => 5 | 173 => 206 | 212 => 214 | 51 => 215 | 20 => 20 | 213 => 216 | 46 => 199 | 232 => 224 | 233 => 225 | n => n, fun | 17 => 2 | 18 => 3 | 19 => 4 | n => n⟩
theorem Tryz.laysFI : Go.Proofs.LaysM.n173 Tryz.prog Tryz.laysFI_ren := {
 mixed := by kernel_rfl
 f129 := Tryz.func128.trans (congrArg some (by kernel_rfl))
 f173 := Tryz.func106.trans (congrArg some (by kernel_rfl))
 f246 := Tryz.func112.trans (congrArg some (by kernel_rfl))
 f283 := Tryz.func118.trans (congrArg some (by kernel_rfl))
 f284 := Tryz.func119.trans (congrArg some (by kernel_rfl))
 f285 := Tryz.func120.trans (congrArg some (by kernel_rfl))
 f286 := Tryz.func121.trans (congrArg some (by kernel_rfl))
 f317 := Tryz.func127.trans (congrArg some (by kernel_rfl))
 f318 := Tryz.func129.trans (congrArg some (by kernel_rfl))
 f319 := Tryz.func130.trans (congrArg some (by kernel_rfl))
 f320 := Tryz.func131.trans (congrArg some (by kernel_rfl))
 f337 := Tryz.func133.trans (congrArg some (by kernel_rfl))
 f338 := Tryz.func134.trans (congrArg some (by kernel_rfl))
 t0 := Tryz.underlying0
 a0 := Tryz.isAgg0
 z0 := Tryz.sizeOf0
 v0 := Tryz.zeroValue0
 t2 := Tryz.underlying2
 a2 := Tryz.isAgg2
 z2 := Tryz.sizeOf2
 v2 := Tryz.zeroValue2
 t3 := Tryz.underlying3
 a3 := Tryz.isAgg3
 z3 := Tryz.sizeOf3
 v3 := Tryz.zeroValue3
 t4 := Tryz.underlying4
 a4 := Tryz.isAgg4
 z4 := Tryz.sizeOf4
 v4 := Tryz.zeroValue4
 t5 := Tryz.underlying5
 a5 := Tryz.isAgg5
 z5 := Tryz.sizeOf5
 v5 := Tryz.zeroValue5
 t9 := Tryz.underlying9
 a9 := Tryz.isAgg9
 z9 := Tryz.sizeOf9
 v9 := Tryz.zeroValue9
 t20 := Tryz.underlying20
 a20 := Tryz.isAgg20
 z20 := Tryz.sizeOf20
 v20 := Tryz.zeroValue20
 t37 := Tryz.underlying188
 a37 := Tryz.isAgg188
 z37 := Tryz.sizeOf188
 v37 := Tryz.zeroValue188
 t46 := Tryz.underlying199
 a46 := Tryz.isAgg199
 z46 := Tryz.sizeOf199
 v46 := Tryz.zeroValue199
 t51 := Tryz.underlying215
 a51 := Tryz.isAgg215
 z51 := Tryz.sizeOf215
 v51 := Tryz.zeroValue215
 t53 := Tryz.underlying196
 a53 := Tryz.isAgg196
 z53 := Tryz.sizeOf196
 v53 := Tryz.zeroValue196
 t171 := Tryz.underlying203
 a171 := Tryz.isAgg203
 z171 := Tryz.sizeOf203
 v171 := Tryz.zeroValue203
 t173 := Tryz.underlying206
 a173 := Tryz.isAgg206
 z173 := Tryz.sizeOf206
 v173 := Tryz.zeroValue206
 t212 := Tryz.underlying214
 a212 := Tryz.isAgg214
 z212 := Tryz.sizeOf214
 v212 := Tryz.zeroValue214
 t213 := Tryz.underlying216
 a213 := Tryz.isAgg216
 z213 := Tryz.sizeOf216
 t232 := Tryz.underlying224
 a232 := Tryz.isAgg224
 z232 := Tryz.sizeOf224
 v232 := Tryz.zeroValue224
 t233 := Tryz.underlying225
 a233 := Tryz.isAgg225
 z233 := Tryz.sizeOf225
 v233 := Tryz.zeroValue225
 g17 := by kernel_rfl
 g18 := by kernel_rfl
 g19 := by kernel_rfl
 i0 := by kernel_rfl
 i2 := by kernel_rfl
 i3 := by kernel_rfl
 i4 := by kernel_rfl
 i5 := by kernel_rfl
 i9 := by kernel_rfl
 i20 := by kernel_rfl
 i37 := by kernel_rfl
 i46 := by kernel_rfl
 i51 := by kernel_rfl
 i53 := by kernel_rfl
 i171 := by kernel_rfl
 i173 := by kernel_rfl
 i212 := by kernel_rfl
 i232 := by kernel_rfl
 i233 := by kernel_rfl
 m17 := by kernel_rfl
 m18 := by kernel_rfl
 m19 := by kernel_rfl }
end Go.Proofs
namespace Go.Pm
open Go.Lib
theorem parseUint10_append {r : List UInt8} : ∀ (l : List UInt8) (a b : Nat), parseUint10 a l = .ok b → parseUint10 a (l ++ r) = parseUint10 b r
 | [], a, b, h => by
  simp only [parseUint10, NumEnd.ok.injEq] at h
  subst h; rfl
 | c :: l, a, b, h => by
  simp only [parseUint10] at h
  simp only [List.cons_append, parseUint10]
  split at h
  ·rename_i h1
   rw [if_pos h1]
   split at h
   ·cases h
   rename_i h2
   rw [if_neg h2]
   split at h
   ·cases h
   rename_i h3
   rw [if_neg h3]
   exact parseUint10_append l _ b h
  cases h
theorem dig_toNat {d : Nat} (h : d < 10) : (UInt8.ofNat (48 + d)).toNat = 48 + d := by
 rw [UInt8.toNat_ofNat']
 exact Nat.mod_eq_of_lt (by omega)
theorem parse_dec (u : Nat) (h : u < 18446744073709551616) : parseUint10 0 (decDigits u) = .ok u := by
 induction u using Nat.strongRecOn with
 | _ u ih =>
  rw [decDigits]
  split
  ·rename_i h1
   simp only [parseUint10, dig_toNat h1]
   rw [if_pos (by omega), if_neg (by omega), if_neg (by omega)]
   congr 1
   omega
  rename_i h1
  rw [parseUint10_append _ 0 (u / 10) (ih (u / 10) (by omega) (by omega))]
  have hd : u % 10 < 10 := Nat.mod_lt _ (by omega)
  simp only [parseUint10, dig_toNat hd]
  rw [if_pos (by omega), if_neg (by omega), if_neg (by omega)]
  congr 1
  omega
theorem dec_bytes (u : Nat) : ∀ c ∈ decDigits u, 48 ≤ c.toNat ∧ c.toNat ≤ 57 := by
 induction u using Nat.strongRecOn with
 | _ u ih =>
  intro c hc
  rw [decDigits] at hc
  split at hc
  ·rename_i h1
   simp only [List.mem_singleton] at hc
   subst hc
   rw [dig_toNat h1]; omega
  rename_i h1
  rcases List.mem_append.1 hc with hc | hc
  ·exact ih (u / 10) (by omega) c hc
  simp only [List.mem_singleton] at hc
  subst hc
  rw [dig_toNat (Nat.mod_lt _ (by omega))]; omega
theorem dec_ne (u : Nat) : decDigits u ≠ [] := by
 rw [decDigits]
 split <;> simp
theorem parseMag_dec (u : Nat) (h : u < 18446744073709551616) : parseMag (decDigits u) = .ok u := by
 unfold parseMag
 rw [if_neg (dec_ne u), parse_dec u h]
theorem parse_itoa (n : Int) (h0 : -9223372036854775808 ≤ n) (h1 : n ≤ 9223372036854775807) : parseIntB 64 (itoa n) = .ok n := by
 rw [parseIntB_64]
 unfold itoa
 split
 ·rename_i hn
  have h45 : (45 : UInt8).toNat = 45 := rfl
  simp only [atoiAll, h45]
  rw [if_pos (by simp), parseMag_dec _ (by omega)]
  simp only [not_true_eq_false, false_and, if_false, true_and, if_true]
  rw [if_neg (by omega)]
  congr 1
  omega
 rename_i hn
 have hm := parseMag_dec n.toNat (by omega)
 have hb := dec_bytes n.toNat
 cases hl : decDigits n.toNat with
 | nil => exact absurd hl (dec_ne _)
 | cons c r =>
  rw [hl] at hm hb
  have hc := hb c (by simp)
  have h43 : ¬ c.toNat = 43 := by omega
  have h45 : ¬ c.toNat = 45 := by omega
  simp only [atoiAll, h43, h45, or_self, if_false, hm, not_false_eq_true, true_and, false_and]
  rw [if_neg (by omega)]
  congr 1
  omega
theorem nDigits_le : ∀ (k u : Nat), u < 10 ^ (k + 1) → nDigits u ≤ k + 1
 | 0, u, h => by rw [nDigits_small (by simpa using h)]; exact Nat.le_refl _
 | k + 1, u, h => by
  by_cases hu : u < 10
  ·rw [nDigits_small hu]; omega
  rw [nDigits_big hu]
  have := nDigits_le k (u / 10) (by rw [Nat.pow_succ] at h; omega)
  omega
theorem itoa_length (n : Int) (h0 : -9223372036854775808 ≤ n) (h1 : n ≤ 9223372036854775807) : 1 ≤ (itoa n).length ∧ (itoa n).length ≤ 20 := by
 have hp : (10 : Nat) ^ 19 = 10000000000000000000 := by decide
 unfold itoa
 split
 ·have := nDigits_le 18 n.natAbs (by rw [hp]; omega)
  simp only [List.length_cons, decDigits_length]; omega
 have := nDigits_le 18 n.toNat (by rw [hp]; omega)
 have := nDigits_pos n.toNat
 rw [decDigits_length]; omega
end Go.Pm
namespace Go.Proofs.YtmpackidbgfoiaaGreatDoor
open Go.RowKit Go.Pm
def FormatsInt (B : Base) (H : List Res) : Prop := ∀ (w : World) (n : Int), -9223372036854775808 ≤ n → n ≤ 9223372036854775807 → Inv B H w →
 Calls Tryz.prog 106 #[vI n, vI 10] w fun e w' => e = .returned (vS (Lib.itoa n)) ∧ Inv B H w'
theorem ex_ifaceNil {P : Program} {o : Oper} {a : Act} {w : World} {t u : TypeId} {x : Operand} {c : Value} (hu : P.underlying t = some (.interface (P.methodsAt t))) (ho : o.op = .binOp .neq t x (.const c) u) (hx : a.eval x = .nilIface) (hy : a.eval (.const c) = .nilIface) : Ex P a o w (.bool false) w := by
 have hg : (eqGuard .neq t x (.const c) .nilIface .nilIface).run P w = .ok () w := by simp [eqGuard]
 have hr : (binOp .neq t .nilIface .nilIface).run P w = .ok (.bool false) w := by simp [binOp, run_equal_nil_nil w t hu]
 unfold Ex; simp [execOp, ho, hx, hy, hg, hr]
theorem prcallable106 : Callable Tryz.prog 106 := cb Tryz.func106 (by kernel_rfl)
theorem numPrint (B : Base) (H : List Res) (hF : FormatsInt B H) (w : World) (n : Int) (h0 : -9223372036854775808 ≤ n) (h1 : n ≤ 9223372036854775807) (hv : Inv B H w) :
  Calls Tryz.prog 93 #[vI n] w fun e w' => e = .returned (vS (Lib.itoa n)) ∧ Inv B H w' := by
 refine cW Tryz.func93 rfl Tryz.ntmps93 ?_
 simp only [al]
 refine sK fun _ k1 => rL (uA rfl ?_)
 refine uW k1 (sK fun _ k2 => ?_)
 refine rL (uM rfl ?_)
 refine xC prcallable106 rfl ((hF _ n h0 h1 hv).mono ?_) rfl
 rintro e w3 ⟨rfl, hv⟩
 refine ⟨_, rfl, uA rfl ?_⟩
 refine uW k2 (rR ?_)
 refine bR rfl rfl (⟨rfl, hv⟩)
theorem bytesWorld_ext (w : World) (e : TypeId) (t : ByteArray) : Ext w (Lib.bytesWorld w e t) := by
 have h : ∀ k, k < w.heap.size → (Lib.bytesWorld w e t).heap[k]? = w.heap[k]? := by
  intro k hk
  unfold Lib.bytesWorld World.freeze
  split
  ·show (w.heap.push _)[k]? = _
   rw [Array.getElem?_push_lt hk, Array.getElem?_eq_getElem hk]
  show ((w.heap.push _).modify w.heap.size _)[k]? = _
  rw [Array.getElem?_modify, if_neg (by omega), Array.getElem?_push_lt hk, Array.getElem?_eq_getElem hk]
 have hs : w.heap.size ≤ (Lib.bytesWorld w e t).heap.size := by
  unfold Lib.bytesWorld World.freeze
  split
  ·show _ ≤ (w.heap.push _).size
   simp
  show _ ≤ ((w.heap.push _).modify _ _).size
  simp
 refine ⟨?_, ?_, ?_, hs, h⟩ <;> (unfold Lib.bytesWorld World.freeze; split <;> rfl)
theorem growN_ext (w : World) (k : Nat) (os : Array Obj) : Ext w (Go.Sort.grow (w.drewN k) os) := by
 refine ⟨rfl, rfl, rfl, ?_, fun b hb => ?_⟩
 ·show _ ≤ (w.heap ++ os).size
  simp
 show (w.heap ++ os)[b]? = _
 rw [Array.getElem?_append_left hb]
theorem tab_below {P : Program} {W w : World} {n : String} {k : IntKind} {l : List Int} (h : Lib.TabIs P W n k l) (hb : Below W.heap.size W w) : Lib.TabIs P w n k l := by
 unfold Lib.TabIs World.var? at h ⊢
 cases hg : P.globalNamed n with
 | none => rw [hg] at h; cases h
 | some g =>
  rw [hg] at h
  simp only [Option.bind_some] at h ⊢
  have hlt : g < W.heap.size := by
   rcases Nat.lt_or_ge g W.heap.size with hlt | hge
   ·exact hlt
   rw [Array.getElem?_eq_none hge] at h; cases h
  rw [hb.block g hlt]; exact h
theorem formatsInt (B : Base) (H : List Res) (W : World) (hB : (Base.of W).Le B) (ht : Lib.TabIs Tryz.prog W "internal/strconv.uint64pow10" .u64 Lib.pow10Tab) : FormatsInt B H := fun w n h0 h1 hv => by
 have h : Calls Tryz.prog 106 #[vI n, vI 10] w _ := Any.strconv_FormatInt_10 Tryz.laysFI n h0 h1 w (tab_below ht (hv.below hB))
 refine h.mono ?_
 rintro e w' ⟨rfl, k, os, rfl⟩
 exact ⟨rfl, hv.ext (growN_ext w k os)⟩
def NumP (s : List UInt8) (n : Int) (b : Bool) : Prop := (b = true ∧ -9223372036854775808 ≤ n ∧ n ≤ 9223372036854775807 ∧ s = Lib.itoa n) ∨ (b = false ∧ n = 0 ∧ ∀ m : Int, -9223372036854775808 ≤ m → m ≤ 9223372036854775807 → s ≠ Lib.itoa m)
def ParsesAny (B : Base) (H : List Res) : Prop := ∀ (w : World) (s : List UInt8), s.length ≤ 20 → Inv B H w →
 Calls Tryz.prog 104 #[vS s, vI 10, vI 64] w fun e w' => ∃ (n : Int) (ev : Value), e = .returned (.tuple #[vI n, ev]) ∧ (ev = .nilIface ∨ ∃ t v, ev = .iface t v) ∧ (-9223372036854775808 ≤ n ∧ n ≤ 9223372036854775807) ∧ (∀ m : Int, -9223372036854775808 ≤ m → m ≤ 9223372036854775807 → s = Lib.itoa m → ev = .nilIface ∧ n = m) ∧ Inv B H w'
theorem ex_ifaceNe {P : Program} {o : Oper} {a : Act} {w : World} {t u d : TypeId} {v : Value} {ms : Array (String × TypeId)} {x : Operand} {c : Value} (hu : P.underlying t = some (.interface ms)) (ho : o.op = .binOp .neq t x (.const c) u) (hx : a.eval x = .iface d v) (hc : c = .nilIface) : Ex P a o w (.bool true) w := by
 subst hc
 have hg : (eqGuard .neq t x (.const .nilIface) (.iface d v) .nilIface).run P w = .ok () w := by simp [eqGuard]
 have h : ∀ k : Nat, (Op.equalIn (k + 1) t (.iface d v) .nilIface).run P w = .ok false w := fun k => by simp [Op.equalIn, run_underlying hu]
 have hr : (binOp .neq t (.iface d v) .nilIface).run P w = .ok (.bool true) w := by
  simp only [binOp]; simp [Op.equal, Op.maxDepth, h 9999]
 have hy : a.eval (.const .nilIface) = .nilIface := rfl
 unfold Ex; simp [execOp, ho, hx, hy, hg, hr]
def HasErr (B : Base) (g : Nat) : Prop := ∃ t v, ∀ C K w, B.Le C → Inv C K w → w.cell? ⟨g, 0, none⟩ = some (.iface t v)
theorem HasErr.more {B C : Base} {g : Nat} (h : HasErr B g) (hB : B.Le C) : HasErr C g := by
 obtain ⟨t, v, h⟩ := h
 exact ⟨t, v, fun D K w hD hv => h D K w (hB.trans hD) hv⟩
theorem hasErr_of {W : World} {g : Nat} {t : TypeId} {v : Value} (h : W.cell? ⟨g, 0, none⟩ = some (.iface t v)) : HasErr (Base.of W) g := by
 have hlt : g < W.heap.size := Lib.lt_of_cell h
 exact ⟨t, v, fun C K w hC hv => ((hv.below hC).cell (show (⟨g, 0, none⟩ : Addr).block < W.heap.size from hlt)).trans h⟩
theorem errOf {W : World} {l : List (String × DataW Unit)} {name nm : String} {d : DataW Unit} {g t : Nat} {ms : Array (String × TypeId)} (hl : l.filter (fun x => x.1 == name) = [(name, .iface nm d)]) (he : ([(name, (DataW.iface nm d : DataW Unit))].filter fun x => x.2.handleName?.isNone) = [(name, .iface nm d)])
  (hg : Tryz.prog.globalNamed name = some g) (hty : (Tryz.prog.globals[g]?).map (·.type) = some t) (ht : Tryz.prog.underlying t = some (.interface ms)) (hL : laidMetH Tryz.prog l W) : ∃ u v, W.cell? ⟨g, 0, none⟩ = some (.iface u v) := by
 have h := hL.filter (fun x => x.1 == name)
 rw [hl] at h
 have h2 := (laidMetH_iff.1 h).1
 rw [he] at h2
 obtain ⟨ps, ⟨g', t', cs, fuel, p, q, hg', ht', hvar, hd, _, _⟩, _⟩ := h2
 obtain rfl := Option.some.inj (hg.symm.trans hg')
 obtain rfl := Option.some.inj (hty.symm.trans ht')
 obtain ⟨f', u, v, hcs, -, -⟩ := iface_of_trod ht hd
 refine ⟨u, v, ?_⟩
 have := World.var?_cell hg hvar 0
 rw [this]
 have hcs' : cs.toList = [.iface u v] := hcs
 rw [← Array.getElem?_toList, hcs']; rfl
theorem pzcallable104 : Callable Tryz.prog 104 := cb Tryz.func104 (by kernel_rfl)
theorem pzcallable93 : Callable Tryz.prog 93 := cb Tryz.func93 (by kernel_rfl)
theorem numParseAny (B : Base) (H : List Res) (hF : FormatsInt B H) (hP : ParsesAny B H) (w : World) (s : List UInt8) (hv : Inv B H w) :
  Calls Tryz.prog 85 #[vS s] w fun e w' => ∃ n b, e = .returned (.tuple #[vI n, .bool b]) ∧ NumP s n b ∧ Inv B H w' := by
 refine cW Tryz.func85 rfl Tryz.ntmps85 ?_
 simp only [al]
 refine sK fun _ k1 => rL (uA rfl ?_)
 refine uA rfl (uW k1 ?_)
 refine sK fun _ k2 => sK fun _ k3 => rL (uM rfl ?_)
 refine uG (vI (s.length : Int)) rfl (ex_lenStr Tryz.underlying9 rfl rfl) ?_
 by_cases hb4 : (s.length : Int) > 20
 ·refine uG (.bool true) rfl (ex_gtr rfl rfl rfl (qT hb4)) (uW k3 ?_)
  refine cT rfl (sK fun _ k5 => ?_)
  refine rL (uA rfl ?_)
  refine uA rfl (uW k5 ?_)
  refine rR (tR ?_)
  refine bodyPost_ret (results_tmp2 rfl _ _ _) rfl (⟨_, _, rfl, .inr ⟨rfl, rfl, fun m h0 h1 e9 => by have := itoa_length m h0 h1; rw [← e9] at this; omega⟩, hv⟩)
 refine uG (.bool false) rfl (ex_gtr rfl rfl rfl (qF hb4)) (uW k3 ?_)
 refine cF rfl (kS ?_)
 refine tK k2 (sK fun _ k6 => ?_)
 refine rL (uM rfl ?_)
 refine xC pzcallable104 rfl ((hP _ s (by omega) hv).mono ?_) rfl
 rintro e w7 ⟨n, ev, rfl, hev, hn, hno, hv⟩
 refine ⟨_, rfl, ?_⟩
 rcases hev with rfl | ⟨t9, v9, rfl⟩
 ·refine uM rfl (uE rfl ?_)
  refine uE rfl (uA rfl ?_)
  refine uA rfl (uW k6 ?_)
  refine sK fun _ k8 => sK fun _ k9 => rL (uM rfl ?_)
  refine uG (.bool false) rfl (ex_ifaceNil Tryz.underlying185 rfl rfl rfl) (uW k9 ?_)
  refine cF rfl (kS ?_)
  refine tK k8 (sK fun _ k10 => ?_)
  refine rL (uM rfl ?_)
  refine uA rfl (uW k10 ?_)
  refine sK fun _ k11 => sK fun _ k12 => rL (uM rfl ?_)
  refine xC pzcallable93 rfl ((numPrint B H hF _ n hn.1 hn.2 hv).mono ?_) rfl
  rintro e w13 ⟨rfl, hv⟩
  refine ⟨_, rfl, uM rfl ?_⟩
  by_cases hb14 : (Lib.itoa n) ≠ s
  ·refine uG (.bool true) rfl (ex_sneq rfl rfl rfl (qT hb14)) (uW k12 ?_)
   refine cT rfl (sK fun _ k15 => ?_)
   refine rL (uA rfl ?_)
   refine uA rfl (uW k15 ?_)
   refine rR (tR ?_)
   refine bodyPost_ret (results_tmp2 rfl _ _ _) rfl (⟨_, _, rfl, .inr ⟨rfl, rfl, fun m h0 h1 e9 => by have h8 := (hno m h0 h1 e9).2; subst h8; exact hb14 e9.symm⟩, hv⟩)
  refine uG (.bool false) rfl (ex_sneq rfl rfl rfl (qF hb14)) (uW k12 ?_)
  refine cF rfl (kS ?_)
  refine tK k11 (sK fun _ k16 => ?_)
  refine rL (uM rfl ?_)
  refine uA rfl (uA rfl ?_)
  refine uW k16 (rR ?_)
  refine bodyPost_ret (results_tmp2 rfl _ _ _) rfl (⟨_, _, rfl, .inl ⟨rfl, hn.1, hn.2, (Classical.byContradiction fun h9 => hb14 (fun e9 => h9 e9.symm))⟩, hv⟩)
 refine uM rfl (uE rfl ?_)
 refine uE rfl (uA rfl ?_)
 refine uA rfl (uW k6 ?_)
 refine sK fun _ k17 => sK fun _ k18 => rL (uM rfl ?_)
 refine uG (.bool true) rfl (ex_ifaceNe Tryz.underlying185 rfl rfl rfl) (uW k18 ?_)
 refine cT rfl (sK fun _ k19 => ?_)
 refine rL (uA rfl ?_)
 refine uA rfl (uW k19 ?_)
 refine rR (tR ?_)
 refine bodyPost_ret (results_tmp2 rfl _ _ _) rfl (⟨_, _, rfl, .inr ⟨rfl, rfl, fun m h0 h1 e9 => by have := (hno m h0 h1 e9).1; cases this⟩, hv⟩)
end Go.Proofs.YtmpackidbgfoiaaGreatDoor
namespace Go.Pm
open Go.RowKit
section
variable {α : Type} {f : α → List Value} {k : Nat}
theorem rowk_len (hk : ∀ x, (f x).length = k) (l : List α) : (l.flatMap f).length = l.length * k := by
 induction l with
 | nil => simp
 | cons a l ih => rw [List.flatMap_cons, List.length_append, ih, hk, List.length_cons, Nat.succ_mul]; omega
theorem rowk_get (hk : ∀ x, (f x).length = k) {l : List α} {i j : Nat} {x : α} (hx : l[i]? = some x) (hj : j < k) : (l.flatMap f)[i * k + j]? = (f x)[j]? := by
 have hi := (List.getElem?_eq_some_iff.1 hx).1
 have h : l = l.take i ++ x :: l.drop (i + 1) := by
  have h9 := (List.take_append_drop i l).symm
  rw [List.drop_eq_getElem_cons hi, (List.getElem?_eq_some_iff.1 hx).2] at h9
  exact h9
 rw [h, List.flatMap_append, List.flatMap_cons, List.getElem?_append_right (by rw [rowk_len hk, List.length_take, Nat.min_eq_left (by omega)]; omega),
  rowk_len hk, List.length_take, Nat.min_eq_left (by omega), Nat.add_sub_cancel_left, List.getElem?_append_left (by rw [hk]; exact hj)]
theorem rowk_reads (hk : ∀ x, (f x).length = k) (h0 : 0 < k) {B : Base} {l : List α} {ad : Option Addr} {i : Nat} {x : α} (hr : RdV B [] ad (l.flatMap f)) (hx : l[i]? = some x) : ∃ b off, ad = some ⟨b, off, none⟩ ∧ Reads B [] b (off + i * k) (f x) := by
 have hi := (List.getElem?_eq_some_iff.1 hx).1
 have hle : i * k + k ≤ l.length * k := by have := Nat.mul_le_mul_right k (show i + 1 ≤ l.length by omega); rw [Nat.succ_mul] at this; exact this
 exact rdW_reads (k := i * k) (m := k) (hr.rdW []) (by rw [rowk_len hk]; exact hle) h0 (hk x) (fun j hj => (rowk_get hk hx hj).symm)
end
end Go.Pm
namespace Go.Proofs.YtmpackidbgfoiaaGreatDoor
open Go.RowKit Go.Pm
def NumB (B : Base) : Prop := ∀ C H, B.Le C → FormatsInt C H ∧ ParsesAny C H
theorem NumB.more {B C : Base} (h : NumB B) (hB : B.Le C) : NumB C := fun D H hD => h D H (hB.trans hD)
def intCells (l : List Int) : List Value := l.flatMap fun n => [vI n]
theorem int_reads {B : Base} {l : List Int} {ad : Option Addr} {i : Nat} {x : Int} (hr : RdV B [] ad (intCells l)) (hx : l[i]? = some x) : ∃ b off, ad = some ⟨b, off, none⟩ ∧ Reads B [] b (off + i) [vI x] := by
 have := rowk_reads (f := fun n : Int => [vI n]) (k := 1) (fun _ => rfl) (by decide) hr hx
 simpa using this
theorem int_snoc (l : List Int) (x : Int) : intCells l ++ [vI x] = intCells (l ++ [x]) := by simp [intCells]
def IntsR (ts : List (List UInt8)) (ns : List Int) (ec : Int) : Prop := (ec = 0 ∧ ns.length = ts.length ∧ ∀ (i : Nat) t n, ts[i]? = some t → ns[i]? = some n → NumP t n true) ∨ (ec = 41 ∧ ns = [] ∧ ∃ t ∈ ts, NumP t 0 false)
theorem itmk3 : (Tryz.prog.info? 3).map (fun i => (i.zero, i.size, i.bytes)) = some (some (vI 0), 1, 8) := by kernel_rfl
theorem itel126 : Elem Tryz.prog 126 3 (vI 0) 1 8 := elem_of Tryz.underlying126 itmk3 (by rfl) (by decide)
theorem ites23 (w : World) : (sizeOf (Tryz.prog.elem 23)).run Tryz.prog w = .ok 1 w := by kernel_rfl
theorem itna9 (w : World) : (isAgg 9).run Tryz.prog w = .ok false w := by kernel_rfl
theorem itcallable85 : Callable Tryz.prog 85 := cb Tryz.func85 (by kernel_rfl)
theorem viewInts (B : Base) (H : List Res) (w : World) (ta : Option Addr) (tc : Nat) (ts : List (List UInt8)) (hr : RdV B [] ta (textCells ts)) (hm : ts.length ≤ 1000000) (hN : NumB B) (hv : Inv B H w) :
  Calls Tryz.prog 56 #[.slice ta ts.length tc] w fun e w' => ∃ C oa oc ns ec, B.Le C ∧ e = .returned (.tuple #[.slice oa ns.length oc, vI ec]) ∧ RdV C [] oa (intCells ns) ∧ IntsR ts ns ec ∧ Inv C H w' := by
 refine cW Tryz.func56 rfl Tryz.ntmps56 ?_
 simp only [al]
 refine sK fun _ k1 => rL (uA rfl ?_)
 refine uA rfl (uW k1 ?_)
 refine sK fun _ k2 => rL (uM rfl ?_)
 refine uG (vI (ts.length : Int)) rfl (ex_len0 Tryz.underlying23 rfl rfl) ?_
 refine sl_makeRow (cap := ts.length) tV (wn rfl) rfl rfl rfl itel126 (by unfold maxLen; omega) (by omega) hv (fun b3 w4 hv => ?_)
 refine uA rfl (uW k2 ?_)
 refine sK fun _ k5 => sK fun _ k6 => rL (uM rfl ?_)
 refine uG (vI (ts.length : Int)) rfl (ex_len0 Tryz.underlying23 rfl rfl) (uM rfl ?_)
 refine uW k6 (bB ?_)
 gi_loopw [14, 4] (fun x14 x4 wr => ∃ (i : Nat) (ns : List Int) (ra : Option Addr) (rc : Nat), x14 = vI i ∧ x4 = .slice ra ns.length rc ∧ i ≤ ts.length ∧ ns.length = i ∧ (∀ (j : Nat) t n, ts[j]? = some t → ns[j]? = some n → NumP t n true) ∧ Inv B (Res.row 3 1 (.slice ra ns.length rc) ns.length (intCells ns) :: H) wr) (fun x14 x4 _ => ts.length - (intOf x14).toNat)
 case atStart => exact ⟨0, [], _, _, rfl, rfl, Nat.zero_le _, rfl, fun j t n _ h => by simp at h, hv⟩
 case round =>
  obtain ⟨i, ns, ra, rc, rfl, rfl, hi, hnl, hall, hv⟩ := hrel
  refine sK fun _ k8 => rL ?_
  by_cases hb9 : (i : Int) < (ts.length : Int)
  ·refine uG (.bool true) rfl (ex_lss rfl rfl rfl (qT hb9)) (uW k8 ?_)
   refine sK fun _ k10 => cT rfl (kS ?_)
   refine tK k10 (sK fun _ k11 => ?_)
   refine bB (sK fun _ k12 => ?_)
   obtain ⟨x, hx⟩ : ∃ x, ts[i]? = some x := ⟨_, List.getElem?_eq_getElem (show i < ts.length by omega)⟩
   obtain ⟨bb, bo, had, hrdx⟩ := text_reads hr hx
   subst had
   refine rL (uG (.pointer (some ⟨bb, bo + i, none⟩)) rfl (ex_index rfl rfl rfl (run_idx1 (k := i) Tryz.underlying23 ites23 (by omega))) ?_)
   refine uL _ rfl (run_load1 itna9 (hrdx _ _ _ (Base.Le.refl _) no_res hv 0 _ rfl)) (uA rfl ?_)
   refine uW k12 (sK fun _ k13 => ?_)
   refine rL (uM rfl ?_)
   refine xC itcallable85 rfl ((numParseAny B _ (hN B _ (Base.Le.refl _)).1 (hN B _ (Base.Le.refl _)).2 _ x hv).mono ?_) rfl
   rintro e w14 ⟨n, b, rfl, hnp, hv⟩
   refine ⟨_, rfl, ?_⟩
   cases b
   ·refine uM rfl (uE rfl ?_)
    refine uE rfl (uA rfl ?_)
    refine uA rfl (uW k13 ?_)
    refine sK fun _ k15 => sK fun _ k16 => rL (uM rfl ?_)
    refine uG (.bool true) rfl (ex_not rfl rfl rfl) (uW k16 ?_)
    refine cT rfl (sK fun _ k17 => ?_)
    refine rL (uA rfl ?_)
    refine uA rfl (uW k17 ?_)
    refine rR (tR ?_)
    refine bZ (tR ?_)
    refine tR (bZ ?_)
    refine tR (bodyPost_ret (results_tmp2 rfl _ _ _) rfl ?_)
    obtain rfl : n = 0 := hnp.elim (fun h => absurd h.1 (by decide)) (fun h => h.2.1)
    exact ⟨B, none, 0, [], 41, Base.Le.refl _, rfl, rdV_nil, .inr ⟨rfl, rfl, x, List.mem_of_getElem? hx, hnp⟩, (hv.kp [] 0 1)⟩
   refine uM rfl (uE rfl ?_)
   refine uE rfl (uA rfl ?_)
   refine uA rfl (uW k13 ?_)
   refine sK fun _ k18 => sK fun _ k19 => rL (uM rfl ?_)
   refine uG (.bool false) rfl (ex_not rfl rfl rfl) (uW k19 ?_)
   refine cF rfl (kS ?_)
   refine tK k18 (rL ?_)
   refine uM rfl (uM rfl ?_)
   refine sl_rowOne (v := vI n) tV (wn rfl) rfl rfl hv itel126 rfl (fun b20 w21 hv => ?_)
   simp only [zP, po]
   replace hv := hv.front 1 rfl
   simp only [eS, eZ] at hv
   refine sl_append (news := [vI n]) tV (wn rfl) rfl rfl rfl itel126 hv (ok_full (by omega)) rfl (rd_all (hv.get 1 rfl)) (by intro u hu; simp only [List.mem_cons, List.not_mem_nil, or_false] at hu; rcases hu with rfl <;> rfl) (by unfold maxLen; omega) (by omega) (fun rv22 w25 hv => ?_)
   obtain ⟨ra23, rc24, rfl⟩ := row_slice hv.head
   refine uA rfl (uZ ?_)
   refine bN (tK k11 ?_)
   refine rL (uG (vI ((i + 1 : Nat) : Int)) rfl (ex_add rfl rfl rfl (by rw [i64_in (by omega)]; omega)) ?_)
   refine uM rfl (uZ ?_)
   refine then_normal ?_
   go_roundw
   case rel => exact ⟨i + 1, ns ++ [n], _, _, rfl, by rw [List.length_append, List.length_singleton], by omega, by rw [List.length_append, List.length_singleton, hnl], fun j t' n' ht' hn' => (by
      rcases Nat.lt_or_ge j ns.length with h | h
      ·rw [List.getElem?_append_left h] at hn'; exact hall j t' n' ht' hn'
      have hj := (List.getElem?_eq_some_iff.1 hn').1
      rw [List.length_append, List.length_singleton] at hj
      obtain rfl : j = ns.length := by omega
      rw [List.getElem?_append_right (Nat.le_refl _), Nat.sub_self] at hn'
      rw [hnl, hx] at ht'
      cases ht'; cases hn'; exact hnp), by rw [List.length_append, List.length_singleton, ← int_snoc]; exact (hv.kp [] 1 1)⟩
   case measure => show ts.length - (((i + 1 : Nat) : Int)).toNat < ts.length - ((i : Int)).toNat; omega
  refine uG (.bool false) rfl (ex_lss rfl rfl rfl (qF hb9)) (uW k8 ?_)
  refine sK fun _ k26 => cF rfl (xE ?_)
  refine tX (tX ?_)
  refine bH (tK k5 ?_)
  refine sK fun _ k27 => rL (uM rfl ?_)
  refine uA rfl (uA rfl ?_)
  refine uW k27 (rR ?_)
  refine bodyPost_ret (results_tmp2 rfl _ _ _) rfl ?_
  obtain rfl : i = ts.length := by omega
  obtain ⟨D, hD, hv, hro, hoko, -⟩ := (hv).rowBy
  exact ⟨D, ra, rc, ns, 0, hD, rfl, hro, .inl ⟨rfl, hnl, hall⟩, hv⟩
end Go.Proofs.YtmpackidbgfoiaaGreatDoor
