/- Views over a transaction: Of, Keep, May. -/
import Derived.Test.YtoljdfjnannakaaGreatDoorCsNamB
import Derived.Test.YtoljdfjnannakaaGreatDoorCsNamD
import Derived.Test.YtoljdfjnannakaaGreatDoorRows
import Derived.Shelf.SlIter.Collect
import Derived.Shelf.Sort.Plain
import Derived.Shelf.Slices.In.CompactS
import Derived.Shelf.Slices.In.SortNone
import Derived.Ground.NamesProg
import Derived.Ground.GgzProg
import Derived.Sort.KeysCollected
import Derived.Sort.OwnSorted
import Derived.Sort.Walk0
import Derived.Lib.SlicesCompact
import Derived.Test.YtoljdfjnannakaaGreatDoorCsNamC
set_option maxRecDepth 100000
namespace Go.Proofs.YtoljdfjnannakaaGreatDoor
open Go.RowKit Go.Pm
def FullV (x : Val) : Prop := x.kind = 1 ∨ 0 < x.pairs.length + x.texts.length + x.zset.length
def DeadM (M : List (List UInt8 × Ver)) (clk : Int) (k : List UInt8) : Prop := ∀ y, lookA M k = some y → aliveB y clk = false
def OfI (M : List (List UInt8 × Ver)) (clk : Int) (key : List UInt8) (kind : Int) (y : Ver) (ec : Int) : Prop :=
 (ec = 0 ∧ y = zver0 ∧ DeadM M clk key) ∨ (ec = 40 ∧ y = zver0 ∧ ∃ x, lookA M key = some x ∧ aliveB x clk = true ∧ x.val.kind ≠ kind) ∨ (ec = 0 ∧ lookA M key = some y ∧ aliveB y clk = true ∧ y.val.kind = kind)
def KeepI (M : List (List UInt8 × Ver)) (clk : Int) (key : List UInt8) (x : Val) (exp : Int) (ec : Int) (M' : List (List UInt8 × Ver)) : Prop :=
 (FullV x ∧ PutOk key x exp ∧ ec = 0 ∧ M' = updA M key ⟨0, false, exp, x⟩) ∨ (FullV x ∧ ¬ PutOk key x exp ∧ ec = 2 ∧ M' = M) ∨ (¬ FullV x ∧ DeadM M clk key ∧ ec = 0 ∧ M' = M) ∨
 (¬ FullV x ∧ (∃ y, lookA M key = some y ∧ aliveB y clk = true) ∧ ((key.length ≤ 256 ∧ ec = 0 ∧ M' = updA M key gver) ∨ (256 < key.length ∧ ec = 2 ∧ M' = M)))
def sizeV (x : Val) : Nat := if x.kind = 1 then x.text.length else x.pairs.length + x.texts.length + x.zset.length
theorem valAt_sl {B : Base} {v : Val} {p t z : Value} (h : ValAt B v p t z) : ∃ a b c i j k, p = .slice a v.pairs.length i ∧ t = .slice b v.texts.length j ∧ z = .slice c v.zset.length k := by
 obtain ⟨⟨a, i, h1, -⟩, ⟨b, j, h2, -⟩, ⟨c, k, h3, -⟩, -⟩ := h
 exact ⟨a, b, c, i, j, k, h1, h2, h3⟩
set_option maxHeartbeats 2000000 in
theorem valueSize0 (B : Base) (H : List Res) (w : World) (x : Val) (a b c : Option Addr) (i j k : Nat) (hp : x.pairs.length ≤ 1000000) (ht : x.texts.length ≤ 1000000) (hz : x.zset.length ≤ 1000000) (hv : Inv B H w) :
  Calls Tryz.prog 54 #[.agg #[vI x.kind, vS x.text, .slice a x.pairs.length i, .slice b x.texts.length j, .slice c x.zset.length k]] w fun e w' => e = .returned (vI (sizeV x : Int)) ∧ Inv B H w' := by
 refine cW Tryz.func54 rfl Tryz.ntmps54 ?_
 simp only [al]
 refine sK fun _ k1 => rL (sl_box (L := [vI x.kind, vS x.text, .slice a x.pairs.length i, .slice b x.texts.length j, .slice c x.zset.length k]) tV (wn rfl) rfl rfl hv (fun w => by kernel_rfl) (fun b2 w3 hv => ?_))
 refine xA (vI 0) rfl ?_
 simp only [zP, po]
 refine wK k1 (sK fun _ k4 => ?_)
 refine sK fun _ k5 => rL (xF (vP b2) rfl (s12fa78_0 _ _ _) ?_)
 refine xL _ rfl (run_load1 s2na3 (hv.load 0 0 rfl rfl)) ?_
 by_cases hb6 : x.kind = 1
 ·refine xG (.bool true) rfl (ex_eql rfl rfl rfl (qT hb6)) ?_
  simp only [zP, po]
  refine wK k5 (cT rfl ?_)
  refine sK fun _ k7 => rL (xF (.pointer (some ⟨b2, 1, none⟩)) rfl (s12fa78_1 _ _ _) ?_)
  refine xL _ rfl (run_load1 s9na9 (hv.load 0 1 rfl rfl)) (xG (vI (x.text.length : Int)) rfl (ex_lenStr Tryz.underlying9 rfl rfl) ?_)
  simp only [zP, po]
  refine xA (vI (x.text.length : Int)) rfl ?_
  simp only [zP, po]
  refine wK k7 (rR ?_)
  refine tR (bR rfl rfl ?_)
  exact ⟨congrArg (fun n : Int => Ending.returned (vI n)) (by unfold sizeV; split <;> omega), (hv.kp [] 0 1)⟩
 refine xG (.bool false) rfl (ex_eql rfl rfl rfl (qF hb6)) ?_
 simp only [zP, po]
 refine wK k5 (cF rfl ?_)
 refine kS (tK k4 ?_)
 refine sK fun _ k8 => rL (xF (.pointer (some ⟨b2, 2, none⟩)) rfl (s1fa78_2 _ _ _) ?_)
 refine xL _ rfl (run_load1 s1na75 (hv.load 0 2 rfl rfl)) (xG (vI (x.pairs.length : Int)) rfl (ex_len0 Tryz.underlying75 rfl rfl) ?_)
 simp only [zP, po]
 refine xF (.pointer (some ⟨b2, 3, none⟩)) rfl (s1fa78_3 _ _ _) (xL _ rfl (run_load1 s1na22 (hv.load 0 3 rfl rfl)) ?_)
 refine xG (vI (x.texts.length : Int)) rfl (ex_len0 Tryz.underlying22 rfl rfl) ?_
 simp only [zP, po]
 refine xG (vI ((x.pairs.length : Int) + (x.texts.length : Int))) rfl (ex_add rfl rfl rfl (i64_in (by omega))) (xF (.pointer (some ⟨b2, 4, none⟩)) rfl (s1fa78_4 _ _ _) ?_)
 refine xL _ rfl (run_load1 s1na76 (hv.load 0 4 rfl rfl)) ?_
 simp only [zP, po]
 refine xG (vI (x.zset.length : Int)) rfl (ex_len0 Tryz.underlying76 rfl rfl) (xG (vI (((x.pairs.length : Int) + (x.texts.length : Int)) + (x.zset.length : Int))) rfl (ex_add rfl rfl rfl (i64_in (by omega))) ?_)
 refine xA (vI (((x.pairs.length : Int) + (x.texts.length : Int)) + (x.zset.length : Int))) rfl ?_
 simp only [zP, po]
 refine wK k8 (rR ?_)
 refine bR rfl rfl (⟨congrArg (fun n : Int => Ending.returned (vI n)) (by unfold sizeV; split <;> omega), (hv.kp [] 0 1)⟩)
theorem valueSize (B : Base) (H : List Res) (w : World) (x : Val) (p t z : Value) (h : ValAt B x p t z) (hv : Inv B H w) : Calls Tryz.prog 54 #[.agg (valCells x p t z).toArray] w fun e w' => e = .returned (vI (sizeV x : Int)) ∧ Inv B H w' := by
 obtain ⟨a, b, c, i, j, k, rfl, rfl, rfl⟩ := valAt_sl h
 exact valueSize0 B H w x a b c i j k h.pm h.tm h.zm hv
theorem v1al85 (w : World) : (Instr.alloc 85 true (.tuple #[])).run Tryz.prog w = .ok (.pointer (some ⟨w.heap.size, 0, none⟩)) (w.alloc (.cells ([vI 0, .bool false, vI 0, vI 0, vS [], vN, vN, vN] : List Value).toArray 85)) := by kernel_rfl
theorem v1al54 (w : World) : (Instr.alloc 54 true (.tuple #[])).run Tryz.prog w = .ok (.pointer (some ⟨w.heap.size, 0, none⟩)) (w.alloc (.cells ([vI 0] : List Value).toArray 54)) := by kernel_rfl
theorem v1fa39_0 (w : World) (b o : Nat) : (Instr.fieldAt 39 (.pointer (some ⟨b, o, none⟩)) 0).run Tryz.prog w = .ok (.pointer (some ⟨b, o + 0, none⟩)) w := by kernel_rfl
theorem v1na37 (w : World) : (isAgg 37).run Tryz.prog w = .ok false w := by kernel_rfl
theorem v1callable196 : Callable Tryz.prog 196 := ⟨_, Tryz.func196, by kernel_rfl, by kernel_rfl⟩
theorem v1sz54 : (Tryz.prog.info? 54).map (·.size) = some 1 := by kernel_rfl
theorem v1na54 (w : World) : (isAgg 54).run Tryz.prog w = .ok false w := by kernel_rfl
theorem v1callable85 : Callable Tryz.prog 85 := ⟨_, Tryz.func85, by kernel_rfl, by kernel_rfl⟩
theorem v1rec85 (n : Nat) (x0 x1 : Value) (w : World) : CallsDIn Fence.wide n Tryz.prog 85 #[x0, x1] .returning w fun e u' w' => e = .returned (.tuple #[]) ∧ u' = .returning ∧ w' = w := by
 refine callsDIn_of_wpSIn Tryz.func85 rfl trivial fun c₀ cs hu => ?_
 apply wpSIn_seq
 apply wpSIn_region
 simp [wpOpsSIn, go_sem, recoverD, hu, Tryz.ntmps85, Exit.thenS]
 refine wpSIn_cond (t := false) (by simp [Act.eval, Array.replicate]) ?_
 simp only [Bool.false_eq_true, if_false]
 refine wpSIn_of_wpIn rfl (wpIn_skip ?_)
 cases c₀
 simp_all [bodyPostS, results, Tryz.results85]
set_option maxHeartbeats 4000000 in
theorem viewOf (B : Base) (H : List Res) (w : World) (v t m s p wb : Nat) (va : Option Addr) (vc : Nat) (sv : Value) (clk : Int) (es : List (List UInt8 × Value)) (M : List (List UInt8 × Ver)) (key : List UInt8) (kind : Int) (hM : VM B es M) (hv : Inv B (Res.cell v [.iface 62 (vP t)] 39 :: txR t m s p wb va vc sv clk es :: H) w) :
  Calls Tryz.prog 63 #[vP v, vS key, vI kind] w fun e w' => ∃ C y p' t' z' ec, B.Le C ∧ e = .returned (.tuple #[.agg (verCells y p' t' z').toArray, vI ec]) ∧ ValAt C y.val p' t' z' ∧ OfI M clk key kind y ec ∧ Inv C (Res.cell v [.iface 62 (vP t)] 39 :: txR t m s p wb va vc sv clk es :: H) w' := by
 refine (callsIn_wide (n := 5)).1 (callsIn_of_wp_defers Tryz.func63 rfl trivial ?_)
 simp only [Tryz.ntmps63, List.size_toArray, List.length_cons, List.length_nil, Nat.reduceAdd, Nat.reduceSub, Array.replicate_succ, Array.replicate_zero, List.push_toArray, List.append_toArray, List.nil_append, List.cons_append]
 refine sK fun _ k1 => rL (sl_alloc tV (wn rfl) rfl hv v1al85 (fun b2 w3 hv => ?_))
 refine sl_alloc tV (wn rfl) rfl hv v1al54 (fun b4 w5 hv => ?_)
 simp only [zP, po]
 refine wK k1 (sK fun _ k6 => ?_)
 refine rL (xG (.func (.func 85) #[] #[vP b2, vP b4]) rfl (ex_makeFunc (c' := #[vP b2, vP b4]) rfl (by simp only [List.map_toArray, List.map_nil]) (by simp only [List.map_toArray, List.map_cons, List.map_nil]; rfl)) ?_)
 refine wpi_defer tV rfl (wn rfl) rfl rfl ?_
 simp only [zP, po]
 refine wK k6 (sK fun _ k7 => ?_)
 refine rL (xM (vP v) rfl ?_)
 refine xG (vP v) rfl (ex_nil rfl rfl) (xF (vP v) rfl (v1fa39_0 _ _ _) ?_)
 simp only [zP, po]
 refine xL _ rfl (run_load1 v1na37 (hv.load 2 0 rfl rfl)) (xM (vS key) rfl ?_)
 replace hv := hv.front 3 rfl
 simp only [eS, eZ] at hv
 refine wpi_callI v1callable196 tV wideC rfl (wn rfl) rfl rfl (r := vP t) (fun w => by kernel_rfl) (args := #[vS key]) (by simp only [List.map_toArray, List.map_cons, List.map_nil]; rfl) ((txnGet B _ _ t m s p wb va vc sv clk es M key hM hv).mono ?_)
 rintro e w8 ⟨C, x, xp, xt, xz, ok, hBC, rfl, hget, hxv, hv⟩
 refine ⟨_, rfl, ?_⟩
 rcases hget with ⟨rfl, hlk, hal⟩ | ⟨rfl, hx0, hdead⟩
 ·simp only [zP, po]
  refine xM (.tuple #[.agg #[vI x.stamp, .bool x.gone, vI x.expire, vI x.val.kind, vS x.val.text, xp, xt, xz], .bool true]) rfl (xG (.agg #[vI x.stamp, .bool x.gone, vI x.expire, vI x.val.kind, vS x.val.text, xp, xt, xz]) rfl (ex_extract rfl rfl rfl) ?_)
  refine xG (.bool true) rfl (ex_extract rfl rfl rfl) ?_
  simp only [zP, po]
  refine sl_alloc tV (wn rfl) rfl hv v1al85 (fun b9 w10 hv => ?_)
  refine xS 0 rfl hv x0sz85 rfl (by exact ⟨rfl, rfl, rfl, rfl, rfl, hxv.p.one, hxv.t.one, hxv.z.one, trivial⟩) (fun w11 hv => ?_)
  simp only [zO, sp] at hv
  refine xA (.bool true) rfl ?_
  simp only [zP, po]
  refine wK k7 (sK fun _ k12 => ?_)
  refine sK fun _ k13 => rL (xM (.bool true) rfl ?_)
  refine xG (.bool false) rfl (ex_not rfl rfl rfl) ?_
  simp only [zP, po]
  refine wK k13 (cF rfl ?_)
  refine kS (tK k12 ?_)
  refine sK fun _ k14 => sK fun _ k15 => rL (xF (.pointer (some ⟨b9, 3, none⟩)) rfl (x2fa85_3 _ _ _) ?_)
  refine xF (.pointer (some ⟨b9, 3, none⟩)) rfl (s12fa78_0 _ _ _) (xL _ rfl (run_load1 s2na3 (hv.load 0 3 rfl rfl)) ?_)
  simp only [zP, po]
  refine xM (vI kind) rfl ?_
  by_cases hb16 : x.val.kind ≠ kind
  ·refine xG (.bool true) rfl (ex_neq rfl rfl rfl (qT hb16)) ?_
   simp only [zP, po]
   refine wK k15 (cT rfl ?_)
   refine sK fun _ k17 => rL (xG (.agg #[vI 0, .bool false, vI 0, vI 0, vS [], vN, vN, vN]) rfl (ex_buildN (vs := #[]) rfl (by simp only [List.map_toArray, List.map_nil]) (by kernel_rfl)) ?_)
   refine xS 3 rfl hv x0sz85 rfl (by exact ⟨rfl, rfl, rfl, rfl, rfl, rfl, rfl, rfl, trivial⟩) (fun w18 hv => ?_)
   simp only [zS, zO, sp] at hv
   refine xV 2 (vI 40) rfl hv v1sz54 rfl rfl (fun w19 hv => ?_)
   simp only [zS, zO, sp] at hv
   simp only [zP, po]
   refine wK k17 (rR ?_)
   refine tR (leave_rec v1callable85 (v1rec85 _ _ _ _) (res_cells2 rfl rfl (lM 3 x0wd85 hv rfl rfl rfl rfl) rfl (run_load1 v1na54 (hv.load 2 0 rfl rfl))) ?_)
   exact ⟨_, zver0, _, _, _, 40, hBC, rfl, zver0_at _, .inr (.inl ⟨rfl, rfl, x, hlk, hal, hb16⟩), (hv.kp [1, 4] 2 3)⟩
  refine xG (.bool false) rfl (ex_neq rfl rfl rfl (qF hb16)) ?_
  simp only [zP, po]
  refine wK k15 (cF rfl ?_)
  refine kS (tK k14 ?_)
  refine sK fun _ k20 => rL (xF (.pointer (some ⟨b9, 3, none⟩)) rfl (x2fa85_3 _ _ _) ?_)
  refine xL (.agg #[vI x.val.kind, vS x.val.text, xp, xt, xz]) rfl (lM 0 s1wd78 hv rfl rfl rfl rfl) (xC x2callable55 rfl ((valueClone _ _ _ x.val xp xt xz (hxv.more (Base.Le.refl _)) hv).mono ?_) rfl)
  rintro e w25 ⟨C21, p22, t23, z24, hC21, rfl, hp22, hv⟩
  refine ⟨_, rfl, ?_⟩
  simp only [zP, po]
  refine xF (.pointer (some ⟨b9, 3, none⟩)) rfl (x2fa85_3 _ _ _) (xS 0 rfl hv s1sz78 rfl (by exact ⟨rfl, rfl, hp22.p.one, hp22.t.one, hp22.z.one, trivial⟩) (fun w26 hv => ?_))
  simp only [zO, sp] at hv
  simp only [zP, po]
  refine wK k20 (sK fun _ k27 => ?_)
  refine rL (xL (.agg #[vI x.stamp, .bool x.gone, vI x.expire, vI x.val.kind, vS x.val.text, p22, t23, z24]) rfl (lM 0 x0wd85 hv rfl rfl rfl rfl) ?_)
  refine xS 3 rfl hv x0sz85 rfl (by exact ⟨rfl, rfl, rfl, rfl, rfl, hp22.p.one, hp22.t.one, hp22.z.one, trivial⟩) (fun w28 hv => ?_)
  simp only [zS, zO, sp] at hv
  refine xV 2 (vI 0) rfl hv v1sz54 rfl rfl (fun w29 hv => ?_)
  simp only [zS, zO, sp] at hv
  simp only [zP, po]
  refine wK k27 (rR ?_)
  refine leave_rec v1callable85 (v1rec85 _ _ _ _) (res_cells2 rfl rfl (lM 3 x0wd85 hv rfl rfl rfl rfl) rfl (run_load1 v1na54 (hv.load 2 0 rfl rfl))) (⟨_, x, _, _, _, 0, (hBC.trans hC21), rfl, hp22, .inr (.inr ⟨rfl, hlk, hal, by omega⟩), (hv.kp [1, 4] 2 3)⟩)
 simp only [zP, po]
 refine xM (.tuple #[.agg #[vI x.stamp, .bool x.gone, vI x.expire, vI x.val.kind, vS x.val.text, xp, xt, xz], .bool false]) rfl (xG (.agg #[vI x.stamp, .bool x.gone, vI x.expire, vI x.val.kind, vS x.val.text, xp, xt, xz]) rfl (ex_extract rfl rfl rfl) ?_)
 refine xG (.bool false) rfl (ex_extract rfl rfl rfl) ?_
 simp only [zP, po]
 refine sl_alloc tV (wn rfl) rfl hv v1al85 (fun b30 w31 hv => ?_)
 refine xS 0 rfl hv x0sz85 rfl (by exact ⟨rfl, rfl, rfl, rfl, rfl, hxv.p.one, hxv.t.one, hxv.z.one, trivial⟩) (fun w32 hv => ?_)
 simp only [zO, sp] at hv
 refine xA (.bool false) rfl ?_
 simp only [zP, po]
 refine wK k7 (sK fun _ k33 => ?_)
 refine sK fun _ k34 => rL (xM (.bool false) rfl ?_)
 refine xG (.bool true) rfl (ex_not rfl rfl rfl) ?_
 simp only [zP, po]
 refine wK k34 (cT rfl ?_)
 refine sK fun _ k35 => rL (xG (.agg #[vI 0, .bool false, vI 0, vI 0, vS [], vN, vN, vN]) rfl (ex_buildN (vs := #[]) rfl (by simp only [List.map_toArray, List.map_nil]) (by kernel_rfl)) ?_)
 refine xS 3 rfl hv x0sz85 rfl (by exact ⟨rfl, rfl, rfl, rfl, rfl, rfl, rfl, rfl, trivial⟩) (fun w36 hv => ?_)
 simp only [zS, zO, sp] at hv
 refine xV 2 (vI 0) rfl hv v1sz54 rfl rfl (fun w37 hv => ?_)
 simp only [zS, zO, sp] at hv
 simp only [zP, po]
 refine wK k35 (rR ?_)
 refine tR (leave_rec v1callable85 (v1rec85 _ _ _ _) (res_cells2 rfl rfl (lM 3 x0wd85 hv rfl rfl rfl rfl) rfl (run_load1 v1na54 (hv.load 2 0 rfl rfl))) ?_)
 exact ⟨_, zver0, _, _, _, 0, hBC, rfl, zver0_at _, .inl ⟨rfl, rfl, hdead⟩, (hv.kp [1, 4] 2 3)⟩
theorem v1callable198 : Callable Tryz.prog 198 := ⟨_, Tryz.func198, by kernel_rfl, by kernel_rfl⟩
theorem v1callable53 : Callable Tryz.prog 53 := ⟨_, Tryz.func53, by kernel_rfl, by kernel_rfl⟩
theorem v1rec53 (n : Nat) (x0 : Value) (w : World) : CallsDIn Fence.wide n Tryz.prog 53 #[x0] .returning w fun e u' w' => e = .returned (.tuple #[]) ∧ u' = .returning ∧ w' = w := by
 refine callsDIn_of_wpSIn Tryz.func53 rfl trivial fun c₀ cs hu => ?_
 apply wpSIn_seq
 apply wpSIn_region
 simp [wpOpsSIn, go_sem, recoverD, hu, Tryz.ntmps53, Exit.thenS]
 refine wpSIn_cond (t := false) (by simp [Act.eval, Array.replicate]) ?_
 simp only [Bool.false_eq_true, if_false]
 refine wpSIn_of_wpIn rfl (wpIn_skip ?_)
 cases c₀
 simp_all [bodyPostS, results, Tryz.results53]
theorem v1callable54 : Callable Tryz.prog 54 := ⟨_, Tryz.func54, by kernel_rfl, by kernel_rfl⟩
theorem v1mk9 : (Tryz.prog.info? 9).map (fun i => (i.zero, i.size, i.bytes)) = some (some (vS []), 1, 16) := by kernel_rfl
theorem v1el22 : Elem Tryz.prog 22 9 (vS []) 1 16 := elem_of Tryz.underlying22 v1mk9 (by rfl) (by decide)
theorem v1callable195 : Callable Tryz.prog 195 := ⟨_, Tryz.func195, by kernel_rfl, by kernel_rfl⟩
set_option maxHeartbeats 4000000 in
theorem viewKeep (B : Base) (H : List Res) (w : World) (v t m s p wb : Nat) (va : Option Addr) (vc : Nat) (sv : Value) (clk : Int) (es : List (List UInt8 × Value)) (M : List (List UInt8 × Ver)) (key : List UInt8) (x : Val) (xp xt xz : Value) (exp : Int) (hM : VM B es M) (hval : ValAt B x xp xt xz) (hv : Inv B (Res.cell v [.iface 62 (vP t)] 39 :: txR t m s p wb va vc sv clk es :: H) w) :
  Calls Tryz.prog 29 #[vP v, vS key, .agg #[vI x.kind, vS x.text, xp, xt, xz], vI exp] w fun e w' => ∃ C es' M' ec, B.Le C ∧ e = .returned (vI ec) ∧ VM C es' M' ∧ KeepI M clk key x exp ec M' ∧ Inv C (Res.cell v [.iface 62 (vP t)] 39 :: txR t m s p wb va vc sv clk es' :: H) w' := by
 refine (callsIn_wide (n := 5)).1 (callsIn_of_wp_defers Tryz.func29 rfl trivial ?_)
 simp only [Tryz.ntmps29, List.size_toArray, List.length_cons, List.length_nil, Nat.reduceAdd, Nat.reduceSub, Array.replicate_succ, Array.replicate_zero, List.push_toArray, List.append_toArray, List.nil_append, List.cons_append]
 refine sK fun _ k1 => rL (sl_box (L := [vI x.kind, vS x.text, xp, xt, xz]) tV (wn rfl) rfl rfl hv (fun w => by kernel_rfl) (fun b2 w3 hv => ?_))
 refine sl_alloc tV (wn rfl) rfl hv v1al54 (fun b4 w5 hv => ?_)
 simp only [zP, po]
 refine wK k1 (sK fun _ k6 => ?_)
 refine rL (xG (.func (.func 53) #[] #[vP b4]) rfl (ex_makeFunc (c' := #[vP b4]) rfl (by simp only [List.map_toArray, List.map_nil]) (by simp only [List.map_toArray, List.map_cons, List.map_nil]; rfl)) ?_)
 refine wpi_defer tV rfl (wn rfl) rfl rfl ?_
 simp only [zP, po]
 refine wK k6 (sK fun _ k7 => ?_)
 refine sK fun _ k8 => rL (xF (vP b2) rfl (s12fa78_0 _ _ _) ?_)
 refine xL _ rfl (run_load1 s2na3 (hv.load 1 0 rfl rfl)) ?_
 by_cases hb9 : x.kind = 1
 ·refine xG (.bool true) rfl (ex_eql rfl rfl rfl (qT hb9)) ?_
  simp only [zP, po]
  refine xM (.bool true) rfl ?_
  iterate 3 refine yN rfl ?_
  refine xK true (.bool true) rfl ?_
  simp only [zP, po]
  refine wK k8 (cT rfl ?_)
  refine sK fun _ k10 => rW mixed [6, 10, 11] [0,1,2,3,4,5,7,8,9,6,10,11] 48 rfl (by kernel_rfl) hv ?_
  simp only [qm, opAt]
  refine dM (vP v) rfl (dG (vP v) rfl (ex_nil rfl rfl) ?_)
  refine dG (vP v) rfl (ex_field rfl rfl (v1fa39_0 _ _ _)) ?_
  simp only [zP, po]
  refine dF _ rfl (fun hv => ex_load rfl rfl (run_load1 v1na37 (hv.load 2 0 rfl rfl))) fun f11 hf11 => dM (vS key) rfl (dL (.agg #[vI x.kind, vS x.text, xp, xt, xz]) rfl (fun hv => ex_load rfl rfl (lM 1 s1wd78 hv rfl rfl rfl rfl)) ?_)
  simp only [zP, po]
  refine dM (vI exp) rfl (dG (.iface 62 (vP t)) rfl (ex_nilI rfl rfl) ?_)
  refine dM (.iface 62 (vP t)) rfl ?_
  simp only [zP, po]
  refine dS rfl fun w12 hv => mC x2callable55 rfl ((valueClone _ _ _ x xp xt xz (hval.more (Base.Le.refl _)) hv).mono ?_) rfl
  rintro e w17 ⟨C13, p14, t15, z16, hC13, rfl, hp14, hv⟩
  refine ⟨_, rfl, dV hv (fC (fun ww hv => hf11 ww (ex_load rfl rfl (run_load1 v1na37 (hv.load 2 0 rfl rfl)))) fN) ?_⟩
  refine dS rfl fun w18 hv => ?_
  replace hv := hv.front 3 rfl
  simp only [eS, eZ] at hv
  refine stepMem_callI v1callable198 rfl rfl rfl (r := vP t) (fun w => by kernel_rfl) (args := #[vS key, .agg #[vI x.kind, vS x.text, p14, t15, z16], vI exp]) (by simp only [List.map_toArray, List.map_cons, List.map_nil]; rfl) ((txnPut C13 _ _ t m s p wb va vc sv clk es M key x p14 t15 z16 exp (hM.more hC13) hp14 hv).mono ?_)
  rintro e w19 ⟨D, es2, ec, hD, rfl, hput, hv⟩
  refine ⟨_, rfl, dV hv (fK rfl fN) ?_⟩
  refine dS rfl fun w20 hv => mV 1 (vI ec) rfl hv v1sz54 rfl rfl (fun w21 hv => ?_)
  simp only [zS, zO, sp] at hv
  refine dV hv (fK rfl fN) (dE fun w22 hv => ?_)
  simp only [zP, po]
  refine tK k10 (rR ?_)
  refine tR (leave_rec v1callable53 (v1rec53 _ _ _) (res_cell1 rfl rfl (run_load1 v1na54 (hv.load 1 0 rfl rfl))) ?_)
  have hfull : FullV x := .inl hb9
  rcases hput with ⟨rfl, hok, hM2⟩ | ⟨rfl, hok, he9⟩
  ·exact ⟨_, _, _, 0, (hC13.trans hD), rfl, hM2, .inl ⟨hfull, hok, rfl, rfl⟩, (hv.kp [3] 2 2)⟩
  rw [he9] at hv
  exact ⟨_, _, M, 2, (hC13.trans hD), rfl, hM.more (hC13.trans hD), .inr (.inl ⟨hfull, hok, rfl, rfl⟩), (hv.kp [3] 2 2)⟩
 refine xG (.bool false) rfl (ex_eql rfl rfl rfl (qF hb9)) ?_
 simp only [zP, po]
 refine xM (.bool false) rfl (xL (.agg #[vI x.kind, vS x.text, xp, xt, xz]) rfl (lM 1 s1wd78 hv rfl rfl rfl rfl) ?_)
 refine xC v1callable54 rfl ((valueSize B _ _ x xp xt xz hval hv).mono ?_) rfl
 rintro e w23 ⟨rfl, hv⟩
 refine ⟨_, rfl, ?_⟩
 simp only [zP, po]
 by_cases hb24 : (sizeV x : Int) > 0
 ·refine xG (.bool true) rfl (ex_gtr rfl rfl rfl (qT hb24)) (xK false (.bool true) rfl ?_)
  simp only [zP, po]
  refine wK k8 (cT rfl ?_)
  refine sK fun _ k25 => rW mixed [6, 10, 11] [0,1,2,3,4,5,7,8,9,6,10,11] 48 rfl (by kernel_rfl) hv ?_
  simp only [qm, opAt]
  refine dM (vP v) rfl (dG (vP v) rfl (ex_nil rfl rfl) ?_)
  refine dG (vP v) rfl (ex_field rfl rfl (v1fa39_0 _ _ _)) ?_
  simp only [zP, po]
  refine dF _ rfl (fun hv => ex_load rfl rfl (run_load1 v1na37 (hv.load 2 0 rfl rfl))) fun f26 hf26 => dM (vS key) rfl (dL (.agg #[vI x.kind, vS x.text, xp, xt, xz]) rfl (fun hv => ex_load rfl rfl (lM 1 s1wd78 hv rfl rfl rfl rfl)) ?_)
  simp only [zP, po]
  refine dM (vI exp) rfl (dG (.iface 62 (vP t)) rfl (ex_nilI rfl rfl) ?_)
  refine dM (.iface 62 (vP t)) rfl ?_
  simp only [zP, po]
  refine dS rfl fun w27 hv => mC x2callable55 rfl ((valueClone _ _ _ x xp xt xz (hval.more (Base.Le.refl _)) hv).mono ?_) rfl
  rintro e w32 ⟨C28, p29, t30, z31, hC28, rfl, hp29, hv⟩
  refine ⟨_, rfl, dV hv (fC (fun ww hv => hf26 ww (ex_load rfl rfl (run_load1 v1na37 (hv.load 2 0 rfl rfl)))) fN) ?_⟩
  refine dS rfl fun w33 hv => ?_
  replace hv := hv.front 3 rfl
  simp only [eS, eZ] at hv
  refine stepMem_callI v1callable198 rfl rfl rfl (r := vP t) (fun w => by kernel_rfl) (args := #[vS key, .agg #[vI x.kind, vS x.text, p29, t30, z31], vI exp]) (by simp only [List.map_toArray, List.map_cons, List.map_nil]; rfl) ((txnPut C28 _ _ t m s p wb va vc sv clk es M key x p29 t30 z31 exp (hM.more hC28) hp29 hv).mono ?_)
  rintro e w34 ⟨D, es2, ec, hD, rfl, hput, hv⟩
  refine ⟨_, rfl, dV hv (fK rfl fN) ?_⟩
  refine dS rfl fun w35 hv => mV 1 (vI ec) rfl hv v1sz54 rfl rfl (fun w36 hv => ?_)
  simp only [zS, zO, sp] at hv
  refine dV hv (fK rfl fN) (dE fun w37 hv => ?_)
  simp only [zP, po]
  refine tK k25 (rR ?_)
  refine tR (leave_rec v1callable53 (v1rec53 _ _ _) (res_cell1 rfl rfl (run_load1 v1na54 (hv.load 1 0 rfl rfl))) ?_)
  have hfull : FullV x := .inr (by have h9 := hb24; unfold sizeV at h9; rw [if_neg hb9] at h9; omega)
  rcases hput with ⟨rfl, hok, hM2⟩ | ⟨rfl, hok, he9⟩
  ·exact ⟨_, _, _, 0, (hC28.trans hD), rfl, hM2, .inl ⟨hfull, hok, rfl, rfl⟩, (hv.kp [3] 2 2)⟩
  rw [he9] at hv
  exact ⟨_, _, M, 2, (hC28.trans hD), rfl, hM.more (hC28.trans hD), .inr (.inl ⟨hfull, hok, rfl, rfl⟩), (hv.kp [3] 2 2)⟩
 refine xG (.bool false) rfl (ex_gtr rfl rfl rfl (qF hb24)) (xK false (.bool false) rfl ?_)
 simp only [zP, po]
 refine wK k8 (cF rfl ?_)
 refine kS (tK k7 ?_)
 refine sK fun _ k38 => sK fun _ k39 => rL (xM (vP v) rfl ?_)
 refine xG (vP v) rfl (ex_nil rfl rfl) (xF (vP v) rfl (v1fa39_0 _ _ _) ?_)
 simp only [zP, po]
 refine xL _ rfl (run_load1 v1na37 (hv.load 2 0 rfl rfl)) (xM (vS key) rfl ?_)
 replace hv := hv.front 3 rfl
 simp only [eS, eZ] at hv
 refine wpi_callI v1callable196 tV wideC rfl (wn rfl) rfl rfl (r := vP t) (fun w => by kernel_rfl) (args := #[vS key]) (by simp only [List.map_toArray, List.map_cons, List.map_nil]; rfl) ((txnGet B _ _ t m s p wb va vc sv clk es M key hM hv).mono ?_)
 rintro e w40 ⟨C, x2, yp, yt, yz, ok, hBC, rfl, hget, hyv, hv⟩
 refine ⟨_, rfl, ?_⟩
 rcases hget with ⟨rfl, hlk, hal⟩ | ⟨rfl, hx0, hdead⟩
 ·simp only [zP, po]
  refine xM (.tuple #[.agg #[vI x2.stamp, .bool x2.gone, vI x2.expire, vI x2.val.kind, vS x2.val.text, yp, yt, yz], .bool true]) rfl (xG (.agg #[vI x2.stamp, .bool x2.gone, vI x2.expire, vI x2.val.kind, vS x2.val.text, yp, yt, yz]) rfl (ex_extract rfl rfl rfl) ?_)
  refine xG (.bool true) rfl (ex_extract rfl rfl rfl) ?_
  simp only [zP, po]
  refine sl_alloc tV (wn rfl) rfl hv v1al85 (fun b41 w42 hv => ?_)
  refine xS 0 rfl hv x0sz85 rfl (by exact ⟨rfl, rfl, rfl, rfl, rfl, hyv.p.one, hyv.t.one, hyv.z.one, trivial⟩) (fun w43 hv => ?_)
  simp only [zO, sp] at hv
  refine xA (.bool true) rfl ?_
  simp only [zP, po]
  refine wK k39 (sK fun _ k44 => ?_)
  refine rL (xM (.bool true) rfl ?_)
  simp only [zP, po]
  refine wK k44 (cT rfl ?_)
  refine sK fun _ k45 => rL (xM (vP v) rfl ?_)
  refine xG (vP v) rfl (ex_nil rfl rfl) (xF (vP v) rfl (v1fa39_0 _ _ _) ?_)
  simp only [zP, po]
  refine xL _ rfl (run_load1 v1na37 (hv.load 4 0 rfl rfl)) (xM (vS key) rfl ?_)
  refine sl_rowOne (v := vS key) tV (wn rfl) rfl rfl hv v1el22 rfl (fun b46 w47 hv => ?_)
  simp only [zP, po]
  obtain ⟨D, hD, hv, hrk, -, -⟩ := (hv.cellRow (n := 1) (c := 1) (size := 1) rfl (by decide) (by decide)).rowBy
  replace hv := hv.front 1 rfl
  simp only [eS, eZ] at hv
  refine wpi_callI v1callable195 tV wideC rfl (wn rfl) rfl rfl (r := vP t) (fun w => by kernel_rfl) (args := #[.slice (some ⟨b46, 0, none⟩) 1 1]) (by simp only [List.map_toArray, List.map_cons, List.map_nil]; rfl) ((txnDel D _ _ t m s p wb va vc sv clk es M _ 1 [key] hrk (by simp) (hM.more (hBC.trans hD)) hv).mono ?_)
  rintro e w48 ⟨es2, ec, rfl, hdel, hv⟩
  refine ⟨_, rfl, ?_⟩
  refine xV 2 (vI ec) rfl hv v1sz54 rfl rfl (fun w49 hv => ?_)
  simp only [zS, zO, sp] at hv
  simp only [zP, po]
  refine wK k45 (rR ?_)
  refine tR (leave_rec v1callable53 (v1rec53 _ _ _) (res_cell1 rfl rfl (run_load1 v1na54 (hv.load 2 0 rfl rfl))) ?_)
  have hnf : ¬ FullV x := fun h => h.elim hb9 (fun h => by have h9 := hb24; unfold sizeV at h9; rw [if_neg hb9] at h9; omega)
  rcases hdel with ⟨rfl, hk, hM2⟩ | ⟨rfl, hk, he9⟩
  ·exact ⟨_, _, updA M key gver, 0, (hBC.trans hD), rfl, hM2, .inr (.inr (.inr ⟨hnf, ⟨x2, hlk, hal⟩, .inl ⟨by simpa using hk, rfl, rfl⟩⟩)), (hv.kp [4] 2 3)⟩
  rw [he9] at hv
  exact ⟨_, _, M, 2, (hBC.trans hD), rfl, hM.more (hBC.trans hD), .inr (.inr (.inr ⟨hnf, ⟨x2, hlk, hal⟩, .inr ⟨by simpa using hk, rfl, rfl⟩⟩)), (hv.kp [4] 2 3)⟩
 simp only [zP, po]
 refine xM (.tuple #[.agg #[vI x2.stamp, .bool x2.gone, vI x2.expire, vI x2.val.kind, vS x2.val.text, yp, yt, yz], .bool false]) rfl (xG (.agg #[vI x2.stamp, .bool x2.gone, vI x2.expire, vI x2.val.kind, vS x2.val.text, yp, yt, yz]) rfl (ex_extract rfl rfl rfl) ?_)
 refine xG (.bool false) rfl (ex_extract rfl rfl rfl) ?_
 simp only [zP, po]
 refine sl_alloc tV (wn rfl) rfl hv v1al85 (fun b50 w51 hv => ?_)
 refine xS 0 rfl hv x0sz85 rfl (by exact ⟨rfl, rfl, rfl, rfl, rfl, hyv.p.one, hyv.t.one, hyv.z.one, trivial⟩) (fun w52 hv => ?_)
 simp only [zO, sp] at hv
 refine xA (.bool false) rfl ?_
 simp only [zP, po]
 refine wK k39 (sK fun _ k53 => ?_)
 refine rL (xM (.bool false) rfl ?_)
 simp only [zP, po]
 refine wK k53 (cF rfl ?_)
 refine kS (tK k38 ?_)
 refine sK fun _ k54 => rL (xV 2 (vI 0) rfl hv v1sz54 rfl rfl (fun w55 hv => ?_))
 simp only [zS, zO, sp] at hv
 simp only [zP, po]
 refine wK k54 (rR ?_)
 refine leave_rec v1callable53 (v1rec53 _ _ _) (res_cell1 rfl rfl (run_load1 v1na54 (hv.load 2 0 rfl rfl))) ?_
 have hnf : ¬ FullV x := fun h => h.elim hb9 (fun h => by have h9 := hb24; unfold sizeV at h9; rw [if_neg hb9] at h9; omega)
 exact ⟨_, _, M, 0, hBC, rfl, hM.more hBC, .inr (.inr (.inl ⟨hnf, hdead, rfl, rfl⟩)), (hv.kp [1, 4] 2 3)⟩
end Go.Proofs.YtoljdfjnannakaaGreatDoor
/-
  DERIVED: THE SHELF's CONTRACTS AT THIS DUMP, IN PLAIN WORDS (tools/lay-plain.mjs out of 'YtoljdfjnannakaaGreatDoorShVSoft.lean', which tools/lay-shelf.mjs wrote): THE SAME DECLARATIONS UNDER THE SAME NAMES: 'import', 'namespace', 'open', 'def', 'theorem' AND NOTHING ELSE: no command of the shelf's: FOR A HAND-IN. Each laying: the table of numbers ('.._ren') and one theorem, a field a fact of the dump's own or the kernel's comparison; each contract: ONE APPLICATION.
-/
namespace Go.Proofs
open Go.Shelf
def Tryz.laysKeys_ren : Go.Shelf.Ren := ⟨fun | 7 => 201 | 10 => 206 | n => n, fun | 23 => 131 | 26 => 9 | 3 => 85 | 28 => 291 | 0 => 0 | 27 => 290 | 33 => 158 | 4 => 4 | n => n, fun | n => n⟩
theorem Tryz.laysKeys : Go.Proofs.SlLaysZ.n7 Tryz.prog Tryz.laysKeys_ren := {
 mixed := by kernel_rfl
 f7 := ⟨Tryz.f201.name, by decide, Tryz.func201.trans (congrArg some (by kernel_rfl))⟩
 f10 := ⟨Tryz.f206.name, by decide, Tryz.func206.trans (congrArg some (by kernel_rfl))⟩
 t0 := Tryz.underlying0
 a0 := Tryz.isAgg0
 z0 := Tryz.sizeOf0
 v0 := Tryz.zeroValue0
 t4 := Tryz.underlying4
 a4 := Tryz.isAgg4
 z4 := Tryz.sizeOf4
 v4 := Tryz.zeroValue4
 t23 := Tryz.underlying131
 a23 := Tryz.isAgg131
 z23 := Tryz.sizeOf131
 v23 := Tryz.zeroValue131
 t26 := Tryz.underlying9
 a26 := Tryz.isAgg9
 z26 := Tryz.sizeOf9
 v26 := Tryz.zeroValue9
 t27 := Tryz.underlying290
 a27 := Tryz.isAgg290
 z27 := Tryz.sizeOf290
 v27 := Tryz.zeroValue290
 t28 := Tryz.underlying291
 a28 := Tryz.isAgg291
 z28 := Tryz.sizeOf291
 v28 := Tryz.zeroValue291
 t33 := Tryz.underlying158
 a33 := Tryz.isAgg158
 z33 := Tryz.sizeOf158
 v33 := Tryz.zeroValue158 }
def Tryz.laysKeys1_ren : Go.Shelf.Ren := ⟨fun | 10 => 206 | n => n, fun | 33 => 158 | 23 => 131 | 0 => 0 | 4 => 4 | 26 => 9 | 3 => 85 | n => n, fun | n => n⟩
theorem Tryz.laysKeys1 : Go.Proofs.SlLaysZ.n10 Tryz.prog Tryz.laysKeys1_ren := {
 mixed := by kernel_rfl
 f10 := ⟨Tryz.f206.name, by decide, Tryz.func206.trans (congrArg some (by kernel_rfl))⟩
 t0 := Tryz.underlying0
 a0 := Tryz.isAgg0
 z0 := Tryz.sizeOf0
 v0 := Tryz.zeroValue0
 t4 := Tryz.underlying4
 a4 := Tryz.isAgg4
 z4 := Tryz.sizeOf4
 v4 := Tryz.zeroValue4
 t23 := Tryz.underlying131
 a23 := Tryz.isAgg131
 z23 := Tryz.sizeOf131
 v23 := Tryz.zeroValue131
 t26 := Tryz.underlying9
 a26 := Tryz.isAgg9
 z26 := Tryz.sizeOf9
 v26 := Tryz.zeroValue9
 t33 := Tryz.underlying158
 a33 := Tryz.isAgg158
 z33 := Tryz.sizeOf158
 v33 := Tryz.zeroValue158 }
def Tryz.laysApp_ren : Go.Shelf.Ren := ⟨fun | 11 => 200 | n => n, fun | 24 => 22 | 26 => 9 | 28 => 291 | 0 => 0 | 33 => 158 | 4 => 4 | n => n, fun | n => n⟩
theorem Tryz.laysApp : Go.Proofs.SlLaysZ.n11 Tryz.prog Tryz.laysApp_ren := {
 mixed := by kernel_rfl
 f11 := ⟨Tryz.f200.name, by decide, Tryz.func200.trans (congrArg some (by kernel_rfl))⟩
 t0 := Tryz.underlying0
 a0 := Tryz.isAgg0
 z0 := Tryz.sizeOf0
 v0 := Tryz.zeroValue0
 t24 := Tryz.underlying22
 a24 := Tryz.isAgg22
 z24 := Tryz.sizeOf22
 v24 := Tryz.zeroValue22
 t26 := Tryz.underlying9
 a26 := Tryz.isAgg9
 z26 := Tryz.sizeOf9
 v26 := Tryz.zeroValue9
 t28 := Tryz.underlying291
 a28 := Tryz.isAgg291
 z28 := Tryz.sizeOf291
 v28 := Tryz.zeroValue291
 i26 := by kernel_rfl }
def Tryz.laysSort_ren : Go.Shelf.Ren := ⟨fun | 190 => 101 | 125 => 112 | 258 => 111 | 128 => 131 | 129 => 132 | 302 => 123 | 303 => 124 | 304 => 125 | 305 => 126 | 306 => 127 | 307 => 128 | 308 => 103 | 309 => 129 | 310 => 130 | 333 => 146 | 329 => 147 | 330 => 148 | 334 => 149 | 335 => 150 | 336 => 113 | 344 => 158 | n => n, fun | 31 => 22 | 9 => 9 | 3 => 3 | 46 => 186 | 0 => 0 | 51 => 224 | 53 => 195 | 4 => 4 | 183 => 218 | 182 => 217 | 131 => 166 | 5 => 5 | 218 => 239 | 222 => 243 | 228 => 249 | 229 => 250 | n => n, fun | n => n⟩
theorem Tryz.laysSort : Go.Proofs.Lays.n190 Tryz.prog Tryz.laysSort_ren := {
 mixed := by kernel_rfl
 f125 := Tryz.func112.trans (congrArg some (by kernel_rfl))
 f128 := Tryz.func131.trans (congrArg some (by kernel_rfl))
 f129 := Tryz.func132.trans (congrArg some (by kernel_rfl))
 f190 := Tryz.func101.trans (congrArg some (by kernel_rfl))
 f258 := Tryz.func111.trans (congrArg some (by kernel_rfl))
 f302 := Tryz.func123.trans (congrArg some (by kernel_rfl))
 f303 := Tryz.func124.trans (congrArg some (by kernel_rfl))
 f304 := Tryz.func125.trans (congrArg some (by kernel_rfl))
 f305 := Tryz.func126.trans (congrArg some (by kernel_rfl))
 f306 := Tryz.func127.trans (congrArg some (by kernel_rfl))
 f307 := Tryz.func128.trans (congrArg some (by kernel_rfl))
 f308 := Tryz.func103.trans (congrArg some (by kernel_rfl))
 f309 := Tryz.func129.trans (congrArg some (by kernel_rfl))
 f310 := Tryz.func130.trans (congrArg some (by kernel_rfl))
 f329 := Tryz.func147.trans (congrArg some (by kernel_rfl))
 f330 := Tryz.func148.trans (congrArg some (by kernel_rfl))
 f333 := Tryz.func146.trans (congrArg some (by kernel_rfl))
 f334 := Tryz.func149.trans (congrArg some (by kernel_rfl))
 f335 := Tryz.func150.trans (congrArg some (by kernel_rfl))
 f336 := Tryz.func113.trans (congrArg some (by kernel_rfl))
 f344 := Tryz.func158.trans (congrArg some (by kernel_rfl))
 t0 := Tryz.underlying0
 a0 := Tryz.isAgg0
 z0 := Tryz.sizeOf0
 v0 := Tryz.zeroValue0
 t3 := Tryz.underlying3
 a3 := Tryz.isAgg3
 z3 := Tryz.sizeOf3
 v3 := Tryz.zeroValue3
 t4 := Tryz.underlying4
 a4 := Tryz.isAgg4
 z4 := Tryz.sizeOf4
 v4 := Tryz.zeroValue4
 t5 := Tryz.underlying5
 a5 := Tryz.isAgg5
 z5 := Tryz.sizeOf5
 v5 := Tryz.zeroValue5
 t9 := Tryz.underlying9
 a9 := Tryz.isAgg9
 z9 := Tryz.sizeOf9
 v9 := Tryz.zeroValue9
 t31 := Tryz.underlying22
 a31 := Tryz.isAgg22
 z31 := Tryz.sizeOf22
 v31 := Tryz.zeroValue22
 t46 := Tryz.underlying186
 a46 := Tryz.isAgg186
 z46 := Tryz.sizeOf186
 v46 := Tryz.zeroValue186
 t51 := Tryz.underlying224
 a51 := Tryz.isAgg224
 z51 := Tryz.sizeOf224
 v51 := Tryz.zeroValue224
 t53 := Tryz.underlying195
 a53 := Tryz.isAgg195
 z53 := Tryz.sizeOf195
 v53 := Tryz.zeroValue195
 t131 := Tryz.underlying166
 a131 := Tryz.isAgg166
 z131 := Tryz.sizeOf166
 v131 := Tryz.zeroValue166
 t182 := Tryz.underlying217
 a182 := Tryz.isAgg217
 z182 := Tryz.sizeOf217
 v182 := Tryz.zeroValue217
 t183 := Tryz.underlying218
 a183 := Tryz.isAgg218
 z183 := Tryz.sizeOf218
 v183 := Tryz.zeroValue218
 t218 := Tryz.underlying239
 a218 := Tryz.isAgg239
 z218 := Tryz.sizeOf239
 v218 := Tryz.zeroValue239
 t222 := Tryz.underlying243
 a222 := Tryz.isAgg243
 z222 := Tryz.sizeOf243
 v222 := Tryz.zeroValue243
 t228 := Tryz.underlying249
 a228 := Tryz.isAgg249
 z228 := Tryz.sizeOf249
 v228 := Tryz.zeroValue249
 t229 := Tryz.underlying250
 a229 := Tryz.isAgg250
 z229 := Tryz.sizeOf250
 v229 := Tryz.zeroValue250 }
def Tryz.laysCompact_ren : Go.Shelf.Ren := ⟨fun | 194 => 102 | n => n, fun | 31 => 22 | 9 => 9 | 3 => 3 | 4 => 4 | 0 => 0 | n => n, fun | n => n⟩
theorem Tryz.laysCompact : Go.Proofs.Lays.n194 Tryz.prog Tryz.laysCompact_ren := {
 mixed := by kernel_rfl
 f194 := Tryz.func102.trans (congrArg some (by kernel_rfl))
 t0 := Tryz.underlying0
 a0 := Tryz.isAgg0
 z0 := Tryz.sizeOf0
 v0 := Tryz.zeroValue0
 t3 := Tryz.underlying3
 a3 := Tryz.isAgg3
 z3 := Tryz.sizeOf3
 v3 := Tryz.zeroValue3
 t4 := Tryz.underlying4
 a4 := Tryz.isAgg4
 z4 := Tryz.sizeOf4
 v4 := Tryz.zeroValue4
 t9 := Tryz.underlying9
 a9 := Tryz.isAgg9
 z9 := Tryz.sizeOf9
 v9 := Tryz.zeroValue9
 t31 := Tryz.underlying22
 a31 := Tryz.isAgg22
 z31 := Tryz.sizeOf22
 v31 := Tryz.zeroValue22 }
end Go.Proofs
/- Keys of a map, collected and sorted: the shelf's contracts over what is one's own. -/
namespace Go.Proofs.YtoljdfjnannakaaGreatDoor
open Go.RowKit Go.Pm Go.Sort Go.Shelf
abbrev keyT : TypeId := 9
theorem mapKeys (B : Base) (H : List Res) (w : World) (mb : Option Nat) (hv : Pm.Inv B H w) : Calls Tryz.prog 201 #[.map mb] w fun e w' => ∃ b, e = .returned (.func (.func 206) #[] #[.pointer (some ⟨b, 0, none⟩)]) ∧ Pm.Inv B (Res.cell b [.map mb] 131 :: H) w' := by
 have h := AnyZ.keys_in Tryz.laysKeys Fence.wide 5 trivial rfl mb w
 refine (callsIn_wide (n := 5)).1 (h.mono ?_)
 rintro e w' ⟨rfl, rfl⟩
 exact ⟨_, rfl, hv.alloc _ _⟩
abbrev RN (_ : Value) : Option (DataW Unit × List MemPlace) := some (.nil, [])
theorem rd_key (k : List UInt8) (hk : k.length ≤ maxLen) (v : Value) (n : Nat) : WideElems.rd Tryz.prog keyT RN { key := strV k, val := v, born := n } = some (.string k, .nil) := by
 have h : keyOf Tryz.prog keyT (strV k) = some (.string k) := by
  have h1 := WideMaps.keyOf_string_mk (P := Tryz.prog) (k := keyT) Tryz.underlying9 (s := ⟨k.toArray⟩) (by show k.toArray.size ≤ maxLen; simpa using hk)
  simpa using h1
 simp [WideElems.rd, h, RN]
theorem vmap_owns {w : World} {b : Nat} {es : List (List UInt8 × Value)} (h : (Res.vmap b es).holds w) (hk : ∀ x ∈ es, x.1.length ≤ maxLen) (hm : es.length ≤ maxLen) :
  ∃ D : DataW Unit, w.ownsMap Tryz.prog keyT RN b es.length D ∧ (strKeys D).Perm (es.map (·.1)) := by
 obtain ⟨E, clock, h1, h2, h3⟩ := h
 have hl : E.size = es.length := by have := congrArg List.length h3; simpa using this
 have hrd : ∀ x ∈ E.toList, ∃ k, (∃ v, (k, v) ∈ es) ∧ x.key = strV k ∧ WideElems.rd Tryz.prog keyT RN x = some (.string k, .nil) := by
  intro x hx
  obtain ⟨j, hj⟩ := List.mem_iff_getElem?.1 hx
  have h9 := congrArg (fun l => l[j]?) h3
  simp only [List.getElem?_map, hj, Option.map_some] at h9
  cases hx2 : es[j]? with
  | none => rw [hx2] at h9; simp at h9
  | some y =>
   rw [hx2] at h9
   simp only [Option.map_some, kv, Option.some.injEq, Prod.mk.injEq] at h9
   have hy := List.mem_of_getElem? hx2
   obtain ⟨xk, xv, xb⟩ := x
   simp only at h9
   obtain ⟨rfl, rfl⟩ := h9
   exact ⟨y.1, ⟨y.2, hy⟩, rfl, rd_key y.1 (hk y hy) _ _⟩
 refine ⟨_, ⟨E, clock, h1, ⟨by omega, h2, fun x hx => by obtain ⟨k, -, -, h⟩ := hrd x hx; exact ⟨_, h⟩⟩, by omega, rfl⟩, ?_⟩
 have hp : (strKeys (DataW.map ((E.toList.map (WideElems.rg Tryz.prog keyT RN)).foldr DataW.insert []))).Perm ((E.toList.map (WideElems.rg Tryz.prog keyT RN)).map fun p => strOf p.1) := (WideShapes.sorted_perm _).map _
 refine hp.trans (List.Perm.of_eq ?_)
 rw [List.map_map]
 have h4 : E.toList.map (fun e => e.key) = es.map (fun x => strV x.1) := by
  have := congrArg (List.map Prod.fst) h3
  simpa [List.map_map, Function.comp_def, kv] using this
 have h5 : ∀ x ∈ E.toList, strV (((fun p : Lit × DataW Unit => strOf p.1) ∘ WideElems.rg Tryz.prog keyT RN) x) = x.key := by
  intro x hx
  obtain ⟨k, -, hk1, h⟩ := hrd x hx
  simp [Function.comp, WideElems.rg, h, hk1, strOf]
 have h6 : (E.toList.map ((fun p : Lit × DataW Unit => strOf p.1) ∘ WideElems.rg Tryz.prog keyT RN)).map strV = (es.map (·.1)).map strV := by
  rw [List.map_map, List.map_map]
  have : E.toList.map (strV ∘ ((fun p : Lit × DataW Unit => strOf p.1) ∘ WideElems.rg Tryz.prog keyT RN)) = E.toList.map (fun e => e.key) := List.map_congr_left fun x hx => h5 x hx
  rw [this, h4]; rfl
 exact (List.map_inj_right (fun a b e => strV_inj e)).1 h6
theorem row_new {B : Base} {H : List Res} {w w' : World} {e : TypeId} {size n : Nat} {v : Value} {xs : List Value} (hv : Pm.Inv B H w) (h : w'.ownsRow w.heap.size e size v n xs) (hb : Below w.heap.size w w') : Pm.Inv B (Res.row e size v n xs :: H) w' := by
 have h0 : w'.ownsRow 0 e size v n xs := ⟨h.1, h.2.imp id fun ⟨g, cap, cur, h1, _, h3⟩ => ⟨g, cap, cur, h1, Nat.zero_le _, h3⟩⟩
 refine hv.new hb (Res.row e size v n xs) h0 (fun b hb9 => ?_) ?_
 ·rcases h.2 with ⟨rfl, -⟩ | ⟨g, cap, cur, rfl, h2, h3, -⟩
  ·simp [Value.ownBlock] at hb9
  simp [Value.ownBlock] at hb9
  subst hb9
  exact ⟨h2, (Array.getElem?_eq_some_iff.1 h3).1⟩
 show v.ownBlock.toList.Nodup
 cases v.ownBlock with
 | none => exact List.Pairwise.nil
 | some b => simp
theorem appendKeys (B : Base) (H : List Res) (w : World) (b wb : Nat) (es : List (List UInt8 × Value)) (hk : ∀ x ∈ es, x.1.length ≤ maxLen) (hm : es.length ≤ 1000000) (hv : Pm.Inv B (Res.cell b [.map (some wb)] 131 :: Res.vmap wb es :: H) w) :
  Calls Tryz.prog 200 #[.slice none 0 0, .func (.func 206) #[] #[.pointer (some ⟨b, 0, none⟩)]] w fun e w' => ∃ v ss, e = .returned v ∧ ss.Perm (es.map (·.1)) ∧ Pm.Inv B (Res.row keyT 1 v ss.length (textCells ss) :: Res.cell b [.map (some wb)] 131 :: Res.vmap wb es :: H) w' := by
 obtain ⟨D, hown, hperm⟩ := vmap_owns (hv.get 1 rfl) hk (by unfold maxLen; omega)
 have hsz := hown.size_le
 have hg := AnyZ.keys_gives Tryz.laysKeys1 Fence.wide 4 trivial rfl (by omega) b wb es.length D w (hv.lt _ (List.mem_cons_self) b (by simp)) (hv.load 0 0 rfl rfl) hown
 have he : ∀ args w, (callFunc 206 args).run Tryz.prog w = .ok (.enter 206 args) w := Tryz.laysKeys1.f10.enters rfl
 have h := AnyZ.appendSeq_in Tryz.laysApp Fence.wide 5 trivial rfl (by omega) 206 #[.pointer (some ⟨b, 0, none⟩)] trivial he _ (Maps.size D) (by unfold maxLen; omega) (by omega) w hg
 refine (callsIn_wide (n := 5)).1 (h.mono ?_)
 rintro e w' ⟨v, ss, rfl, hS, hrow, -, hb⟩
 exact ⟨v, ss, rfl, hS.trans hperm, row_new hv hrow hb⟩
theorem sortTexts (B : Base) (H : List Res) (w : World) (v : Value) (l : List (List UInt8)) (hm : l.length ≤ 1000000) (hv : Pm.Inv B (Res.row keyT 1 v l.length (textCells l) :: H) w) :
  Calls Tryz.prog 101 #[v] w fun e w' => e = .returned (.tuple #[]) ∧ Pm.Inv B (Res.row keyT 1 v l.length (textCells (l.mergeSort leB)) :: H) w' := by
 rcases (hv.head : w.ownsRow 0 keyT 1 v l.length (textCells l)).2 with ⟨rfl, hz⟩ | ⟨g, cap, cur, rfl, h0, hgb, r1, r2, r3, r4⟩
 ·have hl : l = [] := List.eq_nil_of_length_eq_zero hz
  subst hl
  refine (Any.slices_Sort_string_none Tryz.laysSort none 0 w).mono ?_
  rintro e w' ⟨rfl, rfl⟩
  exact ⟨rfl, by simpa using hv⟩
 have hH : Holds encStr w g 0 l.toArray := holds_of_block hgb (by rw [Nat.mul_one] at r4; exact r4)
 refine (Any.slices_Sort_string Tryz.laysSort g 0 cap l w hH (Array.getElem?_eq_some_iff.1 hgb).1 (by omega)).mono ?_
 rintro e w' ⟨rfl, n, os, rfl⟩
 have hgr := grownBy_sorted (w := w) (g := g) (n := n) (os := os) (l.mergeSort leB).toArray
 have hr := ownsRow_sorted (n := n) (os := os) (ss := l) (ts := l.mergeSort leB) (by simp) h0 hgb r1 r2 r3
 refine ⟨rfl, hv.upd _ ⟨hgr.os, hgr.tape, hgr.output, hgr.size, fun k hk hn => hgr.block k hk (fun e => hn (by cases e; simp [Value.ownBlock]))⟩ hr (fun b hb => .inl hb) (fun b hb => Nat.lt_of_lt_of_le (hv.headLt b hb) hgr.size) (by simp [Value.ownBlock])⟩
end Go.Proofs.YtoljdfjnannakaaGreatDoor
/- The index's model, a key taken out; a model is what its keys have. -/
namespace Go.Pm
open Go.RowKit
section
variable {B : Base} {X X' : List (List Ent)} {M : Model} {key : List UInt8} {i j : Nat}
end
section
variable {ti tb te : TypeId} {p : Nat} {n : Int} {X : List (List Ent)} {bvs : List Value} {B : Base} {H : List Res} {w : World}
end
theorem sorted_ext : ∀ {l1 l2 : List (List UInt8)}, l1.Pairwise (fun a b => Op.bytesLess a b = true) → l2.Pairwise (fun a b => Op.bytesLess a b = true) → (∀ k, k ∈ l1 ↔ k ∈ l2) → l1 = l2
 | [], [], _, _, _ => rfl
 | [], b :: l2, _, _, h => by have := (h b).2 List.mem_cons_self; cases this
 | a :: l1, [], _, _, h => by have := (h a).1 List.mem_cons_self; cases this
 | a :: l1, b :: l2, h1, h2, h => by
  obtain ⟨h1a, h1b⟩ := List.pairwise_cons.1 h1
  obtain ⟨h2a, h2b⟩ := List.pairwise_cons.1 h2
  have e : a = b := by
   rcases List.mem_cons.1 ((h a).1 List.mem_cons_self) with h3 | h3
   ·exact h3
   rcases List.mem_cons.1 ((h b).2 List.mem_cons_self) with h4 | h4
   ·exact h4.symm
   have h5 := h2a a h3
   rw [lt_asymm (h1a b h4)] at h5
   cases h5
  subst e
  rw [sorted_ext h1b h2b (fun k => ?_)]
  constructor
  ·intro hk
   rcases List.mem_cons.1 ((h k).1 (List.mem_cons_of_mem _ hk)) with h3 | h3
   ·exact absurd h3.symm (lt_ne (h1a k hk))
   exact h3
  intro hk
  rcases List.mem_cons.1 ((h k).2 (List.mem_cons_of_mem _ hk)) with h3 | h3
  ·exact absurd h3.symm (lt_ne (h2a k hk))
  exact h3
def SortedT (l : List (List UInt8)) : Prop := l.Pairwise (fun a b => Op.bytesLess a b = true)
end Go.Pm
/- Sets of texts, sorted: joined, cut, counted; plain law. -/
namespace Go.Pm
open Go.RowKit Go.Sort
theorem leB_lt (a b : List UInt8) : leB a b = !Op.bytesLess b a := by
 rw [Go.Proofs.bytesLess_eq, leB, ← decide_not]
 exact decide_eq_decide.2 List.not_lt.symm
theorem lt_of_le_ne {a b : List UInt8} (h : leB a b = true) (hn : a ≠ b) : Op.bytesLess a b = true := by
 rw [leB_lt] at h
 cases h1 : Op.bytesLess a b with
 | true => rfl
 | false => exact absurd (lt_total _ _ h1 (by simpa using h)) hn
theorem le_lt {a b c : List UInt8} (h : leB a b = true) (h2 : Op.bytesLess b c = true) : Op.bytesLess a c = true := by
 by_cases e : a = b
 ·subst e; exact h2
 exact lt_trans _ _ _ (lt_of_le_ne h e) h2
theorem mem_take_iff {α : Type} {l : List α} {m : Nat} {x : α} : x ∈ l.take m ↔ ∃ j, j < m ∧ l[j]? = some x := by
 rw [List.mem_iff_getElem?]
 constructor
 ·rintro ⟨j, hj⟩
  rw [List.getElem?_take] at hj
  split at hj
  ·rename_i h; exact ⟨j, h, hj⟩
  cases hj
 rintro ⟨j, h, hj⟩
 exact ⟨j, by rw [List.getElem?_take, if_pos h]; exact hj⟩
theorem mem_drop_iff {α : Type} {l : List α} {m : Nat} {x : α} : x ∈ l.drop m ↔ ∃ j, m ≤ j ∧ l[j]? = some x := by
 rw [List.mem_iff_getElem?]
 constructor
 ·rintro ⟨j, hj⟩
  rw [List.getElem?_drop] at hj
  exact ⟨m + j, by omega, hj⟩
 rintro ⟨j, h, hj⟩
 exact ⟨j - m, by rw [List.getElem?_drop, show m + (j - m) = j by omega]; exact hj⟩
theorem pair_at {α : Type} {R : α → α → Prop} {l : List α} (h : l.Pairwise R) {i j : Nat} {x y : α} (hij : i < j) (hx : l[i]? = some x) (hy : l[j]? = some y) : R x y := by
 obtain ⟨h1, rfl⟩ := List.getElem?_eq_some_iff.1 hx
 obtain ⟨h2, rfl⟩ := List.getElem?_eq_some_iff.1 hy
 exact List.pairwise_iff_getElem.1 h i j h1 h2 hij
theorem compact_sorted {l : List (List UInt8)} (h : l.Pairwise (fun a b => leB a b = true)) : ∀ m, m ≤ l.length → SortedT (Lib.compactUpTo l.toArray m) ∧ ∀ x, x ∈ Lib.compactUpTo l.toArray m ↔ x ∈ l.take m
 | 0, _ => ⟨List.Pairwise.nil, fun x => by simp [Lib.compactUpTo]⟩
 | m + 1, hm => by
  obtain ⟨h1, h2⟩ := compact_sorted h m (by omega)
  obtain ⟨x, hx⟩ : ∃ x, l[m]? = some x := ⟨_, List.getElem?_eq_getElem (by omega)⟩
  have hd : l.toArray[m]! = x := by
   have := (List.getElem?_eq_some_iff.1 hx)
   obtain ⟨h3, h4⟩ := this
   rw [getElem!_pos l.toArray m (by simpa using h3)]; simpa using h4
  rw [Lib.compactUpTo_succ, take_next hx]
  by_cases hk : Lib.keeps l.toArray m = true
  ·rw [if_pos hk, hd]
   refine ⟨List.pairwise_append.2 ⟨h1, by simp, fun y hy z hz => ?_⟩, fun z => by rw [List.mem_append, List.mem_append, h2]⟩
   rw [List.mem_singleton.1 hz]
   obtain ⟨j, hj, hjy⟩ := mem_take_iff.1 ((h2 y).1 hy)
   obtain ⟨p, hp⟩ : ∃ p, l[m - 1]? = some p := ⟨_, List.getElem?_eq_getElem (by omega)⟩
   have hdp : l.toArray[m - 1]! = p := by
    obtain ⟨h3, h4⟩ := List.getElem?_eq_some_iff.1 hp
    rw [getElem!_pos l.toArray (m - 1) (by simpa using h3)]; simpa using h4
   have hne : p ≠ x := by
    intro e
    have := Lib.keeps_neg (d := l.toArray) (m := m) (by omega) (by rw [hd, hdp, e])
    rw [this] at hk; cases hk
   have hpx := lt_of_le_ne (pair_at h (show m - 1 < m by omega) hp hx) hne
   rcases Nat.lt_or_ge j (m - 1) with h5 | h5
   ·exact le_lt (pair_at h h5 hjy hp) hpx
   obtain rfl : j = m - 1 := by omega
   rw [hp] at hjy; cases hjy; exact hpx
  rw [if_neg hk, List.append_nil]
  refine ⟨h1, fun z => ?_⟩
  rw [h2, List.mem_append, List.mem_singleton]
  have hm0 : 0 < m := by
   rcases Nat.eq_zero_or_pos m with rfl | h3
   ·exact absurd (by simp [Lib.keeps]) hk
   exact h3
  obtain ⟨p, hp⟩ : ∃ p, l[m - 1]? = some p := ⟨_, List.getElem?_eq_getElem (by omega)⟩
  have hdp : l.toArray[m - 1]! = p := by
   obtain ⟨h3, h4⟩ := List.getElem?_eq_some_iff.1 hp
   rw [getElem!_pos l.toArray (m - 1) (by simpa using h3)]; simpa using h4
  have he : x = p := Classical.byContradiction fun hne => hk (Lib.keeps_pos (by rw [hd, hdp]; exact hne))
  subst he
  exact ⟨.inl, fun h3 => h3.elim id fun e => by subst e; exact mem_take_iff.2 ⟨m - 1, by omega, hp⟩⟩
structure AddI (s fresh : List (List UInt8)) (i j : Nat) (out : List (List UInt8)) : Prop where
 so : SortedT out
 mem : ∀ x, x ∈ out ↔ x ∈ s.take i ∨ x ∈ fresh.take j
 lf : ∀ y ∈ out, ∀ f ∈ fresh.drop j, Op.bytesLess y f = true
 ls : ∀ y ∈ out, ∀ z ∈ s.drop i, Op.bytesLess y z = true
 len : out.length ≤ i + j
section
variable {s fresh out : List (List UInt8)} {i j : Nat} {x z : List UInt8}
theorem AddI.nil : AddI s fresh 0 0 [] := ⟨List.Pairwise.nil, fun x => by simp, fun y h => (by cases h), fun y h => (by cases h), Nat.zero_le _⟩
theorem drop_sub {α : Type} {l : List α} {i : Nat} {x : α} (h : x ∈ l.drop (i + 1)) : x ∈ l.drop i := by
 obtain ⟨j, h1, h2⟩ := mem_drop_iff.1 h
 exact mem_drop_iff.2 ⟨j, by omega, h2⟩
theorem sort_snoc {l : List (List UInt8)} (h : SortedT l) (hx : ∀ y ∈ l, Op.bytesLess y x = true) : SortedT (l ++ [x]) :=
 List.pairwise_append.2 ⟨h, by simp, fun y hy z hz => by rw [List.mem_singleton.1 hz]; exact hx y hy⟩
theorem AddI.low (h : AddI s fresh i j out) (hs : SortedT s) (hf : SortedT fresh) (hz : s[i]? = some z) (hx : fresh[j]? = some x) (hl : Op.bytesLess z x = true) : AddI s fresh (i + 1) j (out ++ [z]) := by
 refine ⟨sort_snoc h.so fun y hy => h.ls y hy z (mem_drop_iff.2 ⟨i, Nat.le_refl _, hz⟩), fun y => ?_, fun y hy f hf9 => ?_, fun y hy z9 hz9 => ?_, by have := h.len; rw [List.length_append, List.length_singleton]; omega⟩
 ·rw [List.mem_append, h.mem, take_next hz, List.mem_append]
  constructor
  ·rintro ((h1 | h1) | h1)
   ·exact .inl (.inl h1)
   ·exact .inr h1
   exact .inl (.inr h1)
  rintro ((h1 | h1) | h1)
  ·exact .inl (.inl h1)
  ·exact .inr h1
  exact .inl (.inr h1)
 ·rcases List.mem_append.1 hy with h1 | h1
  ·exact h.lf y h1 f hf9
  rw [List.mem_singleton.1 h1]
  obtain ⟨k, hk, hk2⟩ := mem_drop_iff.1 hf9
  rcases Nat.eq_or_lt_of_le hk with rfl | h2
  ·rw [hx] at hk2; cases hk2; exact hl
  exact lt_trans _ _ _ hl (pair_at hf h2 hx hk2)
 rcases List.mem_append.1 hy with h1 | h1
 ·exact h.ls y h1 z9 (drop_sub hz9)
 rw [List.mem_singleton.1 h1]
 obtain ⟨k, hk, hk2⟩ := mem_drop_iff.1 hz9
 exact pair_at hs (show i < k by omega) hz hk2
theorem AddI.put (h : AddI s fresh i j out) (hs : SortedT s) (hf : SortedT fresh) (hx : fresh[j]? = some x) {i' : Nat} (hi : (i' = i ∧ ∀ z, s[i]? = some z → Op.bytesLess z x = false ∧ z ≠ x) ∨ (i' = i + 1 ∧ s[i]? = some x)) : AddI s fresh i' (j + 1) (out ++ [x]) := by
 refine ⟨sort_snoc h.so fun y hy => h.lf y hy x (mem_drop_iff.2 ⟨j, Nat.le_refl _, hx⟩), fun y => ?_, fun y hy f hf9 => ?_, fun y hy z9 hz9 => ?_, by have := h.len; rw [List.length_append, List.length_singleton]; rcases hi with ⟨rfl, -⟩ | ⟨rfl, -⟩ <;> omega⟩
 ·rw [List.mem_append, h.mem, take_next hx, List.mem_append, List.mem_singleton]
  rcases hi with ⟨rfl, -⟩ | ⟨rfl, h9⟩
  ·constructor
   ·rintro ((h1 | h1) | h1)
    ·exact .inl h1
    ·exact .inr (.inl h1)
    exact .inr (.inr h1)
   rintro (h1 | h1 | h1)
   ·exact .inl (.inl h1)
   ·exact .inl (.inr h1)
   exact .inr h1
  rw [take_next h9, List.mem_append, List.mem_singleton]
  constructor
  ·rintro ((h1 | h1) | h1)
   ·exact .inl (.inl h1)
   ·exact .inr (.inl h1)
   exact .inr (.inr h1)
  rintro ((h1 | h1) | h1 | h1)
  ·exact .inl (.inl h1)
  ·exact .inr h1
  ·exact .inl (.inr h1)
  exact .inr h1
 ·rcases List.mem_append.1 hy with h1 | h1
  ·exact h.lf y h1 f (drop_sub hf9)
  rw [List.mem_singleton.1 h1]
  obtain ⟨k, hk, hk2⟩ := mem_drop_iff.1 hf9
  exact pair_at hf (show j < k by omega) hx hk2
 have hz9' : z9 ∈ s.drop i := by
  rcases hi with ⟨rfl, -⟩ | ⟨rfl, -⟩
  ·exact hz9
  exact drop_sub hz9
 rcases List.mem_append.1 hy with h1 | h1
 ·exact h.ls y h1 z9 hz9'
 rw [List.mem_singleton.1 h1]
 obtain ⟨k, hk, hk2⟩ := mem_drop_iff.1 hz9
 rcases hi with ⟨rfl, hi⟩ | ⟨rfl, hi⟩
 ·have h2 : ∀ z, s[i']? = some z → Op.bytesLess x z = true := fun z hz => by
   obtain ⟨h3, h4⟩ := hi z hz
   exact lt_of_le_ne (by rw [leB_lt, h3]; rfl) (fun e => h4 e.symm)
  rcases Nat.eq_or_lt_of_le hk with rfl | h3
  ·exact h2 _ hk2
  obtain ⟨z0, hz0⟩ : ∃ z, s[i']? = some z := ⟨_, List.getElem?_eq_getElem (by have := (List.getElem?_eq_some_iff.1 hk2).1; omega)⟩
  exact lt_trans _ _ _ (h2 _ hz0) (pair_at hs h3 hz0 hk2)
 exact pair_at hs (show i < k by omega) hi hk2
def JoinS (s xs out : List (List UInt8)) : Prop := SortedT out ∧ ∀ x, x ∈ out ↔ x ∈ s ∨ x ∈ xs
theorem AddI.fin (h : AddI s fresh i fresh.length out) (hs : SortedT s) : JoinS s fresh (out ++ s.drop i) := by
 refine ⟨List.pairwise_append.2 ⟨h.so, hs.sublist (List.drop_sublist _ _), fun y hy z hz => h.ls y hy z hz⟩, fun y => ?_⟩
 rw [List.mem_append, h.mem, List.take_length]
 have : y ∈ s ↔ y ∈ s.take i ∨ y ∈ s.drop i := by rw [← List.mem_append, List.take_append_drop]
 rw [this]
 constructor
 ·rintro ((h1 | h1) | h1)
  ·exact .inl (.inl h1)
  ·exact .inr h1
  exact .inl (.inr h1)
 rintro ((h1 | h1) | h1)
 ·exact .inl (.inl h1)
 ·exact .inr h1
 exact .inl (.inr h1)
end
end Go.Pm
/- append(nil, make([]T, n)...); slices.Compact over a row of one's own. -/
namespace Go.Pm
open Go.RowKit
section
variable {F : Fence} {n : Nat} {P : Program} {ops : Array Oper} {Q : Exit → Act → World → Prop} {a : Act} {w : World} {rest : List Oper} {o : Oper} {zv : Value} {B : Base} {H : List Res} {t e u : TypeId} {x y : Operand} {bytes size : Nat}
theorem sl_appendZ0 {k : Nat} {kn : IntKind} (hF : ∀ f, F.fn f) (hg : Region.wanted o (yielded ops a.tmps) = true) (ho : o.op = .call { callee := .builtin .append, args := #[x, y], argTypes := #[t, u] }) (hx : a.eval x = .slice none 0 0) (hy : a.eval y = .int .i64 (k : Int)) (E : Elem P t e zv size bytes) (hu : P.underlying u = some (.int kn))
  (hv : Inv B H w) (h0 : 0 < k) (h63 : k ≤ 100000000) (hbytes : k * bytes ≤ 140737488355328)
  (h : ∀ b c' zs w', k ≤ c' → c' ≤ maxLen → zs.length = c' * size → Inv B (Res.cell b zs e :: H) w' → wpListIn F n P ops Q rest (a.put o.dst (.slice (some ⟨b, 0, none⟩) k c')) w') : wpListIn F n P ops Q (o :: rest) a w := by
 obtain ⟨ht, ⟨i, hi, hz, hs, hby⟩, hzs, hpos⟩ := E
 have hr := Lib.run_append_nil_zeros (P := P) w t u o.type e i zv .i64 kn ht hu hi hz k h0 (by omega) (by omega) (by rw [hby]; omega)
 have hex : Ex P a o w _ _ := show (execOp a.eval o).run P w = _ by
  simp only [execOp, ho, resolve, invoke, builtin, List.map_toArray, List.map_cons, List.map_nil, hx, hy, Sem.run_bind, Sem.run_pure, Result.andThen_ok, hr]
  rfl
 have hge := grownCap_ge w k 0 e
 refine wpi_exG hF hg (by unfold isDefer; rw [ho]) hex (h w.drew.heap.size (grownCap w k 0 e) ((Builtin.zeroCells zv.cells k).toList ++ (Builtin.zeroCells zv.cells (grownCap w k 0 e - k)).toList) _ hge (grownCap_le_maxLen w k 0 e (by unfold maxLen; omega)) ?_ ?_)
 ·simp only [List.length_append, Array.length_toList, size_zeroCells, hzs, ← Nat.add_mul]
  congr 1; omega
 have := hv.drew.alloc ((Builtin.zeroCells zv.cells k).toList ++ (Builtin.zeroCells zv.cells (grownCap w k 0 e - k)).toList) e
 rw [show ((Builtin.zeroCells zv.cells k).toList ++ (Builtin.zeroCells zv.cells (grownCap w k 0 e - k)).toList).toArray = Builtin.zeroCells zv.cells k ++ Builtin.zeroCells zv.cells (grownCap w k 0 e - k) from Array.ext' (by simp)] at this
 exact this
end
end Go.Pm
namespace Go.Proofs.YtoljdfjnannakaaGreatDoor
open Go.RowKit Go.Pm Go.Sort Go.Shelf
theorem compactSorted (B : Base) (H : List Res) (w : World) (v : Value) (l : List (List UInt8)) (hm : l.length ≤ 1000000) (hso : l.Pairwise (fun a b => leB a b = true)) (hv : Pm.Inv B (Res.row keyT 1 v l.length (textCells l) :: H) w) :
  Calls Tryz.prog 102 #[v] w fun e w' => ∃ C ad c out, B.Le C ∧ e = .returned (.slice ad out.length c) ∧ SliceOk ad out.length c ∧ RdV C [] ad (textCells out) ∧ SortedT out ∧ (∀ x, x ∈ out ↔ x ∈ l) ∧ out.length ≤ l.length ∧ Pm.Inv C H w' := by
 rcases (hv.head : w.ownsRow 0 keyT 1 v l.length (textCells l)).2 with ⟨rfl, hz⟩ | ⟨g, cap, cur, rfl, h0, hgb, r1, r2, r3, r4⟩
 ·have hl : l = [] := List.eq_nil_of_length_eq_zero hz
  subst hl
  refine (Any.slices_Compact_string_empty Tryz.laysCompact none 0 w).mono ?_
  rintro e w' ⟨rfl, rfl⟩
  exact ⟨B, none, 0, [], Base.Le.refl _, rfl, ⟨Nat.le_refl _, Nat.zero_le _, fun _ => rfl⟩, rdV_nil, List.Pairwise.nil, fun x => Iff.rfl, Nat.le_refl _, hv.drop⟩
 have hH : Holds encStr w g 0 l.toArray := holds_of_block hgb (by rw [Nat.mul_one] at r4; exact r4)
 refine (Any.slices_Compact_string_arr Tryz.laysCompact g 0 cap l.toArray w hH (by simp; omega) (by simpa using r1)).mono ?_
 rintro e w' ⟨rfl, q, rfl⟩
 obtain ⟨hs1, hs2⟩ := compact_sorted hso l.length (Nat.le_refl _)
 have hsz : l.toArray.size = l.length := by simp
 rw [hsz]
 have hle0 : (Lib.compactUpTo l.toArray l.length).length ≤ l.length := by
  unfold Lib.compactUpTo
  rw [List.length_map]
  exact Nat.le_trans (List.length_filter_le _ _) (by simp)
 obtain ⟨out, hout⟩ : ∃ o, Lib.compactUpTo l.toArray l.length = o := ⟨_, rfl⟩
 rw [hout] at hs1 hs2 hle0 ⊢
 obtain ⟨ts, hts⟩ : ∃ ts, ts = out ++ List.replicate (l.length - out.length) [] := ⟨_, rfl⟩
 have htl : ts.length = l.length := by rw [hts, List.length_append, List.length_replicate]; omega
 rw [← hts, ← grow_empty (putRow encStr (Sort.ahead w q) g 0 ts.toArray)]
 have hgr := grownBy_sorted (w := w) (g := g) (n := q) (os := #[]) ts.toArray
 have hr := ownsRow_sorted (n := q) (os := #[]) (ss := l) (ts := ts) htl h0 hgb r1 r2 r3
 have hr2 : (grow (putRow encStr (Sort.ahead w q) g 0 ts.toArray) #[]).ownsRow 0 keyT 1 (.slice (some ⟨g, 0, none⟩) out.length cap) out.length (textCells out) := by
  rcases hr.2 with ⟨h, -⟩ | ⟨g', cap', cur', h1, h2, h3, h4, h5, h6, h7⟩
  ·cases h
  simp only [Value.slice.injEq, Option.some.injEq, Addr.mk.injEq] at h1
  obtain ⟨⟨rfl, -, -⟩, -, rfl⟩ := h1
  refine ⟨by simp [textCells], .inr ⟨g, cap, cur', rfl, h2, h3, by omega, h5, h6, ?_⟩⟩
  have h8 := congrArg (List.take out.length) h7
  rw [List.take_take, Nat.mul_one, Nat.min_eq_left hle0, hts, List.map_append, List.take_left' (by simp)] at h8
  rw [Nat.mul_one]; exact h8
 have hv2 := hv.upd (Res.row keyT 1 (.slice (some ⟨g, 0, none⟩) out.length cap) out.length (textCells out)) ⟨hgr.os, hgr.tape, hgr.output, hgr.size, fun k hk hn => hgr.block k hk (fun e => hn (by cases e; simp [Value.ownBlock]))⟩ hr2 (fun b hb => .inl hb) (fun b hb => Nat.lt_of_lt_of_le (hv.headLt b hb) hgr.size) (by simp [Value.ownBlock])
 obtain ⟨C, hC, hv3, hrd, hok, -⟩ := hv2.rowBy
 exact ⟨C, _, _, out, hC, rfl, hok, hrd, hs1, fun x => by rw [hs2, List.take_length], hle0, hv3⟩
end Go.Proofs.YtoljdfjnannakaaGreatDoor
/- Keys of the reference's view: a name, a value, a clock; rows of them in memory that stays. -/
namespace Go.Pm
open Go.RowKit
structure KeyR where
 name : List UInt8
 val : Val
 exp : Int
end Go.Pm
/- Replies: a tree of kinds, texts, numbers and lists, in memory that stays. -/
namespace Go.Pm
open Go.RowKit
inductive Rp where
 | mk (kind : Int) (s : List UInt8) (n : Int) (l : List Rp)
def Rp.kind : Rp → Int
 | .mk k _ _ _ => k
abbrev rpCells (k : Int) (s : List UInt8) (n : Int) (v : Value) : List Value := [.int .i64 k, strV s, .int .i64 n, v]
mutual
def RpAt (B : Base) : Rp → List Value → Prop
 | .mk k s n l, cs => ∃ v xs, cs = rpCells k s n v ∧ RowB B v l.length xs ∧ RpsAt B l xs
def RpsAt (B : Base) : List Rp → List Value → Prop
 | [], xs => xs = []
 | r :: l, xs => ∃ cs ys, xs = cs ++ ys ∧ RpAt B r cs ∧ RpsAt B l ys
end
mutual
theorem RpAt.more {B C : Base} (hB : B.Le C) : ∀ {r : Rp} {cs : List Value}, RpAt B r cs → RpAt C r cs
 | .mk _ _ _ _, _, h => by
  simp only [RpAt] at h ⊢
  obtain ⟨v, xs, h1, h2, h3⟩ := h
  exact ⟨v, xs, h1, h2.more hB, RpsAt.more hB h3⟩
theorem RpsAt.more {B C : Base} (hB : B.Le C) : ∀ {l : List Rp} {xs : List Value}, RpsAt B l xs → RpsAt C l xs
 | [], _, h => by simp only [RpsAt] at h ⊢; exact h
 | _ :: _, _, h => by
  simp only [RpsAt] at h ⊢
  obtain ⟨cs, ys, h1, h2, h3⟩ := h
  exact ⟨cs, ys, h1, RpAt.more hB h2, RpsAt.more hB h3⟩
end
theorem RpAt.len {B : Base} {r : Rp} {cs : List Value} (h : RpAt B r cs) : cs.length = 4 := by
 cases r; simp only [RpAt] at h
 obtain ⟨v, xs, rfl, -⟩ := h; rfl
theorem RpsAt.nil {B : Base} : RpsAt B [] [] := by simp only [RpsAt]
theorem RpsAt.cons {B : Base} {r : Rp} {l : List Rp} {cs ys : List Value} (h1 : RpAt B r cs) (h2 : RpsAt B l ys) : RpsAt B (r :: l) (cs ++ ys) := by
 simp only [RpsAt]; exact ⟨cs, ys, rfl, h1, h2⟩
theorem RpsAt.uncons {B : Base} {r : Rp} {l : List Rp} {xs : List Value} (h : RpsAt B (r :: l) xs) : ∃ cs ys, xs = cs ++ ys ∧ RpAt B r cs ∧ RpsAt B l ys := by
 simp only [RpsAt] at h; exact h
theorem RpsAt.append {B : Base} {k : List Rp} {ys : List Value} (hk : RpsAt B k ys) : ∀ {l : List Rp} {xs : List Value}, RpsAt B l xs → RpsAt B (l ++ k) (xs ++ ys)
 | [], xs, h => by
  simp only [RpsAt] at h; subst h; exact hk
 | r :: l, xs, h => by
  obtain ⟨cs, zs, rfl, h1, h2⟩ := h.uncons
  rw [List.append_assoc]
  exact RpsAt.cons h1 (RpsAt.append hk h2)
theorem RpsAt.single {B : Base} {r : Rp} {cs : List Value} (h : RpAt B r cs) : RpsAt B [r] cs := by
 have := RpsAt.cons h (RpsAt.nil (B := B))
 rwa [List.append_nil] at this
theorem RpsAt.len {B : Base} : ∀ {l : List Rp} {xs : List Value}, RpsAt B l xs → xs.length = l.length * 4
 | [], xs, h => by simp only [RpsAt] at h; subst h; rfl
 | r :: l, xs, h => by
  obtain ⟨cs, zs, rfl, h1, h2⟩ := h.uncons
  rw [List.length_append, RpsAt.len h2, h1.len, List.length_cons]; omega
theorem RpsAt.get {B : Base} : ∀ {l : List Rp} {xs : List Value}, RpsAt B l xs → ∀ i (hi : i < l.length), ∃ cs, RpAt B l[i] cs ∧ ∀ j, j < 4 → cs[j]? = (xs.drop (i * 4))[j]?
 | [], _, _, i, hi => by simp at hi
 | r :: l, xs, h, i, hi => by
  obtain ⟨cs, zs, rfl, h1, h2⟩ := h.uncons
  cases i with
  | zero => exact ⟨cs, h1, fun j hj => by rw [Nat.zero_mul, List.drop_zero, List.getElem?_append_left (by rw [h1.len]; exact hj)]⟩
  | succ i =>
   obtain ⟨cs', e1, e2⟩ := RpsAt.get h2 i (by simpa using hi)
   refine ⟨cs', e1, fun j hj => (e2 j hj).trans ?_⟩
   rw [show (i + 1) * 4 = cs.length + i * 4 by rw [h1.len, Nat.succ_mul]; omega, ← List.drop_drop, List.drop_left]
theorem RpsAt.reads {B : Base} {l : List Rp} {xs : List Value} {ad : Option Addr} {i : Nat} {k : Int} {s : List UInt8} {n : Int} {q : List Rp} (h : RpsAt B l xs) (hr : RdV B [] ad xs) (hx : l[i]? = some (.mk k s n q)) :
  ∃ b off v ys, ad = some ⟨b, off, none⟩ ∧ RowB B v q.length ys ∧ RpsAt B q ys ∧ Reads B [] b (off + i * 4) (rpCells k s n v) := by
 obtain ⟨hi, hx⟩ := List.getElem?_eq_some_iff.1 hx
 obtain ⟨cs, h1, h2⟩ := h.get i hi
 rw [hx] at h1
 simp only [RpAt] at h1
 obtain ⟨v, ys, rfl, h3, h4⟩ := h1
 have hl := h.len
 have hle : i * 4 + 4 ≤ xs.length := by rw [hl]; have := Nat.mul_le_mul_right 4 (show i + 1 ≤ l.length by omega); rw [Nat.succ_mul] at this; exact this
 obtain ⟨b, off, h5, h6⟩ := rdW_reads (cs := rpCells k s n v) (k := i * 4) (m := 4) (hr.rdW []) hle (by decide) rfl (fun j hj => by
  rw [h2 j hj, List.getElem?_drop])
 exact ⟨b, off, v, ys, h5, h3, h4, h6⟩
def rInt (n : Int) : Rp := .mk 2 [] n []
def rStr (s : List UInt8) : Rp := .mk 3 s 0 []
def rText (s : List UInt8) : Rp := .mk 0 s 0 []
def rFault (s : List UInt8) : Rp := .mk 1 s 0 []
def rList (l : List Rp) : Rp := .mk 5 [] 0 l
def rStrs (l : List (List UInt8)) : Rp := rList (l.map rStr)
theorem RpAt.lv {B : Base} {r : Rp} {k : Int} {s : List UInt8} {n : Int} {v : Value} (h : RpAt B r (rpCells k s n v)) : v.cells = #[v] ∧ v.oneCell' = true := by
 cases r; simp only [RpAt] at h
 obtain ⟨v2, xs, h1, h2, -⟩ := h
 simp only [List.cons.injEq, and_true] at h1
 obtain ⟨-, -, -, rfl⟩ := h1
 exact ⟨h2.cells, h2.one⟩
theorem rpAt_leaf {B : Base} {k : Int} {s : List UInt8} {n : Int} : RpAt B (.mk k s n []) (rpCells k s n (.slice none 0 0)) := by
 simp only [RpAt]
 exact ⟨_, [], rfl, ⟨none, 0, rfl, ⟨Nat.le_refl _, Nat.zero_le _, fun _ => rfl⟩, rdV_nil⟩, RpsAt.nil⟩
theorem rpAt_of {B : Base} {k : Int} {s : List UInt8} {n : Int} {l : List Rp} {v : Value} {xs : List Value} (h1 : RowB B v l.length xs) (h2 : RpsAt B l xs) : RpAt B (.mk k s n l) (rpCells k s n v) := by
 simp only [RpAt]; exact ⟨v, xs, rfl, h1, h2⟩
def strsCells (l : List (List UInt8)) : List Value := l.flatMap fun s => rpCells 3 s 0 (.slice none 0 0)
theorem strsCells_at {B : Base} : ∀ (l : List (List UInt8)), RpsAt B (l.map rStr) (strsCells l)
 | [] => RpsAt.nil
 | s :: l => RpsAt.cons (rpAt_leaf (k := 3) (s := s) (n := 0)) (strsCells_at l)
theorem strsCells_next {l : List (List UInt8)} {i : Nat} {x : List UInt8} (h : l[i]? = some x) : strsCells (l.take (i + 1)) = strsCells (l.take i) ++ rpCells 3 x 0 (.slice none 0 0) := by
 rw [take_next h]; unfold strsCells; rw [List.flatMap_append]; rfl
end Go.Pm
/- Rows whose elements have so many cells each; rows of rows of texts. -/
namespace Go.Pm
open Go.RowKit
section
variable {α : Type} {f : α → List Value} {k : Nat}
theorem rowk_len (hk : ∀ x, (f x).length = k) (l : List α) : (l.flatMap f).length = l.length * k := by
 induction l with
 | nil => simp
 | cons a l ih => rw [List.flatMap_cons, List.length_append, ih, hk, List.length_cons, Nat.succ_mul]; omega
theorem rowk_get (hk : ∀ x, (f x).length = k) {l : List α} {i j : Nat} {x : α} (hx : l[i]? = some x) (hj : j < k) : (l.flatMap f)[i * k + j]? = (f x)[j]? := by
 have hi := (List.getElem?_eq_some_iff.1 hx).1
 have h : l = l.take i ++ x :: l.drop (i + 1) := by
  have h9 := (List.take_append_drop i l).symm
  rw [List.drop_eq_getElem_cons hi, (List.getElem?_eq_some_iff.1 hx).2] at h9
  exact h9
 rw [h, List.flatMap_append, List.flatMap_cons, List.getElem?_append_right (by rw [rowk_len hk, List.length_take, Nat.min_eq_left (by omega)]; omega),
  rowk_len hk, List.length_take, Nat.min_eq_left (by omega), Nat.add_sub_cancel_left, List.getElem?_append_left (by rw [hk]; exact hj)]
theorem rowk_reads (hk : ∀ x, (f x).length = k) (h0 : 0 < k) {B : Base} {l : List α} {ad : Option Addr} {i : Nat} {x : α} (hr : RdV B [] ad (l.flatMap f)) (hx : l[i]? = some x) : ∃ b off, ad = some ⟨b, off, none⟩ ∧ Reads B [] b (off + i * k) (f x) := by
 have hi := (List.getElem?_eq_some_iff.1 hx).1
 have hle : i * k + k ≤ l.length * k := by have := Nat.mul_le_mul_right k (show i + 1 ≤ l.length by omega); rw [Nat.succ_mul] at this; exact this
 exact rdW_reads (k := i * k) (m := k) (hr.rdW []) (by rw [rowk_len hk]; exact hle) h0 (hk x) (fun j hj => (rowk_get hk hx hj).symm)
end
def TxsAt (B : Base) : List (List (List UInt8)) → List Value → Prop
 | [], xs => xs = []
 | s :: l, xs => ∃ v ys, xs = v :: ys ∧ RowB B v s.length (textCells s) ∧ TxsAt B l ys
theorem TxsAt.more {B C : Base} (hB : B.Le C) : ∀ {l : List (List (List UInt8))} {xs : List Value}, TxsAt B l xs → TxsAt C l xs
 | [], _, h => h
 | _ :: _, _, ⟨v, ys, h1, h2, h3⟩ => ⟨v, ys, h1, h2.more hB, TxsAt.more hB h3⟩
theorem TxsAt.append {B : Base} {k : List (List (List UInt8))} {ys : List Value} (hk : TxsAt B k ys) : ∀ {l : List (List (List UInt8))} {xs : List Value}, TxsAt B l xs → TxsAt B (l ++ k) (xs ++ ys)
 | [], xs, h => by
  cases (show xs = [] from h)
  exact hk
 | s :: l, xs, ⟨v, zs, h1, h2, h3⟩ => by
  subst h1
  exact ⟨v, zs ++ ys, rfl, h2, TxsAt.append hk h3⟩
theorem TxsAt.single {B : Base} {s : List (List UInt8)} {v : Value} (h : RowB B v s.length (textCells s)) : TxsAt B [s] [v] := ⟨v, [], rfl, h, rfl⟩
theorem TxsAt.len {B : Base} : ∀ {l : List (List (List UInt8))} {xs : List Value}, TxsAt B l xs → xs.length = l.length
 | [], xs, h => by cases (show xs = [] from h); rfl
 | s :: l, xs, ⟨v, zs, h1, h2, h3⟩ => by subst h1; rw [List.length_cons, List.length_cons, TxsAt.len h3]
theorem TxsAt.get {B : Base} : ∀ {l : List (List (List UInt8))} {xs : List Value}, TxsAt B l xs → ∀ {i : Nat} {s : List (List UInt8)}, l[i]? = some s → ∃ v, xs[i]? = some v ∧ RowB B v s.length (textCells s)
 | [], _, _, i, s, h => by simp at h
 | s :: l, xs, ⟨v, zs, h1, h2, h3⟩, i, s', h => by
  subst h1
  cases i with
  | zero => simp at h; subst h; exact ⟨v, rfl, h2⟩
  | succ i => exact TxsAt.get h3 (by simpa using h)
theorem TxsAt.drop {B : Base} : ∀ {l : List (List (List UInt8))} {xs : List Value}, TxsAt B l xs → ∀ i, TxsAt B (l.drop i) (xs.drop i)
 | [], xs, h, i => by cases (show xs = [] from h); simp [TxsAt]
 | s :: l, xs, ⟨v, zs, h1, h2, h3⟩, i => by
  subst h1
  cases i with
  | zero => exact ⟨v, zs, rfl, h2, h3⟩
  | succ i => exact TxsAt.drop h3 i
theorem TxsAt.reads {B : Base} {l : List (List (List UInt8))} {xs : List Value} {ad : Option Addr} {i : Nat} {s : List (List UInt8)} (h : TxsAt B l xs) (hr : RdV B [] ad xs) (hx : l[i]? = some s) : ∃ b off a c, ad = some ⟨b, off, none⟩ ∧ SliceOk a s.length c ∧ RdV B [] a (textCells s) ∧ Reads B [] b (off + i) [.slice a s.length c] := by
 obtain ⟨v, hv, a, c, rfl, hok, hrd⟩ := h.get hx
 have hi := (List.getElem?_eq_some_iff.1 hv).1
 obtain ⟨b, off, h1, h2⟩ := rdW_reads (cs := [.slice a s.length c]) (k := i) (m := 1) (hr.rdW []) (by omega) (by decide) rfl (fun j hj => by
  obtain rfl : j = 0 := by omega
  rw [Nat.add_zero, hv]; rfl)
 exact ⟨b, off, a, c, h1, hok, hrd, h2⟩
end Go.Pm
/- Sets: texts compared, sought, ordered, joined. -/
namespace Go.Proofs.YtoljdfjnannakaaGreatDoor
open Go.RowKit Go.Pm Go.Sort
set_option maxHeartbeats 2000000 in
theorem cmpNan (B : Base) (H : List Res) (w : World) (s : List UInt8) (hv : Inv B H w) :
  Calls Tryz.prog 113 #[vS s] w fun e w' => e = .returned (.bool false) ∧ Inv B H w' := by
 refine cW Tryz.func113 rfl Tryz.ntmps113 ?_
 simp only [al]
 refine sK fun _ k1 => rL (xA (.bool false) rfl ?_)
 simp only [zP, po]
 refine wK k1 (sK fun _ k2 => ?_)
 refine rL (xM (vS s) rfl ?_)
 refine xM (vS s) rfl (xG (.bool false) rfl (ex_sneq rfl rfl rfl (qF (fun h => h rfl))) ?_)
 simp only [zP, po]
 refine xA (.bool false) rfl ?_
 simp only [zP, po]
 refine wK k2 (rR ?_)
 refine bR rfl rfl (⟨rfl, hv⟩)
set_option maxHeartbeats 2000000 in
theorem slNan (B : Base) (H : List Res) (w : World) (s : List UInt8) (hv : Inv B H w) :
  Calls Tryz.prog 104 #[vS s] w fun e w' => e = .returned (.bool false) ∧ Inv B H w' := by
 refine cW Tryz.func104 rfl Tryz.ntmps104 ?_
 simp only [al]
 refine sK fun _ k1 => rL (xA (.bool false) rfl ?_)
 simp only [zP, po]
 refine wK k1 (sK fun _ k2 => ?_)
 refine rL (xM (vS s) rfl ?_)
 refine xM (vS s) rfl (xG (.bool false) rfl (ex_sneq rfl rfl rfl (qF (fun h => h rfl))) ?_)
 simp only [zP, po]
 refine xA (.bool false) rfl ?_
 simp only [zP, po]
 refine wK k2 (rR ?_)
 refine bR rfl rfl (⟨rfl, hv⟩)
theorem t1callable113 : Callable Tryz.prog 113 := ⟨_, Tryz.func113, by kernel_rfl, by kernel_rfl⟩
set_option maxHeartbeats 2000000 in
theorem cmpLess (B : Base) (H : List Res) (w : World) (s t : List UInt8) (hv : Inv B H w) :
  Calls Tryz.prog 103 #[vS s, vS t] w fun e w' => e = .returned (.bool (Op.bytesLess s t)) ∧ Inv B H w' := by
 refine cW Tryz.func103 rfl Tryz.ntmps103 ?_
 simp only [al]
 refine sK fun _ k1 => rL (xA (.bool false) rfl ?_)
 simp only [zP, po]
 refine wK k1 (sK fun _ k2 => ?_)
 refine rL (xM (vS s) rfl ?_)
 refine xC t1callable113 rfl ((cmpNan B _ _ s hv).mono ?_) rfl
 rintro e w3 ⟨rfl, hv⟩
 refine ⟨_, rfl, ?_⟩
 refine xM (.bool false) rfl ?_
 simp only [zP, po]
 iterate 3 refine yN rfl ?_
 refine xK false (.bool false) rfl (xM (.bool false) rfl ?_)
 refine xM (vS s) rfl ?_
 simp only [zP, po]
 refine xM (vS t) rfl (xG (.bool (Op.bytesLess s t)) rfl (ex_slss rfl rfl rfl rfl) ?_)
 refine xK false (.bool (Op.bytesLess s t)) rfl ?_
 simp only [zP, po]
 refine xA (.bool (Op.bytesLess s t)) rfl ?_
 simp only [zP, po]
 refine wK k2 (rR ?_)
 refine bR rfl rfl (⟨rfl, hv⟩)
theorem t1callable103 : Callable Tryz.prog 103 := ⟨_, Tryz.func103, by kernel_rfl, by kernel_rfl⟩
theorem t1callable104 : Callable Tryz.prog 104 := ⟨_, Tryz.func104, by kernel_rfl, by kernel_rfl⟩
set_option maxHeartbeats 4000000 in
theorem binSearch (B : Base) (H : List Res) (w : World) (ad : Option Addr) (c : Nat) (l : List (List UInt8)) (t : List UInt8) (hr : RdV B [] ad (textCells l)) (hm : l.length ≤ 1000000) (hs : SortedT l) (hv : Inv B H w) :
  Calls Tryz.prog 89 #[.slice ad l.length c, vS t] w fun e w' => ∃ (i : Nat) (b : Bool), i ≤ l.length ∧ (∀ (j : Nat) z, j < i → l[j]? = some z → Op.bytesLess z t = true) ∧ (∀ (j : Nat) z, i ≤ j → l[j]? = some z → Op.bytesLess z t = false) ∧ e = .returned (.tuple #[vI i, .bool b]) ∧ (b = true ↔ l[i]? = some t) ∧ Inv B H w' := by
 refine cW Tryz.func89 rfl Tryz.ntmps89 ?_
 simp only [al]
 refine sK fun _ k1 => rL (xA (vI 0) rfl ?_)
 refine xA (.bool false) rfl ?_
 simp only [zP, po]
 refine wK k1 (sK fun _ k2 => ?_)
 refine rL (xM (.slice ad l.length c) rfl ?_)
 refine xG (vI (l.length : Int)) rfl (ex_len0 Tryz.underlying22 rfl rfl) (xA (vI (l.length : Int)) rfl ?_)
 simp only [zP, po]
 refine wK k2 (sK fun _ k3 => ?_)
 refine rL (xM (vI (l.length : Int)) rfl ?_)
 refine xA (vI 0) rfl (xA (vI (l.length : Int)) rfl ?_)
 simp only [zP, po]
 refine wK k3 (sK fun _ k4 => ?_)
 refine bB ?_
 gi_loopw [7, 8] (fun x7 x8 wr => ∃ (lo hi : Nat), x7 = vI lo ∧ x8 = vI hi ∧ lo ≤ hi ∧ hi ≤ l.length ∧ (∀ (j : Nat) z, j < lo → l[j]? = some z → Op.bytesLess z t = true) ∧ (∀ (j : Nat) z, hi ≤ j → l[j]? = some z → Op.bytesLess z t = false) ∧ Inv B H wr) (fun x7 x8 _ => (intOf x8).toNat - (intOf x7).toNat)
 case atStart => exact ⟨0, l.length, rfl, rfl, Nat.zero_le _, Nat.le_refl _, fun j z h => by omega, fun j z h hz => by have := (List.getElem?_eq_some_iff.1 hz).1; omega, hv⟩
 case round =>
  obtain ⟨lo, hi, rfl, rfl, hle, hhi, hlt, hge, hv⟩ := hrel
  refine sK fun _ k6 => sK fun _ k7 => rL (xM (vI lo) rfl ?_)
  refine xM (vI hi) rfl ?_
  by_cases hb8 : (lo : Int) < (hi : Int)
  ·refine xG (.bool true) rfl (ex_lss rfl rfl rfl (qT hb8)) ?_
   simp only [zP, po]
   refine wK k7 (cT rfl ?_)
   refine kS (tK k6 ?_)
   refine bB (sK fun _ k9 => ?_)
   refine rL (xM (vI lo) rfl ?_)
   refine xM (vI hi) rfl (xG (vI ((lo + hi : Nat) : Int)) rfl (ex_add rfl rfl rfl (by rw [i64_in (by omega)]; omega)) ?_)
   simp only [zP, po]
   refine xG (.int .u64 ((lo + hi : Nat) : Int)) rfl (ex_int Tryz.underlying3 Tryz.underlying186 rfl rfl (u64_in (by omega))) (xG (.int .u64 (((lo + hi) / 2 : Nat) : Int)) rfl (ex_shr (m := ((lo + hi : Nat) : Int)) (n := 1) rfl rfl rfl (by decide) (shr1 (lo + hi))) ?_)
   refine xG (vI (((lo + hi) / 2 : Nat) : Int)) rfl (ex_int Tryz.underlying186 Tryz.underlying3 rfl rfl (i64_in (by omega))) ?_
   simp only [zP, po]
   refine xA (vI (((lo + hi) / 2 : Nat) : Int)) rfl ?_
   simp only [zP, po]
   refine wK k9 (sK fun _ k10 => ?_)
   obtain ⟨y, hy⟩ : ∃ x, l[((lo + hi) / 2 : Nat)]? = some x := ⟨_, List.getElem?_eq_getElem (show ((lo + hi) / 2 : Nat) < l.length by omega)⟩
   obtain ⟨bb, bo, had, hrdy⟩ := text_reads hr hy
   subst had
   refine rL (xM (.slice (some ⟨bb, bo, none⟩) l.length c) rfl ?_)
   refine xM (vI (((lo + hi) / 2 : Nat) : Int)) rfl (xG (.pointer (some ⟨bb, bo + ((lo + hi) / 2 : Nat), none⟩)) rfl (ex_index rfl rfl rfl (run_idx1 (k := ((lo + hi) / 2 : Nat)) Tryz.underlying22 s9es22 (by omega))) ?_)
   simp only [zP, po]
   refine xL _ rfl (run_load1 s9na9 (hrdy _ _ _ (Base.Le.refl _) no_res hv 0 _ rfl)) (xM (vS t) rfl ?_)
   refine xC t1callable103 rfl ((cmpLess B _ _ y t hv).mono ?_) rfl
   rintro e w11 ⟨rfl, hv⟩
   refine ⟨_, rfl, ?_⟩
   simp only [zP, po]
   refine wK k10 (wpIn_cond_split (t := Op.bytesLess y t) rfl (fun hc12 => ?_) (fun hc12 => ?_))
   ·refine rL (xM (vI (((lo + hi) / 2 : Nat) : Int)) rfl ?_)
    refine xG (vI (((lo + hi) / 2 + 1 : Nat) : Int)) rfl (ex_add rfl rfl rfl (by rw [i64_in (by omega)]; omega)) (xA (vI (((lo + hi) / 2 + 1 : Nat) : Int)) rfl ?_)
    refine wL ?_
    simp only [zP, po]
    refine bN (then_normal ?_)
    go_roundw
    case rel => exact ⟨(lo + hi) / 2 + 1, hi, rfl, rfl, by omega, by omega, fun j z hj hz => (by
       rcases Nat.lt_or_ge j ((lo + hi) / 2) with h | h
       ·exact lt_trans _ _ _ (pair_at hs h hz hy) hc12
       obtain rfl : j = (lo + hi) / 2 := by omega
       rw [hy] at hz; cases hz; exact hc12), hge, hv⟩
    case measure => show (((hi : Int)).toNat - ((((lo + hi) / 2 + 1 : Nat) : Int)).toNat) < ((hi : Int)).toNat - ((lo : Int)).toNat; omega
   refine rL (xM (vI (((lo + hi) / 2 : Nat) : Int)) rfl ?_)
   refine xA (vI (((lo + hi) / 2 : Nat) : Int)) rfl (wL ?_)
   simp only [zP, po]
   refine bN (then_normal ?_)
   go_roundw
   case rel => exact ⟨lo, (lo + hi) / 2, rfl, rfl, by omega, by omega, hlt, fun j z hj hz => (by
      rcases Nat.eq_or_lt_of_le hj with h | h
      ·subst h; rw [hy] at hz; cases hz; exact hc12
      exact ge_trans hc12 (pair_at hs h hy hz)), hv⟩
   case measure => show (((((lo + hi) / 2 : Nat) : Int)).toNat - ((lo : Int)).toNat) < ((hi : Int)).toNat - ((lo : Int)).toNat; omega
  refine xG (.bool false) rfl (ex_lss rfl rfl rfl (qF hb8)) ?_
  simp only [zP, po]
  refine wK k7 (cF rfl ?_)
  refine xE (tX ?_)
  refine tX (bH ?_)
  refine tK k4 (sK fun _ k13 => ?_)
  obtain rfl : hi = lo := by omega
  by_cases hin : hi < l.length
  ·obtain ⟨z, hz⟩ : ∃ x, l[hi]? = some x := ⟨_, List.getElem?_eq_getElem (show hi < l.length by omega)⟩
   obtain ⟨bb, bo, had, hrdz⟩ := text_reads hr hz
   subst had
   refine rL (xM (vI hi) rfl ?_)
   refine xM (vI hi) rfl (xM (vI (l.length : Int)) rfl ?_)
   simp only [zP, po]
   refine xG (.bool true) rfl (ex_lss rfl rfl rfl (qT (by omega))) (xM (.bool true) rfl ?_)
   refine xM (.slice (some ⟨bb, bo, none⟩) l.length c) rfl ?_
   simp only [zP, po]
   refine xM (vI hi) rfl (xG (.pointer (some ⟨bb, bo + hi, none⟩)) rfl (ex_index rfl rfl rfl (run_idx1 (k := hi) Tryz.underlying22 s9es22 (by omega))) ?_)
   refine xL _ rfl (run_load1 s9na9 (hrdz _ _ _ (Base.Le.refl _) no_res hv 0 _ rfl)) ?_
   simp only [zP, po]
   refine xM (vS t) rfl ?_
   by_cases hb14 : z = t
   ·refine xG (.bool true) rfl (ex_seql rfl rfl rfl (qT hb14)) (xM (.bool true) rfl ?_)
    simp only [zP, po]
    iterate 9 refine yN rfl ?_
    refine xK true (.bool true) rfl (xK true (.bool true) rfl ?_)
    refine xA (vI hi) rfl ?_
    simp only [zP, po]
    refine xA (.bool true) rfl ?_
    simp only [zP, po]
    refine wK k13 (rR ?_)
    refine bodyPost_ret (results_tmp2 rfl _ _ _) rfl (⟨hi, _, by omega, hlt, hge, rfl, ⟨fun _ => by rw [hz, hb14], fun _ => rfl⟩, hv⟩)
   refine xG (.bool false) rfl (ex_seql rfl rfl rfl (qF hb14)) (xM (.bool false) rfl ?_)
   simp only [zP, po]
   refine xM (.slice (some ⟨bb, bo, none⟩) l.length c) rfl (xM (vI hi) rfl ?_)
   refine xG (.pointer (some ⟨bb, bo + hi, none⟩)) rfl (ex_index rfl rfl rfl (run_idx1 (k := hi) Tryz.underlying22 s9es22 (by omega))) ?_
   simp only [zP, po]
   refine xL _ rfl (run_load1 s9na9 (hrdz _ _ _ (Base.Le.refl _) no_res hv 0 _ rfl)) (xC t1callable104 rfl ((slNan B _ _ z hv).mono ?_) rfl)
   rintro e w15 ⟨rfl, hv⟩
   refine ⟨_, rfl, ?_⟩
   refine xM (.bool false) rfl ?_
   simp only [zP, po]
   iterate 2 refine yN rfl ?_
   refine xK false (.bool false) rfl (xK false (.bool false) rfl ?_)
   refine xK true (.bool false) rfl ?_
   simp only [zP, po]
   refine xA (vI hi) rfl (xA (.bool false) rfl ?_)
   simp only [zP, po]
   refine wK k13 (rR ?_)
   refine bodyPost_ret (results_tmp2 rfl _ _ _) rfl (⟨hi, _, by omega, hlt, hge, rfl, ⟨fun h => (by cases h), fun h => by rw [hz] at h; cases h; exact absurd rfl hb14⟩, hv⟩)
  refine rL (xM (vI hi) rfl ?_)
  refine xM (vI hi) rfl (xM (vI (l.length : Int)) rfl ?_)
  simp only [zP, po]
  refine xG (.bool false) rfl (ex_lss rfl rfl rfl (qF (by omega))) (xM (.bool false) rfl ?_)
  iterate 17 refine yN rfl ?_
  refine xK false (.bool false) rfl ?_
  simp only [zP, po]
  refine xA (vI hi) rfl (xA (.bool false) rfl ?_)
  simp only [zP, po]
  refine wK k13 (rR ?_)
  refine bodyPost_ret (results_tmp2 rfl _ _ _) rfl (⟨hi, _, by omega, hlt, hge, rfl, ⟨fun h => (by cases h), fun h => by rw [List.getElem?_eq_none (by omega)] at h; cases h⟩, hv⟩)
theorem mem_at {l : List (List UInt8)} {t : List UInt8} {i : Nat} {b : Bool} (hlt : ∀ (j : Nat) z, j < i → l[j]? = some z → Op.bytesLess z t = true) (hge : ∀ (j : Nat) z, i ≤ j → l[j]? = some z → Op.bytesLess z t = false) (hs : SortedT l) (hb : b = true ↔ l[i]? = some t) : b = decide (t ∈ l) := by
 rw [Bool.eq_iff_iff, decide_eq_true_iff, hb]
 constructor
 ·intro h; exact List.mem_of_getElem? h
 intro h
 obtain ⟨j, hj⟩ := List.mem_iff_getElem?.1 h
 rcases Nat.lt_or_ge j i with h1 | h1
 ·have := hlt j t h1 hj; rw [lt_irrefl] at this; cases this
 rcases Nat.eq_or_lt_of_le h1 with rfl | h2
 ·exact hj
 obtain ⟨z, hz⟩ : ∃ z, l[i]? = some z := ⟨_, List.getElem?_eq_getElem (by have := (List.getElem?_eq_some_iff.1 hj).1; omega)⟩
 have h3 := hge i z (Nat.le_refl _) hz
 rw [pair_at hs h2 hz hj] at h3; cases h3
theorem t1callable89 : Callable Tryz.prog 89 := ⟨_, Tryz.func89, by kernel_rfl, by kernel_rfl⟩
set_option maxHeartbeats 2000000 in
theorem setHas (B : Base) (H : List Res) (w : World) (ad : Option Addr) (c : Nat) (l : List (List UInt8)) (t : List UInt8) (hr : RdV B [] ad (textCells l)) (hm : l.length ≤ 1000000) (hs : SortedT l) (hv : Inv B H w) :
  Calls Tryz.prog 67 #[.slice ad l.length c, vS t] w fun e w' => e = .returned (.bool (decide (t ∈ l))) ∧ Inv B H w' := by
 refine cW Tryz.func67 rfl Tryz.ntmps67 ?_
 simp only [al]
 refine sK fun _ k1 => rL (xA (.bool false) rfl ?_)
 simp only [zP, po]
 refine wK k1 (sK fun _ k2 => ?_)
 refine rL (xM (.slice ad l.length c) rfl ?_)
 refine xM (vS t) rfl (xC t1callable89 rfl ((binSearch B _ _ ad c l t hr hm hs hv).mono ?_) rfl)
 rintro e w3 ⟨i, b, -, hlt, hge, rfl, hb, hv⟩
 refine ⟨_, rfl, ?_⟩
 simp only [zP, po]
 refine xM (.tuple #[vI i, .bool b]) rfl (xG (vI i) rfl (ex_extract rfl rfl rfl) ?_)
 refine xG (.bool b) rfl (ex_extract rfl rfl rfl) ?_
 simp only [zP, po]
 refine xA (vI i) rfl (xA (.bool b) rfl ?_)
 simp only [zP, po]
 refine wK k2 (sK fun _ k4 => ?_)
 refine rL (xM (.bool b) rfl ?_)
 refine xA (.bool b) rfl ?_
 simp only [zP, po]
 refine wK k4 (rR ?_)
 refine bR rfl rfl (⟨congrArg (fun b => Ending.returned (Value.bool b)) (mem_at hlt hge hs hb), hv⟩)
theorem t1mk9 : (Tryz.prog.info? 9).map (fun i => (i.zero, i.size, i.bytes)) = some (some (vS []), 1, 16) := by kernel_rfl
theorem t1el22 : Elem Tryz.prog 22 9 (vS []) 1 16 := elem_of Tryz.underlying22 t1mk9 (by rfl) (by decide)
set_option maxHeartbeats 2000000 in
theorem cloneOwn1 (B : Base) (H : List Res) (w : World) (a : Addr) (n c : Nat) (xs : List Value) (hok : SliceOk (some a) n c) (hl : xs.length = n * 1) (h1 : ∀ u ∈ xs, u.oneCell' = true) (hn : n ≤ 1000000) (hr : RdV B [] (some a) xs) (hv : Inv B H w) :
  Calls Tryz.prog 83 #[.slice (some a) n c] w fun e w' => ∃ v, e = .returned v ∧ Inv B (Res.row 9 1 v n xs :: H) w' := by
 refine cW Tryz.func83 rfl Tryz.ntmps83 ?_
 simp only [al]
 refine sK fun _ k1 => rL (xA (vN) rfl ?_)
 simp only [zP, po]
 refine wK k1 (sK fun _ k2 => ?_)
 refine sK fun _ k3 => rL (xM (.slice (some a) n c) rfl ?_)
 refine xG (.bool false) rfl (ex_slnil Tryz.underlying22 rfl rfl rfl rfl) ?_
 simp only [zP, po]
 refine wK k3 (cF rfl ?_)
 refine kS (tK k2 ?_)
 refine sK fun _ k4 => rL (sl_row0 (size := 1) tV (wn rfl) rfl hv (e := 9) (fun w => by kernel_rfl) (fun b5 w6 hv => ?_))
 refine xM (.slice (some a) n c) rfl (sl_append (news := xs) tV (wn rfl) rfl rfl rfl t1el22 hv hok hl ((hr.more (Base.Le.refl _) (fun _ h => by cases h)).src hv) (h1) (by unfold maxLen; omega) (by omega) (fun rv7 w10 hv => ?_))
 obtain ⟨ra8, rc9, rfl⟩ := row_slice hv.head
 simp only [zP, po]
 refine xA (.slice ra8 (0 + n) rc9) rfl ?_
 simp only [zP, po]
 refine wK k4 (rR ?_)
 refine bR rfl rfl ?_
 rw [Nat.zero_add, List.nil_append] at hv
 exact ⟨_, by rw [Nat.zero_add]; rfl, hv⟩
theorem cloneOwn (B : Base) (H : List Res) (w : World) (ad : Option Addr) (n c : Nat) (xs : List Value) (hok : SliceOk ad n c) (hl : xs.length = n * 1) (h1 : ∀ u ∈ xs, u.oneCell' = true) (hn : n ≤ 1000000) (hr : RdV B [] ad xs) (hv : Inv B H w) :
  Calls Tryz.prog 83 #[.slice ad n c] w fun e w' => ∃ v, e = .returned v ∧ Inv B (Res.row 9 1 v n xs :: H) w' := by
 cases ad with
 | none =>
  have hc0 : c = 0 := hok.nil rfl
  have hn0 : n = 0 := by have := hok.le; omega
  subst hc0 hn0
  have hx : xs = [] := List.eq_nil_of_length_eq_zero (by simpa using hl)
  subst hx
  refine (cloneTexts0 B H w hv).mono ?_
  rintro e w' ⟨rfl, hv⟩
  exact ⟨_, rfl, hv.rowNil _ _⟩
 | some a => exact cloneOwn1 B H w a n c xs hok hl h1 hn hr hv
theorem t1callable101 : Callable Tryz.prog 101 := ⟨_, Tryz.func101, by kernel_rfl, by kernel_rfl⟩
theorem t1callable102 : Callable Tryz.prog 102 := ⟨_, Tryz.func102, by kernel_rfl, by kernel_rfl⟩
set_option maxHeartbeats 2000000 in
theorem setOrdered (B : Base) (H : List Res) (w : World) (ad : Option Addr) (c : Nat) (l : List (List UInt8)) (hok : SliceOk ad l.length c) (hr : RdV B [] ad (textCells l)) (hm : l.length ≤ 1000000) (hv : Inv B H w) :
  Calls Tryz.prog 88 #[.slice ad l.length c] w fun e w' => ∃ C oa oc out, B.Le C ∧ e = .returned (.slice oa out.length oc) ∧ SliceOk oa out.length oc ∧ RdV C [] oa (textCells out) ∧ SortedT out ∧ (∀ x, x ∈ out ↔ x ∈ l) ∧ out.length ≤ l.length ∧ Inv C H w' := by
 refine cW Tryz.func88 rfl Tryz.ntmps88 ?_
 simp only [al]
 refine sK fun _ k1 => rL (xA (vN) rfl ?_)
 simp only [zP, po]
 refine wK k1 (sK fun _ k2 => ?_)
 refine rL (xM (.slice ad l.length c) rfl ?_)
 refine xC s1callable83 rfl ((cloneOwn B _ _ ad l.length c (textCells l) hok (textCells_len _) (textCells_one _) hm hr hv).mono ?_) rfl
 rintro e w3 ⟨v, rfl, hv⟩
 refine ⟨_, rfl, ?_⟩
 obtain ⟨va, vc, rfl⟩ := row_slice hv.head
 refine xA (.slice va l.length vc) rfl ?_
 simp only [zP, po]
 refine wK k2 (sK fun _ k4 => ?_)
 refine rL (xM (.slice va l.length vc) rfl ?_)
 refine xC t1callable101 rfl ((sortTexts B _ _ _ l hm hv).mono ?_) rfl
 rintro e w5 ⟨rfl, hv⟩
 refine ⟨_, rfl, ?_⟩
 simp only [zP, po]
 refine wK k4 (sK fun _ k6 => ?_)
 refine rL (xM (.slice va l.length vc) rfl ?_)
 have hms : (l.mergeSort leB).Pairwise (fun a b => leB a b = true) := List.pairwise_mergeSort (fun a b c h1 h2 => by simp only [leB, decide_eq_true_eq] at *; exact List.le_trans h1 h2) (fun a b => by simp only [leB, Bool.or_eq_true, decide_eq_true_eq]; exact List.le_total a b) _
 have hml : (l.mergeSort leB).length = l.length := by simp
 rw [← hml] at hv
 refine xC t1callable102 rfl ((compactSorted B _ _ _ (l.mergeSort leB) (by omega) hms (by rw [hml] at hv ⊢; exact hv)).mono ?_) rfl
 rintro e w7 ⟨C, oa, oc, out, hC, rfl, hok2, hrd, hso, hmem, hle, hv⟩
 refine ⟨_, rfl, ?_⟩
 refine xA (.slice oa out.length oc) rfl ?_
 simp only [zP, po]
 refine wK k6 (rR ?_)
 refine bR rfl rfl (⟨C, oa, oc, out, hC, rfl, hok2, hrd, hso, fun x => by rw [hmem, List.mem_mergeSort], by omega, hv⟩)
end Go.Proofs.YtoljdfjnannakaaGreatDoor
/- A part of a row that stays. -/
namespace Go.Pm
open Go.RowKit
theorem RdV.shift {B : Base} {H : List Res} {b off : Nat} {xs : List Value} (h : RdV B H (some ⟨b, off, none⟩) xs) (k : Nat) : RdV B H (some ⟨b, off + k, none⟩) (xs.drop k) := fun i hi => by
 rw [List.length_drop] at hi
 obtain ⟨b', off', h1, h2⟩ := h (k + i) (by omega)
 cases h1
 refine ⟨b, off + k, rfl, ?_⟩
 rw [List.getElem_drop, Nat.add_assoc]
 exact h2
theorem rdV_nil_any (B : Base) (ad : Option Addr) : RdV B [] ad [] := fun i hi => by simp at hi
theorem sliced_rdV {B : Base} {ad : Option Addr} {n c k : Nat} {xs : List Value} (size : Nat) (hr : RdV B [] ad xs) (hl : xs.length = n * size) (hn : n ≤ c) (hk : k ≤ n) (hz : 0 < size) : ∃ a2, sliced ad k n c size = .slice a2 (n - k) (c - k) ∧ RdV B [] a2 (xs.drop (k * size)) := by
 rcases Nat.lt_or_ge k n with h | h
 ·have h1 : 0 < xs.length := by rw [hl]; exact Nat.mul_pos (by omega) hz
  obtain ⟨b, off, rfl, -⟩ := hr 0 h1
  refine ⟨some ⟨b, off + k * size, none⟩, ?_, hr.shift _⟩
  unfold sliced
  rw [if_neg (by omega), Option.map_some, addr_add]
 obtain rfl : k = n := by omega
 have hd : xs.drop (k * size) = [] := List.drop_of_length_le (by omega)
 refine ⟨_, rfl, ?_⟩
 rw [hd]
 exact rdV_nil_any _ _
end Go.Pm
/- The reference's index: keys and chains that stay; what a search finds, what is set. -/
namespace Go.Pm
open Go.RowKit
section
variable {M : Model} {key : List UInt8} {l : List Ver} {k : Nat} {ok : Bool}
end
theorem sliced_hiV {B : Base} {ad : Option Addr} {n c h : Nat} {xs : List Value} (size : Nat) (hok : SliceOk ad n c) (hr : RdV B [] ad xs) (hl : xs.length = n * size) (hh : h ≤ n) : ∃ a2, sliced ad 0 h c size = .slice a2 h c ∧ SliceOk a2 h c ∧ RdV B [] a2 (xs.take (h * size)) := by
 have hle := hok.le
 unfold sliced
 by_cases hc : c = 0
 ·rw [if_pos hc]
  refine ⟨ad, by simp, ⟨by omega, hok.max, hok.nil⟩, ?_⟩
  have : xs = [] := List.eq_nil_of_length_eq_zero (by rw [hl, show n = 0 by omega, Nat.zero_mul])
  rw [this, List.take_nil]
  exact rdV_nil_any _ _
 rw [if_neg hc]
 refine ⟨ad, ?_, ⟨by omega, hok.max, hok.nil⟩, fun i hi => ?_⟩
 ·cases ad with
  | none => exact absurd (hok.nil rfl) hc
  | some a =>
   obtain ⟨b, o, p⟩ := a
   simp only [Nat.zero_mul, Option.map_some, Nat.sub_zero]
   rfl
 rw [List.length_take] at hi
 obtain ⟨b, off, h1, h2⟩ := hr i (by omega)
 refine ⟨b, off, h1, ?_⟩
 rw [List.getElem_take]
 exact h2
theorem sliced_fromV {B : Base} {ad : Option Addr} {n c k : Nat} {xs : List Value} (size : Nat) (hok : SliceOk ad n c) (hr : RdV B [] ad xs) (hl : xs.length = n * size) (hk : k ≤ n) (hz : 0 < size) : ∃ a2 c2, sliced ad k n c size = .slice a2 (n - k) c2 ∧ SliceOk a2 (n - k) c2 ∧ RdV B [] a2 (xs.drop (k * size)) := by
 have hle := hok.le
 have hmx := hok.max
 rcases Nat.lt_or_ge k n with h | h
 ·obtain ⟨a2, h1, h2⟩ := sliced_rdV size hr hl hle hk hz
  refine ⟨a2, c - k, h1, ⟨by omega, by unfold maxLen at hmx ⊢; omega, fun e => ?_⟩, h2⟩
  subst e
  have hlt : 0 < (xs.drop (k * size)).length := by
   rw [List.length_drop, hl]
   have := Nat.mul_lt_mul_of_pos_right h hz
   omega
  obtain ⟨b, off, h3, -⟩ := h2 0 hlt
  cases h3
 obtain rfl : k = n := by omega
 have hd : xs.drop (k * size) = [] := List.drop_of_length_le (by omega)
 rw [hd]
 unfold sliced
 by_cases hc : c = k
 ·rw [if_pos hc]
  exact ⟨ad, c - k, rfl, ⟨by omega, by unfold maxLen at hmx ⊢; omega, fun _ => by omega⟩, rdV_nil_any _ _⟩
 rw [if_neg hc]
 refine ⟨_, c - k, rfl, ⟨by omega, by unfold maxLen at hmx ⊢; omega, fun e => ?_⟩, rdV_nil_any _ _⟩
 cases ad with
 | none => have := hok.nil rfl; omega
 | some a => cases e
section
variable {P : Program} {t : TypeId} {w : World}
theorem run_hiAny {ad : Option Addr} {n c h size : Nat} (ht : P.underlying t = some (.slice (P.elem t))) (hs : ∀ w, (sizeOf (P.elem t)).run P w = .ok size w) (h1 : h ≤ c) :
  (Instr.sliceAt t (.slice ad n c) none (some (.int .i64 (h : Int))) none).run P w = .ok (sliced ad 0 h c size) w := by
 rw [run_sliceAt_slice w t _ _ _ _ ht, run_slice_h w t _ n c ht .i64 h (by omega) (by omega), hs]
 simp only [Result.andThen, Int.toNat_natCast]
end
end Go.Pm
/- Sets: joined, cut, met. -/
namespace Go.Proofs.YtoljdfjnannakaaGreatDoor
open Go.RowKit Go.Pm Go.Sort
theorem text_snoc (l : List (List UInt8)) (x : List UInt8) : textCells l ++ [strV x] = textCells (l ++ [x]) := by simp [textCells]
theorem text_app (l k : List (List UInt8)) : textCells l ++ textCells k = textCells (l ++ k) := by simp [textCells]
theorem row_snoc {B : Base} {H : List Res} {w : World} {out : List (List UInt8)} {x : List UInt8} {ra : Option Addr} {rc : Nat} (h : Inv B (Res.row 9 1 (.slice ra (out.length + 1) rc) (out.length + 1) (textCells out ++ [strV x]) :: H) w) : Inv B (Res.row 9 1 (.slice ra (out ++ [x]).length rc) (out ++ [x]).length (textCells (out ++ [x])) :: H) w := by
 rw [text_snoc] at h
 rw [List.length_append, List.length_singleton]; exact h
def diffS (s : List (List UInt8)) (ss : List (List (List UInt8))) : List (List UInt8) := s.filter fun x => !(ss.any fun l => decide (x ∈ l))
def interS (s : List (List UInt8)) (ss : List (List (List UInt8))) : List (List UInt8) := s.filter fun x => ss.all fun l => decide (x ∈ l)
def JoinAll (ss : List (List (List UInt8))) (out : List (List UInt8)) : Prop := SortedT out ∧ ∀ x, x ∈ out ↔ ∃ s ∈ ss, x ∈ s
def AddR (s xs out : List (List UInt8)) (n ec : Int) : Prop :=
 (ec = 12 ∧ n = 0 ∧ out = [] ∧ ∃ x ∈ xs, 4096 < x.length) ∨ ((∀ x ∈ xs, x.length ≤ 4096) ∧ ∃ j, JoinS s xs j ∧ ((ec = 22 ∧ n = 0 ∧ out = [] ∧ 512 < j.length) ∨ (ec = 0 ∧ j.length ≤ 512 ∧ out = j ∧ n = (j.length : Int) - s.length)))
theorem filter_next {α : Type} {l : List α} {i : Nat} {x : α} {p : α → Bool} (h : l[i]? = some x) : (l.take (i + 1)).filter p = (l.take i).filter p ++ (if p x then [x] else []) := by
 rw [take_next h, List.filter_append]
 by_cases hp : p x <;> simp [hp]
theorem filter_yes {α : Type} {l : List α} {i : Nat} {x : α} {p : α → Bool} (h : l[i]? = some x) (hp : p x = true) : (l.take (i + 1)).filter p = (l.take i).filter p ++ [x] := by rw [filter_next h, if_pos hp]
theorem filter_no {α : Type} {l : List α} {i : Nat} {x : α} {p : α → Bool} (h : l[i]? = some x) (hp : ¬ p x = true) : (l.take (i + 1)).filter p = (l.take i).filter p := by rw [filter_next h, if_neg hp, List.append_nil]
theorem any_long {xs : List (List UInt8)} (h : (xs.any fun s => decide (s.length > 4096)) = true) : ∃ x ∈ xs, 4096 < x.length := by
 obtain ⟨x, h1, h2⟩ := List.any_eq_true.1 h
 exact ⟨x, h1, of_decide_eq_true h2⟩
theorem no_long {xs : List (List UInt8)} (h : (xs.any fun s => decide (s.length > 4096)) = false) : ∀ x ∈ xs, x.length ≤ 4096 := fun x hx => by
 have := List.any_eq_false.1 h x hx
 simp at this; exact this
theorem join_of {s fr xs out : List (List UInt8)} (h : JoinS s fr out) (hm : ∀ x, x ∈ fr ↔ x ∈ xs) : JoinS s xs out := ⟨h.1, fun x => by rw [h.2, hm]⟩
theorem text_drop (l : List (List UInt8)) (i : Nat) : (textCells l).drop i = textCells (l.drop i) := by simp [textCells]
theorem ok_nil : SliceOk none 0 0 := ⟨Nat.le_refl _, Nat.zero_le _, fun _ => rfl⟩
theorem t2callable88 : Callable Tryz.prog 88 := ⟨_, Tryz.func88, by kernel_rfl, by kernel_rfl⟩
theorem t2mk9 : (Tryz.prog.info? 9).map (fun i => (i.zero, i.size, i.bytes)) = some (some (vS []), 1, 16) := by kernel_rfl
theorem t2el22 : Elem Tryz.prog 22 9 (vS []) 1 16 := elem_of Tryz.underlying22 t2mk9 (by rfl) (by decide)
set_option maxHeartbeats 8000000 in
theorem setAdd (B : Base) (H : List Res) (w : World) (sa xa : Option Addr) (sc xc : Nat) (s xs : List (List UInt8)) (hoks : SliceOk sa s.length sc) (hrs : RdV B [] sa (textCells s)) (hs : SortedT s) (hms : s.length ≤ 10000) (hokx : SliceOk xa xs.length xc) (hrx : RdV B [] xa (textCells xs)) (hmx0 : xs.length ≤ 10000) (hv : Inv B H w) :
  Calls Tryz.prog 64 #[.slice sa s.length sc, .slice xa xs.length xc] w fun e w' => ∃ C oa oc out n ec, B.Le C ∧ e = .returned (.tuple #[.slice oa out.length oc, vI n, vI ec]) ∧ SliceOk oa out.length oc ∧ RdV C [] oa (textCells out) ∧ AddR s xs out n ec ∧ Inv C H w' := by
 have hmx : xs.length ≤ 1000000 := by omega
 refine cW Tryz.func64 rfl Tryz.ntmps64 ?_
 simp only [al]
 refine sK fun _ k1 => rL (xA (vN) rfl ?_)
 refine xA (vI 0) rfl (xA (vI 0) rfl ?_)
 simp only [zP, po]
 refine wK k1 (sK fun _ k2 => ?_)
 refine sK fun _ k3 => rL (xM (.slice xa xs.length xc) rfl ?_)
 refine xC s9callable86 rfl ((containsFuncText B _ _ 87 #[] xa xc xs (fun s : List UInt8 => decide (s.length > 4096)) hrx hmx s10callable87 (fun x _ w hv => setLong B _ w x hv) hv).mono ?_) rfl
 rintro e w4 ⟨rfl, hv⟩
 refine ⟨_, rfl, ?_⟩
 simp only [zP, po]
 refine wK k3 (wpIn_cond_split (t := xs.any (fun s : List UInt8 => decide (s.length > 4096))) rfl (fun hc5 => ?_) (fun hc5 => ?_))
 ·refine sK fun _ k6 => rL (xA (vN) rfl ?_)
  refine xA (vI 0) rfl (xA (vI 12) rfl ?_)
  simp only [zP, po]
  refine wK k6 (rR ?_)
  refine tR (bodyPost_ret (results_tmp3 rfl _ _ _) rfl ?_)
  exact ⟨B, none, 0, [], 0, 12, Base.Le.refl _, rfl, ok_nil, rdV_nil, .inl ⟨rfl, rfl, rfl, any_long hc5⟩, hv⟩
 refine kS (tK k2 ?_)
 refine sK fun _ k7 => rL (xM (.slice xa xs.length xc) rfl ?_)
 refine xC t2callable88 rfl ((setOrdered B _ _ xa xc xs hokx hrx hmx hv).mono ?_) rfl
 rintro e w8 ⟨C, fa, fc, fr, hC, rfl, hokf, hrf, hsf, hmf, hlf, hv⟩
 refine ⟨_, rfl, ?_⟩
 refine xA (.slice fa fr.length fc) rfl ?_
 simp only [zP, po]
 refine wK k7 (sK fun _ k9 => ?_)
 refine rL (xM (.slice sa s.length sc) rfl ?_)
 refine xG (vI (s.length : Int)) rfl (ex_len0 Tryz.underlying22 rfl rfl) (xM (.slice fa fr.length fc) rfl ?_)
 simp only [zP, po]
 refine xG (vI (fr.length : Int)) rfl (ex_len0 Tryz.underlying22 rfl rfl) (xG (vI ((s.length + fr.length : Nat) : Int)) rfl (ex_add rfl rfl rfl (by rw [i64_in (by omega)]; omega)) ?_)
 refine sl_makeRow (cap := (s.length + fr.length : Nat)) tV (wn rfl) rfl rfl rfl t2el22 (by unfold maxLen; omega) (by omega) hv (fun b10 w11 hv => ?_)
 simp only [zP, po]
 refine xA (.slice (some ⟨b10, 0, none⟩) 0 (s.length + fr.length : Nat)) rfl ?_
 simp only [zP, po]
 refine wK k9 (sK fun _ k12 => ?_)
 refine rL (xA (vI 0) rfl ?_)
 simp only [zP, po]
 refine wK k12 (sK fun _ k13 => ?_)
 refine sK fun _ k14 => rL (xM (.slice fa fr.length fc) rfl ?_)
 refine xG (vI (fr.length : Int)) rfl (ex_len0 Tryz.underlying22 rfl rfl) (xM (vI 0) rfl ?_)
 simp only [zP, po]
 refine wK k14 (bB ?_)
 gi_loopw [24, 9, 8] (fun x24 x9 x8 wr => ∃ (j i : Nat) (out : List (List UInt8)) (ra : Option Addr) (rc : Nat), x24 = vI j ∧ x9 = vI i ∧ x8 = .slice ra out.length rc ∧ j ≤ fr.length ∧ i ≤ s.length ∧ AddI s fr i j out ∧ Inv C (Res.row 9 1 (.slice ra out.length rc) out.length (textCells out) :: H) wr) (fun x24 x9 x8 _ => fr.length - (intOf x24).toNat)
 case atStart => exact ⟨0, 0, [], _, _, rfl, rfl, rfl, Nat.zero_le _, Nat.zero_le _, AddI.nil, hv⟩
 case round =>
  obtain ⟨j, i, out, ra, rc, rfl, rfl, rfl, hj, hi, hA, hv⟩ := hrel
  refine sK fun _ k16 => rL ?_
  by_cases hb17 : (j : Int) < (fr.length : Int)
  ·refine xG (.bool true) rfl (ex_lss rfl rfl rfl (qT hb17)) ?_
   simp only [zP, po]
   refine wK k16 (sK fun _ k18 => ?_)
   refine cT rfl (kS ?_)
   refine tK k18 (sK fun _ k19 => ?_)
   refine bB (sK fun _ k20 => ?_)
   obtain ⟨x, hx⟩ : ∃ x, fr[j]? = some x := ⟨_, List.getElem?_eq_getElem (show j < fr.length by omega)⟩
   obtain ⟨fb, fo, had, hrdx⟩ := text_reads hrf hx
   subst had
   refine rL (xG (.pointer (some ⟨fb, fo + j, none⟩)) rfl (ex_index rfl rfl rfl (run_idx1 (k := j) Tryz.underlying22 s9es22 (by omega))) ?_)
   refine xL _ rfl (run_load1 s9na9 (hrdx _ _ _ (Base.Le.refl _) no_res hv 0 _ rfl)) (xA (vS x) rfl ?_)
   simp only [zP, po]
   refine wK k20 (sK fun _ k21 => ?_)
   refine bB ?_
   gi_loopw [9, 8] (fun x9 x8 wr => ∃ (i : Nat) (out : List (List UInt8)) (ra : Option Addr) (rc : Nat), x9 = vI i ∧ x8 = .slice ra out.length rc ∧ i ≤ s.length ∧ AddI s fr i j out ∧ Inv C (Res.row 9 1 (.slice ra out.length rc) out.length (textCells out) :: H) wr) (fun x9 x8 _ => s.length - (intOf x9).toNat)
   case atStart => exact ⟨i, out, _, _, rfl, rfl, hi, hA, hv⟩
   case round =>
    obtain ⟨i, out, ra, rc, rfl, rfl, hi, hA, hv⟩ := hrel
    refine sK fun _ k23 => sK fun _ k24 => rL (xM (vI i) rfl ?_)
    refine xM (.slice sa s.length sc) rfl (xG (vI (s.length : Int)) rfl (ex_len0 Tryz.underlying22 rfl rfl) ?_)
    simp only [zP, po]
    by_cases hb25 : (i : Int) < (s.length : Int)
    ·obtain ⟨z, hz⟩ : ∃ x, s[i]? = some x := ⟨_, List.getElem?_eq_getElem (show i < s.length by omega)⟩
     obtain ⟨sb, so, had, hrdz⟩ := text_reads hrs hz
     subst had
     skip
     refine xG (.bool true) rfl (ex_lss rfl rfl rfl (qT hb25)) (xM (.bool true) rfl ?_)
     refine xM (.slice (some ⟨sb, so, none⟩) s.length sc) rfl ?_
     simp only [zP, po]
     refine xM (vI i) rfl (xG (.pointer (some ⟨sb, so + i, none⟩)) rfl (ex_index rfl rfl rfl (run_idx1 (k := i) Tryz.underlying22 s9es22 (by omega))) ?_)
     refine xL _ rfl (run_load1 s9na9 (hrdz _ _ _ hC no_res hv 0 _ rfl)) ?_
     simp only [zP, po]
     refine xM (vS x) rfl (xG (.bool (Op.bytesLess z x)) rfl (ex_slss rfl rfl rfl rfl) ?_)
     refine xK true (.bool (Op.bytesLess z x)) rfl ?_
     simp only [zP, po]
     refine wK k24 (wpIn_cond_split (t := Op.bytesLess z x) rfl (fun hc26 => ?_) (fun hc26 => ?_))
     ·refine kS (tK k23 ?_)
      refine bB (sK fun _ k27 => ?_)
      refine rL (xM (.slice ra out.length rc) rfl ?_)
      refine xM (.slice (some ⟨sb, so, none⟩) s.length sc) rfl (xM (vI i) rfl ?_)
      simp only [zP, po]
      refine xG (.pointer (some ⟨sb, so + i, none⟩)) rfl (ex_index rfl rfl rfl (run_idx1 (k := i) Tryz.underlying22 s9es22 (by omega))) (xL _ rfl (run_load1 s9na9 (hrdz _ _ _ hC no_res hv 0 _ rfl)) ?_)
      refine sl_rowOne (v := vS z) tV (wn rfl) rfl rfl hv t2el22 rfl (fun b28 w29 hv => ?_)
      simp only [zP, po]
      replace hv := hv.front 1 rfl
      simp only [eS, eZ] at hv
      refine sl_append (news := [vS z]) tV (wn rfl) rfl rfl rfl t2el22 hv (ok_full (by omega)) rfl (rd_all (hv.get 1 rfl)) (by intro u hu; simp only [List.mem_cons, List.not_mem_nil, or_false] at hu; rcases hu with rfl <;> rfl) (by have := hA.len; unfold maxLen; omega) (by have := hA.len; omega) (fun rv30 w33 hv => ?_)
      obtain ⟨ra31, rc32, rfl⟩ := row_slice hv.head
      refine xA (.slice ra31 (out.length + 1) rc32) rfl ?_
      simp only [zP, po]
      refine wK k27 (rL ?_)
      refine xM (vI i) rfl (xG (vI ((i + 1 : Nat) : Int)) rfl (ex_add rfl rfl rfl (by rw [i64_in (by omega)]; omega)) ?_)
      refine xA (vI ((i + 1 : Nat) : Int)) rfl (wL ?_)
      simp only [zP, po]
      refine bN (then_normal ?_)
      go_roundw
      case rel => exact ⟨i + 1, out ++ [z], _, _, rfl, by rw [List.length_append, List.length_singleton], by omega, hA.low hs hsf hz hx hc26, row_snoc (hv.kp [] 1 1)⟩
      case measure => show s.length - (((i + 1 : Nat) : Int)).toNat < s.length - ((i : Int)).toNat; omega
     refine xE (tX ?_)
     refine tX (bH ?_)
     refine tK k21 (sK fun _ k34 => ?_)
     refine sK fun _ k35 => rL (xM (vI i) rfl ?_)
     refine xM (.slice (some ⟨sb, so, none⟩) s.length sc) rfl (xG (vI (s.length : Int)) rfl (ex_len0 Tryz.underlying22 rfl rfl) ?_)
     simp only [zP, po]
     refine xG (.bool true) rfl (ex_lss rfl rfl rfl (qT hb25)) (xM (.bool true) rfl ?_)
     refine xM (.slice (some ⟨sb, so, none⟩) s.length sc) rfl ?_
     simp only [zP, po]
     refine xM (vI i) rfl (xG (.pointer (some ⟨sb, so + i, none⟩)) rfl (ex_index rfl rfl rfl (run_idx1 (k := i) Tryz.underlying22 s9es22 (by omega))) ?_)
     refine xL _ rfl (run_load1 s9na9 (hrdz _ _ _ hC no_res hv 0 _ rfl)) ?_
     simp only [zP, po]
     refine xM (vS x) rfl ?_
     by_cases hb36 : z = x
     ·refine xG (.bool true) rfl (ex_seql rfl rfl rfl (qT hb36)) (xK true (.bool true) rfl ?_)
      simp only [zP, po]
      refine wK k35 (cT rfl ?_)
      refine rL (xM (vI i) rfl ?_)
      refine xG (vI ((i + 1 : Nat) : Int)) rfl (ex_add rfl rfl rfl (by rw [i64_in (by omega)]; omega)) (xA (vI ((i + 1 : Nat) : Int)) rfl ?_)
      simp only [zP, po]
      refine wK k34 (rL ?_)
      refine xM (.slice ra out.length rc) rfl (xM (vS x) rfl ?_)
      refine sl_rowOne (v := vS x) tV (wn rfl) rfl rfl hv t2el22 rfl (fun b37 w38 hv => ?_)
      simp only [zP, po]
      replace hv := hv.front 1 rfl
      simp only [eS, eZ] at hv
      refine sl_append (news := [vS x]) tV (wn rfl) rfl rfl rfl t2el22 hv (ok_full (by omega)) rfl (rd_all (hv.get 1 rfl)) (by intro u hu; simp only [List.mem_cons, List.not_mem_nil, or_false] at hu; rcases hu with rfl <;> rfl) (by have := hA.len; unfold maxLen; omega) (by have := hA.len; omega) (fun rv39 w42 hv => ?_)
      obtain ⟨ra40, rc41, rfl⟩ := row_slice hv.head
      refine xA (.slice ra40 (out.length + 1) rc41) rfl (wL ?_)
      simp only [zP, po]
      refine bN (tK k19 ?_)
      refine rL (xG (vI ((j + 1 : Nat) : Int)) rfl (ex_add rfl rfl rfl (by rw [i64_in (by omega)]; omega)) ?_)
      refine xM (vI ((j + 1 : Nat) : Int)) rfl (wL ?_)
      simp only [zP, po]
      refine then_normal ?_
      go_roundw
      case rel => exact ⟨j + 1, _, out ++ [x], _, _, rfl, rfl, by rw [List.length_append, List.length_singleton], by omega, by omega, hA.put hs hsf hx (.inr ⟨rfl, by rw [hz, hb36]⟩), row_snoc (hv.kp [] 1 1)⟩
      case measure => show fr.length - (((j + 1 : Nat) : Int)).toNat < fr.length - ((j : Int)).toNat; omega
     refine xG (.bool false) rfl (ex_seql rfl rfl rfl (qF hb36)) (xK true (.bool false) rfl ?_)
     simp only [zP, po]
     refine wK k35 (cF rfl ?_)
     refine kS (tK k34 ?_)
     refine rL (xM (.slice ra out.length rc) rfl ?_)
     refine xM (vS x) rfl (sl_rowOne (v := vS x) tV (wn rfl) rfl rfl hv t2el22 rfl (fun b43 w44 hv => ?_))
     simp only [zP, po]
     replace hv := hv.front 1 rfl
     simp only [eS, eZ] at hv
     refine sl_append (news := [vS x]) tV (wn rfl) rfl rfl rfl t2el22 hv (ok_full (by omega)) rfl (rd_all (hv.get 1 rfl)) (by intro u hu; simp only [List.mem_cons, List.not_mem_nil, or_false] at hu; rcases hu with rfl <;> rfl) (by have := hA.len; unfold maxLen; omega) (by have := hA.len; omega) (fun rv45 w48 hv => ?_)
     obtain ⟨ra46, rc47, rfl⟩ := row_slice hv.head
     refine xA (.slice ra46 (out.length + 1) rc47) rfl (wL ?_)
     simp only [zP, po]
     refine bN (tK k19 ?_)
     refine rL (xG (vI ((j + 1 : Nat) : Int)) rfl (ex_add rfl rfl rfl (by rw [i64_in (by omega)]; omega)) ?_)
     refine xM (vI ((j + 1 : Nat) : Int)) rfl (wL ?_)
     simp only [zP, po]
     refine then_normal ?_
     go_roundw
     case rel => exact ⟨j + 1, _, out ++ [x], _, _, rfl, rfl, by rw [List.length_append, List.length_singleton], by omega, by omega, hA.put hs hsf hx (.inl ⟨rfl, fun z9 hz9 => by rw [hz] at hz9; cases hz9; exact ⟨hc26, hb36⟩⟩), row_snoc (hv.kp [] 1 1)⟩
     case measure => show fr.length - (((j + 1 : Nat) : Int)).toNat < fr.length - ((j : Int)).toNat; omega
    refine xG (.bool false) rfl (ex_lss rfl rfl rfl (qF hb25)) (xM (.bool false) rfl ?_)
    refine yP rfl ?_
    simp only [zP, po]
    refine yP rfl (yP rfl ?_)
    refine yP rfl ?_
    simp only [zP, po]
    refine yP rfl (yP rfl ?_)
    refine xK false (.bool false) rfl ?_
    simp only [zP, po]
    refine wK k24 (cF rfl ?_)
    refine xE (tX ?_)
    refine tX (bH ?_)
    refine tK k21 (sK fun _ k49 => ?_)
    refine sK fun _ k50 => rL (xM (vI i) rfl ?_)
    refine xM (.slice sa s.length sc) rfl (xG (vI (s.length : Int)) rfl (ex_len0 Tryz.underlying22 rfl rfl) ?_)
    simp only [zP, po]
    refine xG (.bool false) rfl (ex_lss rfl rfl rfl (qF hb25)) (xM (.bool false) rfl ?_)
    refine yP rfl ?_
    simp only [zP, po]
    refine yP rfl (yP rfl ?_)
    refine yP rfl ?_
    simp only [zP, po]
    refine yP rfl (yP rfl ?_)
    refine xK false (.bool false) rfl ?_
    simp only [zP, po]
    refine wK k50 (cF rfl ?_)
    refine kS (tK k49 ?_)
    refine rL (xM (.slice ra out.length rc) rfl ?_)
    refine xM (vS x) rfl (sl_rowOne (v := vS x) tV (wn rfl) rfl rfl hv t2el22 rfl (fun b51 w52 hv => ?_))
    simp only [zP, po]
    replace hv := hv.front 1 rfl
    simp only [eS, eZ] at hv
    refine sl_append (news := [vS x]) tV (wn rfl) rfl rfl rfl t2el22 hv (ok_full (by omega)) rfl (rd_all (hv.get 1 rfl)) (by intro u hu; simp only [List.mem_cons, List.not_mem_nil, or_false] at hu; rcases hu with rfl <;> rfl) (by have := hA.len; unfold maxLen; omega) (by have := hA.len; omega) (fun rv53 w56 hv => ?_)
    obtain ⟨ra54, rc55, rfl⟩ := row_slice hv.head
    refine xA (.slice ra54 (out.length + 1) rc55) rfl (wL ?_)
    simp only [zP, po]
    refine bN (tK k19 ?_)
    refine rL (xG (vI ((j + 1 : Nat) : Int)) rfl (ex_add rfl rfl rfl (by rw [i64_in (by omega)]; omega)) ?_)
    refine xM (vI ((j + 1 : Nat) : Int)) rfl (wL ?_)
    simp only [zP, po]
    refine then_normal ?_
    go_roundw
    case rel => exact ⟨j + 1, _, out ++ [x], _, _, rfl, rfl, by rw [List.length_append, List.length_singleton], by omega, by omega, hA.put hs hsf hx (.inl ⟨rfl, fun z9 hz9 => by rw [List.getElem?_eq_none (by omega)] at hz9; cases hz9⟩), row_snoc (hv.kp [] 1 1)⟩
    case measure => show fr.length - (((j + 1 : Nat) : Int)).toNat < fr.length - ((j : Int)).toNat; omega
  refine xG (.bool false) rfl (ex_lss rfl rfl rfl (qF hb17)) ?_
  simp only [zP, po]
  refine wK k16 (sK fun _ k57 => ?_)
  refine cF rfl (xE ?_)
  refine tX (tX ?_)
  refine bH (tK k13 ?_)
  refine sK fun _ k58 => ?_
  obtain rfl : j = fr.length := by omega
  obtain ⟨a3, c3, ha3, ok3, hr3⟩ := sliced_fromV 1 hoks hrs (textCells_len s) hi (by decide)
  refine rL (xM (.slice ra out.length rc) rfl ?_)
  refine xM (.slice sa s.length sc) rfl (xM (vI i) rfl ?_)
  simp only [zP, po]
  refine xG (.slice a3 (s.length - i) c3) rfl (ex_slice (lo' := some (vI i)) rfl rfl (congrArg some rfl) rfl rfl ((run_fromAny Tryz.underlying22 s9es22 (by omega)).trans (by rw [ha3]))) (sl_append (news := (textCells s).drop (i * 1)) tV (wn rfl) rfl rfl rfl t2el22 hv ok3 (by rw [List.length_drop, textCells_len]; omega) ((hr3.more hC (fun _ h => by cases h) : RdV C _ _ _).src hv) (fun u hu => textCells_one _ u (List.mem_of_mem_drop hu)) (by have := hA.len; unfold maxLen; omega) (by have := hA.len; omega) (fun rv59 w62 hv => ?_))
  obtain ⟨ra60, rc61, rfl⟩ := row_slice hv.head
  refine xA (.slice ra60 (out.length + (s.length - i)) rc61) rfl ?_
  simp only [zP, po]
  refine wK k58 (sK fun _ k63 => ?_)
  refine sK fun _ k64 => ?_
  obtain ⟨D, hD, hv, hrj, hokj, -⟩ := (hv).rowBy
  have hJ := join_of (hA.fin hs) hmf
  have hjl : (out ++ s.drop i).length = out.length + (s.length - i) := by rw [List.length_append, List.length_drop]
  rw [Nat.mul_one, text_drop, text_app] at hrj
  have hAl := hA.len
  refine rL (xM (.slice ra60 (out.length + (s.length - i)) rc61) rfl ?_)
  refine xG (vI ((out.length + (s.length - i) : Nat) : Int)) rfl (ex_len0 Tryz.underlying22 rfl rfl) ?_
  by_cases hb65 : ((out.length + (s.length - i) : Nat) : Int) > 512
  ·refine xG (.bool true) rfl (ex_gtr rfl rfl rfl (qT hb65)) ?_
   simp only [zP, po]
   refine wK k64 (cT rfl ?_)
   refine sK fun _ k66 => rL (xA (vN) rfl ?_)
   refine xA (vI 0) rfl (xA (vI 22) rfl ?_)
   simp only [zP, po]
   refine wK k66 (rR ?_)
   refine tR (bodyPost_ret (results_tmp3 rfl _ _ _) rfl ?_)
   exact ⟨D, none, 0, [], 0, 22, (hC.trans hD), rfl, ok_nil, rdV_nil, .inr ⟨no_long hc5, _, hJ, .inl ⟨rfl, rfl, rfl, by rw [hjl]; omega⟩⟩, hv⟩
  refine xG (.bool false) rfl (ex_gtr rfl rfl rfl (qF hb65)) ?_
  simp only [zP, po]
  refine wK k64 (cF rfl ?_)
  refine kS (tK k63 ?_)
  refine sK fun _ k67 => rL (xM (.slice ra60 (out.length + (s.length - i)) rc61) rfl ?_)
  refine xM (.slice ra60 (out.length + (s.length - i)) rc61) rfl (xG (vI ((out.length + (s.length - i) : Nat) : Int)) rfl (ex_len0 Tryz.underlying22 rfl rfl) ?_)
  simp only [zP, po]
  refine xM (.slice sa s.length sc) rfl (xG (vI (s.length : Int)) rfl (ex_len0 Tryz.underlying22 rfl rfl) ?_)
  refine xG (vI (((out.length + (s.length - i) : Nat) : Int) - (s.length : Int))) rfl (ex_sub rfl rfl rfl (i64_in (by omega))) ?_
  simp only [zP, po]
  refine xA (.slice ra60 (out.length + (s.length - i)) rc61) rfl (xA (vI (((out.length + (s.length - i) : Nat) : Int) - (s.length : Int))) rfl ?_)
  refine xA (vI 0) rfl ?_
  simp only [zP, po]
  refine wK k67 (rR ?_)
  refine bodyPost_ret (results_tmp3 rfl _ _ _) rfl (⟨D, _, _, out ++ s.drop i, _, 0, (hC.trans hD), by rw [hjl]; rfl, by rw [hjl]; exact hokj, hrj, .inr ⟨no_long hc5, _, hJ, .inr ⟨rfl, by rw [hjl]; omega, rfl, by rw [hjl]⟩⟩, hv⟩)
end Go.Proofs.YtoljdfjnannakaaGreatDoor
