/- Views over a transaction: Of, Keep, May. -/
import Derived.Test.YtgbhdfpobgefgaaGreatDoorCzNamC
import Derived.Test.YtgbhdfpobgefgaaGreatDoorCzNamE
import Derived.Test.YtgbhdfpobgefgaaGreatDoorCzNamB
import Derived.Test.YtgbhdfpobgefgaaGreatDoorRows
import Derived.Test.YtgbhdfpobgefgaaGreatDoorCzNamD
import Derived.Shelf.Strconv.ParseIntPublic10
import Derived.Shelf.Strconv.Itoa4
import Derived.Ground.NamesProg
import Derived.Lib.ItoaNum
import Derived.Lib.AtoiAll
import Derived.Lib.ParseIntBTie
import Derived.Test.YtgbhdfpobgefgaaGreatDoorCzNamA
import Derived.LaidLaws
import Derived.LaidSub
import Derived.Laws.Strings2
import Derived.Laws.IdiomStrings
set_option maxRecDepth 100000
set_option maxHeartbeats 16000000
set_option synthInstance.maxSize 65536
set_option synthInstance.maxHeartbeats 4000000
namespace Go.Proofs.YtgbhdfpobgefgaaGreatDoor
open Go.RowKit Go.Pm
def FullV (x : Val) : Prop := x.kind = 1 ∨ 0 < x.pairs.length + x.texts.length + x.zset.length
def DeadM (M : List (List UInt8 × Ver)) (clk : Int) (k : List UInt8) : Prop := ∀ y, lookA M k = some y → aliveB y clk = false
def OfI (M : List (List UInt8 × Ver)) (clk : Int) (key : List UInt8) (kind : Int) (y : Ver) (ec : Int) : Prop :=
 (ec = 0 ∧ y = zver0 ∧ DeadM M clk key) ∨ (ec = 40 ∧ y = zver0 ∧ ∃ x, lookA M key = some x ∧ aliveB x clk = true ∧ x.val.kind ≠ kind) ∨ (ec = 0 ∧ lookA M key = some y ∧ aliveB y clk = true ∧ y.val.kind = kind)
def KeepI (M : List (List UInt8 × Ver)) (clk : Int) (key : List UInt8) (x : Val) (exp : Int) (ec : Int) (M' : List (List UInt8 × Ver)) : Prop :=
 (FullV x ∧ PutOk key x exp ∧ ec = 0 ∧ M' = updA M key ⟨0, false, exp, x⟩) ∨ (FullV x ∧ ¬ PutOk key x exp ∧ ec = 2 ∧ M' = M) ∨ (¬ FullV x ∧ DeadM M clk key ∧ ec = 0 ∧ M' = M) ∨
 (¬ FullV x ∧ (∃ y, lookA M key = some y ∧ aliveB y clk = true) ∧ ((key.length ≤ 256 ∧ ec = 0 ∧ M' = updA M key gver) ∨ (256 < key.length ∧ ec = 2 ∧ M' = M)))
def sizeV (x : Val) : Nat := if x.kind = 1 then x.text.length else x.pairs.length + x.texts.length + x.zset.length
theorem valAt_sl {B : Base} {v : Val} {p t z : Value} (h : ValAt B v p t z) : ∃ a b c i j k, p = .slice a v.pairs.length i ∧ t = .slice b v.texts.length j ∧ z = .slice c v.zset.length k := by
 obtain ⟨⟨a, i, h1, -⟩, ⟨b, j, h2, -⟩, ⟨c, k, h3, -⟩, -⟩ := h;exact ⟨a, b, c, i, j, k, h1, h2, h3⟩
theorem valueSize0 (B : Base) (H : List Res) (w : World) (x : Val) (a b c : Option Addr) (i j k : Nat) (hp : x.pairs.length ≤ 1000000) (ht : x.texts.length ≤ 1000000) (hz : x.zset.length ≤ 1000000) (hv : Inv B H w) :
  Calls Tryz.prog 61 #[.agg #[vI x.kind, vS x.text, .slice a x.pairs.length i, .slice b x.texts.length j, .slice c x.zset.length k]] w fun e w' => e = .returned (vI (sizeV x : Int)) ∧ Inv B H w' := by
 refine cW Tryz.func61 rfl Tryz.ntmps61 ?_;simp only [al];apply uN;intro _ _;refine sl_box (L := [vI x.kind, vS x.text, .slice a x.pairs.length i, .slice b x.texts.length j, .slice c x.zset.length k]) tV (wn rfl) rfl rfl hv (fun w => by kernel_rfl) (fun b2 w3 hv => ?_);apply uN;intro _ _ _ _;refine oF (vP b2) rfl (s12fa84_0 _ _ _) ?_;refine oL _ rfl (run_load1 s2na3 (hv.load 0 0 rfl rfl)) ?_;refine uB (fun hb6 => ?_) fun hb6 => ?_
 ·intro _ _;refine oF (.pointer (some ⟨b2, 1, none⟩)) rfl (s12fa84_1 _ _ _) ?_;refine oL _ rfl (run_load1 s9na9 (hv.load 0 1 rfl rfl)) ?_;refine oG (vI (x.text.length : Int)) rfl (ex_lenStr Tryz.underlying9 rfl rfl) ?_;refine bR rfl rfl ?_;exact ⟨congrArg (fun n : Int => Ending.returned (vI n)) (by unfold sizeV; split <;> omega), (hv.kp [] 0 1)⟩
 intro _ _;refine oF (.pointer (some ⟨b2, 2, none⟩)) rfl (s1fa84_2 _ _ _) ?_;refine oL _ rfl (run_load1 s1na81 (hv.load 0 2 rfl rfl)) ?_;refine oG (vI (x.pairs.length : Int)) rfl (ex_len0 Tryz.underlying81 rfl rfl) ?_;refine oF (.pointer (some ⟨b2, 3, none⟩)) rfl (s1fa84_3 _ _ _) ?_;refine oL _ rfl (run_load1 s1na22 (hv.load 0 3 rfl rfl)) ?_;refine oG (vI (x.texts.length : Int)) rfl (ex_len0 Tryz.underlying22 rfl rfl) ?_;refine oG (vI ((x.pairs.length : Int) + (x.texts.length : Int))) rfl (ex_add rfl rfl rfl (i64_in (by omega))) ?_;refine oF (.pointer (some ⟨b2, 4, none⟩)) rfl (s1fa84_4 _ _ _) ?_;refine oL _ rfl (run_load1 s1na82 (hv.load 0 4 rfl rfl)) ?_;refine oG (vI (x.zset.length : Int)) rfl (ex_len0 Tryz.underlying82 rfl rfl) ?_;refine oG (vI (((x.pairs.length : Int) + (x.texts.length : Int)) + (x.zset.length : Int))) rfl (ex_add rfl rfl rfl (i64_in (by omega))) ?_;refine bR rfl rfl (⟨congrArg (fun n : Int => Ending.returned (vI n)) (by unfold sizeV; split <;> omega), (hv.kp [] 0 1)⟩)
theorem valueSize (B : Base) (H : List Res) (w : World) (x : Val) (p t z : Value) (h : ValAt B x p t z) (hv : Inv B H w) : Calls Tryz.prog 61 #[.agg (valCells x p t z).toArray] w fun e w' => e = .returned (vI (sizeV x : Int)) ∧ Inv B H w' := by
 obtain ⟨a, b, c, i, j, k, rfl, rfl, rfl⟩ := valAt_sl h;exact valueSize0 B H w x a b c i j k h.pm h.tm h.zm hv
theorem v1al91 : AL Tryz.prog 91 [vI 0, .bool false, vI 0, vI 0, vS [], vN, vN, vN] := fun w => by kernel_rfl
theorem v1al58 : AL Tryz.prog 58 [vI 0] := fun w => by kernel_rfl
theorem v1fa38_0 : FA Tryz.prog 38 0 0 := fun w b o => by kernel_rfl
theorem v1na36 (w : World) : (isAgg 36).run Tryz.prog w = .ok false w := by kernel_rfl
theorem v1callable231 : Callable Tryz.prog 231 := cb Tryz.func231 (by kernel_rfl)
theorem v1sz58 : (Tryz.prog.info? 58).map (·.size) = some 1 := by kernel_rfl
theorem v1na58 (w : World) : (isAgg 58).run Tryz.prog w = .ok false w := by kernel_rfl
theorem v1callable107 : Callable Tryz.prog 107 := cb Tryz.func107 (by kernel_rfl)
theorem v1rec107 (n : Nat) (x0 x1 : Value) (w : World) : CallsDIn Fence.wide n Tryz.prog 107 #[x0, x1] .returning w fun e u' w' => e = .returned (.tuple #[]) ∧ u' = .returning ∧ w' = w := by
 refine callsDIn_of_wpSIn Tryz.func107 rfl trivial fun c₀ cs hu => ?_
 apply wpSIn_seq;apply wpSIn_region
 simp [wpOpsSIn, go_sem, recoverD, hu, Tryz.ntmps107, Exit.thenS]
 refine wpSIn_cond (t := false) (by simp [Act.eval, Array.replicate]) ?_;simp only [Bool.false_eq_true, if_false];refine wpSIn_of_wpIn rfl (wpIn_skip ?_);cases c₀
 simp_all [bodyPostS, results, Tryz.results107]
theorem viewOf (B : Base) (H : List Res) (w : World) (v t m s p wb : Nat) (va : Option Addr) (vc : Nat) (sv : Value) (clk : Int) (es : List (List UInt8 × Value)) (M : List (List UInt8 × Ver)) (key : List UInt8) (kind : Int) (hM : VM B es M) (hv : Inv B (Res.cell v [.iface 66 (vP t)] 38 :: txR t m s p wb va vc sv clk es :: H) w) :
  Calls Tryz.prog 72 #[vP v, vS key, vI kind] w fun e w' => ∃ C y p' t' z' ec, B.Le C ∧ e = .returned (.tuple #[.agg (verCells y p' t' z').toArray, vI ec]) ∧ ValAt C y.val p' t' z' ∧ OfI M clk key kind y ec ∧ Inv C (Res.cell v [.iface 66 (vP t)] 38 :: txR t m s p wb va vc sv clk es :: H) w' := by
 refine (callsIn_wide (n := 5)).1 (callsIn_of_wp_defers Tryz.func72 rfl trivial ?_);simp only [Tryz.ntmps72, List.size_toArray, List.length_cons, List.length_nil, Nat.reduceAdd, Nat.reduceSub, Array.replicate_succ, Array.replicate_zero, List.push_toArray, List.append_toArray, List.nil_append, List.cons_append];apply uN;intro _ _;refine sl_alloc tV (wn rfl) rfl hv v1al91 (fun b2 w3 hv => ?_);refine sl_alloc tV (wn rfl) rfl hv v1al58 (fun b4 w5 hv => ?_);apply uN;intro _ _;refine oG (.func (.func 107) #[] #[vP b2, vP b4]) rfl (ex_makeFunc (c' := #[vP b2, vP b4]) rfl (by simp only [List.map_toArray, List.map_nil]) (by simp only [List.map_toArray, List.map_cons, List.map_nil]; rfl)) ?_;refine wpi_defer tV rfl (wn rfl) rfl rfl ?_;apply uN;intro _ _;refine oG (vP v) rfl (ex_nil rfl rfl) ?_;refine oF (vP v) rfl (v1fa38_0 _ _ _) ?_;refine oL _ rfl (run_load1 v1na36 (hv.load 2 0 rfl rfl)) ?_;replace hv := hv.front 3 rfl;simp only [eS, eZ] at hv;refine wpi_callI v1callable231 tV wideC rfl (wn rfl) rfl rfl (r := vP t) (fun w => by kernel_rfl) (args := #[vS key]) (by simp only [List.map_toArray, List.map_cons, List.map_nil]; rfl) ((txnGet B _ _ t m s p wb va vc sv clk es M key hM hv).mono ?_);rintro e w8 ⟨C, x, xp, xt, xz, ok, hBC, rfl, hget, hxv, hv⟩;apply eR;rcases hget with ⟨rfl, hlk, hal⟩ | ⟨rfl, hx0, hdead⟩
 ·apply uN;refine sl_alloc tV (wn rfl) rfl hv v1al91 (fun b9 w10 hv => ?_);refine zX 0 rfl hv x0sz91 rfl (fun w11 hv => ?_) (by exact ⟨rfl, rfl, rfl, rfl, rfl, hxv.p.one, hxv.t.one, hxv.z.one, trivial⟩);apply uN;intro _ _ _ _;refine oG (.bool false) rfl (ex_not rfl rfl rfl) ?_;intro _ _ _ _;refine oF (.pointer (some ⟨b9, 3, none⟩)) rfl (x2fa91_3 _ _ _) ?_;refine oF (.pointer (some ⟨b9, 3, none⟩)) rfl (s12fa84_0 _ _ _) ?_;refine oL _ rfl (run_load1 s2na3 (hv.load 0 3 rfl rfl)) ?_;refine uB (fun hb16 => ?_) fun hb16 => ?_
  ·intro _ _;refine oG (.agg #[vI 0, .bool false, vI 0, vI 0, vS [], vN, vN, vN]) rfl (ex_buildN (vs := #[]) rfl (by simp only [List.map_toArray, List.map_nil]) (by kernel_rfl)) ?_;refine zX 3 rfl hv x0sz91 rfl (fun w18 hv => ?_) (by exact ⟨rfl, rfl, rfl, rfl, rfl, rfl, rfl, rfl, trivial⟩);refine xV 2 (vI 40) rfl hv v1sz58 rfl rfl (fun w19 hv => ?_);simp only [zS, zO, sp] at hv;apply uN;refine leave_rec v1callable107 (v1rec107 _ _ _ _) (res_cells2 rfl rfl (lM 3 x0wd91 hv rfl rfl rfl rfl) rfl (run_load1 v1na58 (hv.load 2 0 rfl rfl))) ?_;exact ⟨_, zver0, _, _, _, 40, hBC, rfl, zver0_at _, .inr (.inl ⟨rfl, rfl, x, hlk, hal, hb16⟩), (hv.kp [1, 4] 2 3)⟩
  intro _ _;refine oF (.pointer (some ⟨b9, 3, none⟩)) rfl (x2fa91_3 _ _ _) ?_;refine oL (.agg #[vI x.val.kind, vS x.val.text, xp, xt, xz]) rfl (lM 0 s1wd84 hv rfl rfl rfl rfl) ?_;refine xC x2callable62 rfl ((valueClone _ _ _ x.val xp xt xz (hxv.more (Base.Le.refl _)) hv).mono ?_) rfl;rintro e w25 ⟨C21, p22, t23, z24, hC21, rfl, hp22, hv⟩;apply eR;refine oF (.pointer (some ⟨b9, 3, none⟩)) rfl (x2fa91_3 _ _ _) ?_;refine zX 0 rfl hv s1sz84 rfl (fun w26 hv => ?_) (by exact ⟨rfl, rfl, hp22.p.one, hp22.t.one, hp22.z.one, trivial⟩);apply uN;intro _ _;refine oL (.agg #[vI x.stamp, .bool x.gone, vI x.expire, vI x.val.kind, vS x.val.text, p22, t23, z24]) rfl (lM 0 x0wd91 hv rfl rfl rfl rfl) ?_;refine zX 3 rfl hv x0sz91 rfl (fun w28 hv => ?_) (by exact ⟨rfl, rfl, rfl, rfl, rfl, hp22.p.one, hp22.t.one, hp22.z.one, trivial⟩);refine xV 2 (vI 0) rfl hv v1sz58 rfl rfl (fun w29 hv => ?_);simp only [zS, zO, sp] at hv;apply uN;refine leave_rec v1callable107 (v1rec107 _ _ _ _) (res_cells2 rfl rfl (lM 3 x0wd91 hv rfl rfl rfl rfl) rfl (run_load1 v1na58 (hv.load 2 0 rfl rfl))) (⟨_, x, _, _, _, 0, (hBC.trans hC21), rfl, hp22, .inr (.inr ⟨rfl, hlk, hal, by omega⟩), (hv.kp [1, 4] 2 3)⟩)
 apply uN;refine sl_alloc tV (wn rfl) rfl hv v1al91 (fun b30 w31 hv => ?_);refine zX 0 rfl hv x0sz91 rfl (fun w32 hv => ?_) (by exact ⟨rfl, rfl, rfl, rfl, rfl, hxv.p.one, hxv.t.one, hxv.z.one, trivial⟩);apply uN;intro _ _ _ _;refine oG (.bool true) rfl (ex_not rfl rfl rfl) ?_;intro _ _;refine oG (.agg #[vI 0, .bool false, vI 0, vI 0, vS [], vN, vN, vN]) rfl (ex_buildN (vs := #[]) rfl (by simp only [List.map_toArray, List.map_nil]) (by kernel_rfl)) ?_;refine zX 3 rfl hv x0sz91 rfl (fun w36 hv => ?_) (by exact ⟨rfl, rfl, rfl, rfl, rfl, rfl, rfl, rfl, trivial⟩);refine xV 2 (vI 0) rfl hv v1sz58 rfl rfl (fun w37 hv => ?_);simp only [zS, zO, sp] at hv;apply uN;refine leave_rec v1callable107 (v1rec107 _ _ _ _) (res_cells2 rfl rfl (lM 3 x0wd91 hv rfl rfl rfl rfl) rfl (run_load1 v1na58 (hv.load 2 0 rfl rfl))) ?_;exact ⟨_, zver0, _, _, _, 0, hBC, rfl, zver0_at _, .inl ⟨rfl, rfl, hdead⟩, (hv.kp [1, 4] 2 3)⟩
theorem v1callable233 : Callable Tryz.prog 233 := cb Tryz.func233 (by kernel_rfl)
theorem v1callable60 : Callable Tryz.prog 60 := cb Tryz.func60 (by kernel_rfl)
theorem v1rec60 (n : Nat) (x0 : Value) (w : World) : CallsDIn Fence.wide n Tryz.prog 60 #[x0] .returning w fun e u' w' => e = .returned (.tuple #[]) ∧ u' = .returning ∧ w' = w := by
 refine callsDIn_of_wpSIn Tryz.func60 rfl trivial fun c₀ cs hu => ?_
 apply wpSIn_seq;apply wpSIn_region
 simp [wpOpsSIn, go_sem, recoverD, hu, Tryz.ntmps60, Exit.thenS]
 refine wpSIn_cond (t := false) (by simp [Act.eval, Array.replicate]) ?_;simp only [Bool.false_eq_true, if_false];refine wpSIn_of_wpIn rfl (wpIn_skip ?_);cases c₀
 simp_all [bodyPostS, results, Tryz.results60]
theorem v1callable61 : Callable Tryz.prog 61 := cb Tryz.func61 (by kernel_rfl)
theorem v1mk9 : (Tryz.prog.info? 9).map (fun i => (i.zero, i.size, i.bytes)) = some (some (vS []), 1, 16) := by kernel_rfl
theorem v1el22 : Elem Tryz.prog 22 9 (vS []) 1 16 := elem_of Tryz.underlying22 v1mk9 (by rfl) (by decide)
theorem v1callable230 : Callable Tryz.prog 230 := cb Tryz.func230 (by kernel_rfl)
theorem viewKeep (B : Base) (H : List Res) (w : World) (v t m s p wb : Nat) (va : Option Addr) (vc : Nat) (sv : Value) (clk : Int) (es : List (List UInt8 × Value)) (M : List (List UInt8 × Ver)) (key : List UInt8) (x : Val) (xp xt xz : Value) (exp : Int) (hM : VM B es M) (hval : ValAt B x xp xt xz) (hv : Inv B (Res.cell v [.iface 66 (vP t)] 38 :: txR t m s p wb va vc sv clk es :: H) w) :
  Calls Tryz.prog 31 #[vP v, vS key, .agg #[vI x.kind, vS x.text, xp, xt, xz], vI exp] w fun e w' => ∃ C es' M' ec, B.Le C ∧ e = .returned (vI ec) ∧ VM C es' M' ∧ KeepI M clk key x exp ec M' ∧ Inv C (Res.cell v [.iface 66 (vP t)] 38 :: txR t m s p wb va vc sv clk es' :: H) w' := by
 refine (callsIn_wide (n := 5)).1 (callsIn_of_wp_defers Tryz.func31 rfl trivial ?_);simp only [Tryz.ntmps31, List.size_toArray, List.length_cons, List.length_nil, Nat.reduceAdd, Nat.reduceSub, Array.replicate_succ, Array.replicate_zero, List.push_toArray, List.append_toArray, List.nil_append, List.cons_append];apply uN;intro _ _;refine sl_box (L := [vI x.kind, vS x.text, xp, xt, xz]) tV (wn rfl) rfl rfl hv (fun w => by kernel_rfl) (fun b2 w3 hv => ?_);refine sl_alloc tV (wn rfl) rfl hv v1al58 (fun b4 w5 hv => ?_);apply uN;intro _ _;refine oG (.func (.func 60) #[] #[vP b4]) rfl (ex_makeFunc (c' := #[vP b4]) rfl (by simp only [List.map_toArray, List.map_nil]) (by simp only [List.map_toArray, List.map_cons, List.map_nil]; rfl)) ?_;refine wpi_defer tV rfl (wn rfl) rfl rfl ?_;apply uN;intro _ _ _ _;refine oF (vP b2) rfl (s12fa84_0 _ _ _) ?_;refine oL _ rfl (run_load1 s2na3 (hv.load 1 0 rfl rfl)) ?_;refine uB (fun hb9 => ?_) fun hb9 => ?_
 ·intro _ _;refine rW mixed [6, 10, 11] [0,1,2,3,4,5,7,8,9,6,10,11] 48 rfl (by kernel_rfl) hv ?_;simp only [qm, opAt];apply uN;refine dG (vP v) rfl (ex_nil rfl rfl) ?_;refine dG (vP v) rfl (ex_field rfl rfl (v1fa38_0 _ _ _)) ?_;simp only [zP, po];refine dF _ rfl (fun hv => ex_load rfl rfl (run_load1 v1na36 (hv.load 2 0 rfl rfl))) fun f11 hf11 => dM (vS key) rfl (dL (.agg #[vI x.kind, vS x.text, xp, xt, xz]) rfl (fun hv => ex_load rfl rfl (lM 1 s1wd84 hv rfl rfl rfl rfl)) ?_)
  apply uN;refine dG (.iface 66 (vP t)) rfl (ex_nilI rfl rfl) ?_;apply uN;refine dS rfl fun w12 hv => mC x2callable62 rfl ((valueClone _ _ _ x xp xt xz (hval.more (Base.Le.refl _)) hv).mono ?_) rfl
  rintro e w17 ⟨C13, p14, t15, z16, hC13, rfl, hp14, hv⟩;refine ⟨_, rfl, dV hv (fC (fun ww hv => hf11 ww (ex_load rfl rfl (run_load1 v1na36 (hv.load 2 0 rfl rfl)))) fN) ?_⟩;refine dS rfl fun w18 hv => ?_
  replace hv := hv.front 3 rfl;simp only [eS, eZ] at hv;refine stepMem_callI v1callable233 rfl rfl rfl (r := vP t) (fun w => by kernel_rfl) (args := #[vS key, .agg #[vI x.kind, vS x.text, p14, t15, z16], vI exp]) (by simp only [List.map_toArray, List.map_cons, List.map_nil]; rfl) ((txnPut C13 _ _ t m s p wb va vc sv clk es M key x p14 t15 z16 exp (hM.more hC13) hp14 hv).mono ?_);rintro e w19 ⟨D, es2, ec, hD, rfl, hput, hv⟩;refine ⟨_, rfl, dV hv (fK rfl fN) ?_⟩;refine dS rfl fun w20 hv => mV 1 (vI ec) rfl hv v1sz58 rfl rfl (fun w21 hv => ?_)
  simp only [zS, zO, sp] at hv;refine dV hv (fK rfl fN) (dE fun w22 hv => ?_);apply uN;refine leave_rec v1callable60 (v1rec60 _ _ _) (res_cell1 rfl rfl (run_load1 v1na58 (hv.load 1 0 rfl rfl))) ?_;have hfull : FullV x := .inl hb9;rcases hput with ⟨rfl, hok, hM2⟩ | ⟨rfl, hok, he9⟩
  ·exact ⟨_, _, _, 0, (hC13.trans hD), rfl, hM2, .inl ⟨hfull, hok, rfl, rfl⟩, (hv.kp [3] 2 2)⟩
  rw [he9] at hv;exact ⟨_, _, M, 2, (hC13.trans hD), rfl, hM.more (hC13.trans hD), .inr (.inl ⟨hfull, hok, rfl, rfl⟩), (hv.kp [3] 2 2)⟩
 refine oL (.agg #[vI x.kind, vS x.text, xp, xt, xz]) rfl (lM 1 s1wd84 hv rfl rfl rfl rfl) ?_;refine xC v1callable61 rfl ((valueSize B _ _ x xp xt xz hval hv).mono ?_) rfl;rintro e w23 ⟨rfl, hv⟩;apply eR;refine uB (fun hb24 => ?_) fun hb24 => ?_
 ·intro _ _;refine rW mixed [6, 10, 11] [0,1,2,3,4,5,7,8,9,6,10,11] 48 rfl (by kernel_rfl) hv ?_;simp only [qm, opAt];apply uN;refine dG (vP v) rfl (ex_nil rfl rfl) ?_;refine dG (vP v) rfl (ex_field rfl rfl (v1fa38_0 _ _ _)) ?_;simp only [zP, po];refine dF _ rfl (fun hv => ex_load rfl rfl (run_load1 v1na36 (hv.load 2 0 rfl rfl))) fun f26 hf26 => dM (vS key) rfl (dL (.agg #[vI x.kind, vS x.text, xp, xt, xz]) rfl (fun hv => ex_load rfl rfl (lM 1 s1wd84 hv rfl rfl rfl rfl)) ?_)
  apply uN;refine dG (.iface 66 (vP t)) rfl (ex_nilI rfl rfl) ?_;apply uN;refine dS rfl fun w27 hv => mC x2callable62 rfl ((valueClone _ _ _ x xp xt xz (hval.more (Base.Le.refl _)) hv).mono ?_) rfl
  rintro e w32 ⟨C28, p29, t30, z31, hC28, rfl, hp29, hv⟩;refine ⟨_, rfl, dV hv (fC (fun ww hv => hf26 ww (ex_load rfl rfl (run_load1 v1na36 (hv.load 2 0 rfl rfl)))) fN) ?_⟩;refine dS rfl fun w33 hv => ?_
  replace hv := hv.front 3 rfl;simp only [eS, eZ] at hv;refine stepMem_callI v1callable233 rfl rfl rfl (r := vP t) (fun w => by kernel_rfl) (args := #[vS key, .agg #[vI x.kind, vS x.text, p29, t30, z31], vI exp]) (by simp only [List.map_toArray, List.map_cons, List.map_nil]; rfl) ((txnPut C28 _ _ t m s p wb va vc sv clk es M key x p29 t30 z31 exp (hM.more hC28) hp29 hv).mono ?_);rintro e w34 ⟨D, es2, ec, hD, rfl, hput, hv⟩;refine ⟨_, rfl, dV hv (fK rfl fN) ?_⟩;refine dS rfl fun w35 hv => mV 1 (vI ec) rfl hv v1sz58 rfl rfl (fun w36 hv => ?_)
  simp only [zS, zO, sp] at hv;refine dV hv (fK rfl fN) (dE fun w37 hv => ?_);apply uN;refine leave_rec v1callable60 (v1rec60 _ _ _) (res_cell1 rfl rfl (run_load1 v1na58 (hv.load 1 0 rfl rfl))) ?_;have hfull : FullV x := .inr (by have h9 := hb24; unfold sizeV at h9; rw [if_neg hb9] at h9; omega);rcases hput with ⟨rfl, hok, hM2⟩ | ⟨rfl, hok, he9⟩
  ·exact ⟨_, _, _, 0, (hC28.trans hD), rfl, hM2, .inl ⟨hfull, hok, rfl, rfl⟩, (hv.kp [3] 2 2)⟩
  rw [he9] at hv;exact ⟨_, _, M, 2, (hC28.trans hD), rfl, hM.more (hC28.trans hD), .inr (.inl ⟨hfull, hok, rfl, rfl⟩), (hv.kp [3] 2 2)⟩
 intro _ _ _ _;refine oG (vP v) rfl (ex_nil rfl rfl) ?_;refine oF (vP v) rfl (v1fa38_0 _ _ _) ?_;refine oL _ rfl (run_load1 v1na36 (hv.load 2 0 rfl rfl)) ?_;replace hv := hv.front 3 rfl;simp only [eS, eZ] at hv;refine wpi_callI v1callable231 tV wideC rfl (wn rfl) rfl rfl (r := vP t) (fun w => by kernel_rfl) (args := #[vS key]) (by simp only [List.map_toArray, List.map_cons, List.map_nil]; rfl) ((txnGet B _ _ t m s p wb va vc sv clk es M key hM hv).mono ?_);rintro e w40 ⟨C, x2, yp, yt, yz, ok, hBC, rfl, hget, hyv, hv⟩;apply eR;rcases hget with ⟨rfl, hlk, hal⟩ | ⟨rfl, hx0, hdead⟩
 ·apply uN;refine sl_alloc tV (wn rfl) rfl hv v1al91 (fun b41 w42 hv => ?_);refine zX 0 rfl hv x0sz91 rfl (fun w43 hv => ?_) (by exact ⟨rfl, rfl, rfl, rfl, rfl, hyv.p.one, hyv.t.one, hyv.z.one, trivial⟩);apply uN;intro _ _;apply uN;intro _ _;refine oG (vP v) rfl (ex_nil rfl rfl) ?_;refine oF (vP v) rfl (v1fa38_0 _ _ _) ?_;refine oL _ rfl (run_load1 v1na36 (hv.load 4 0 rfl rfl)) ?_;refine sl_rowOne (v := vS key) tV (wn rfl) rfl rfl hv v1el22 rfl (fun b46 w47 hv => ?_);simp only [zP, po];obtain ⟨D, hD, hv, hrk, -, -⟩ := (hv.cellRow (n := 1) (c := 1) (size := 1) rfl (by decide) (by decide)).rowBy;replace hv := hv.front 1 rfl;simp only [eS, eZ] at hv;refine wpi_callI v1callable230 tV wideC rfl (wn rfl) rfl rfl (r := vP t) (fun w => by kernel_rfl) (args := #[.slice (some ⟨b46, 0, none⟩) 1 1]) (by simp only [List.map_toArray, List.map_cons, List.map_nil]; rfl) ((txnDel D _ _ t m s p wb va vc sv clk es M _ 1 [key] hrk (by simp) (hM.more (hBC.trans hD)) hv).mono ?_);rintro e w48 ⟨es2, ec, rfl, hdel, hv⟩;apply eR;refine xV 2 (vI ec) rfl hv v1sz58 rfl rfl (fun w49 hv => ?_);simp only [zS, zO, sp] at hv;apply uN;refine leave_rec v1callable60 (v1rec60 _ _ _) (res_cell1 rfl rfl (run_load1 v1na58 (hv.load 2 0 rfl rfl))) ?_;have hnf : ¬ FullV x := fun h => h.elim hb9 (fun h => by have h9 := hb24; unfold sizeV at h9; rw [if_neg hb9] at h9; omega)
  rcases hdel with ⟨rfl, hk, hM2⟩ | ⟨rfl, hk, he9⟩
  ·exact ⟨_, _, updA M key gver, 0, (hBC.trans hD), rfl, hM2, .inr (.inr (.inr ⟨hnf, ⟨x2, hlk, hal⟩, .inl ⟨by simpa using hk, rfl, rfl⟩⟩)), (hv.kp [4] 2 3)⟩
  rw [he9] at hv;exact ⟨_, _, M, 2, (hBC.trans hD), rfl, hM.more (hBC.trans hD), .inr (.inr (.inr ⟨hnf, ⟨x2, hlk, hal⟩, .inr ⟨by simpa using hk, rfl, rfl⟩⟩)), (hv.kp [4] 2 3)⟩
 apply uN;refine sl_alloc tV (wn rfl) rfl hv v1al91 (fun b50 w51 hv => ?_);refine zX 0 rfl hv x0sz91 rfl (fun w52 hv => ?_) (by exact ⟨rfl, rfl, rfl, rfl, rfl, hyv.p.one, hyv.t.one, hyv.z.one, trivial⟩);apply uN;intro _ _;apply uN;intro _ _;refine xV 2 (vI 0) rfl hv v1sz58 rfl rfl (fun w55 hv => ?_);simp only [zS, zO, sp] at hv;apply uN;refine leave_rec v1callable60 (v1rec60 _ _ _) (res_cell1 rfl rfl (run_load1 v1na58 (hv.load 2 0 rfl rfl))) ?_;have hnf : ¬ FullV x := fun h => h.elim hb9 (fun h => by have h9 := hb24; unfold sizeV at h9; rw [if_neg hb9] at h9; omega)
 exact ⟨_, _, M, 0, hBC, rfl, hM.more hBC, .inr (.inr (.inl ⟨hnf, hdead, rfl, rfl⟩)), (hv.kp [1, 4] 2 3)⟩
def OkM (M : List (List UInt8 × Ver)) : Prop := ∀ k y, lookA M k = some y → y.gone = true ∨ PutOk k y.val y.expire
section
variable {M M' : List (List UInt8 × Ver)} {clk exp ec : Int} {key : List UInt8} {x : Val} {y : Ver}
theorem OkM.nil : OkM [] := fun k y h => by cases h
theorem OkM.upd (h : OkM M) {k : List UInt8} {y : Ver} (hy : y.gone = true ∨ PutOk k y.val y.expire) : OkM (updA M k y) := fun k2 y2 h2 => by
 rw [look_upd] at h2
 split at h2
 ·rename_i e; cases h2; subst e; exact hy
 exact h k2 y2 h2
theorem OkM.keep (h : OkM M) (hk : KeepI M clk key x exp ec M') : OkM M' := by
 rcases hk with ⟨-, h1, -, rfl⟩ | ⟨-, -, -, rfl⟩ | ⟨-, -, -, rfl⟩ | ⟨-, -, ⟨-, -, rfl⟩ | ⟨-, -, rfl⟩⟩
 ·exact h.upd (.inr h1)
 ·exact h
 ·exact h
 ·exact h.upd (.inl rfl)
 exact h
theorem keep_not (hk : KeepI M clk key x exp ec M') (he : ec ≠ 0) : M' = M := by
 rcases hk with ⟨-, -, h, -⟩ | ⟨-, -, -, rfl⟩ | ⟨-, -, -, rfl⟩ | ⟨-, -, ⟨-, h, -⟩ | ⟨-, -, rfl⟩⟩
 ·exact absurd h he
 ·rfl
 ·rfl
 ·exact absurd h he
 rfl
end
def IsF (r : Rp) : Prop := r.kind = 1
def DoneR (ec : Int) (r0 r : Rp) : Prop := (ec = 0 ∧ r = r0) ∨ (ec ≠ 0 ∧ IsF r)
def CmdR (M M' : List (List UInt8 × Ver)) (r : Rp) : Prop := OkM M' ∧ (IsF r → M' = M)
theorem isF_int {n : Int} : ¬ IsF (rInt n) := fun h => absurd (show (2 : Int) = 1 from h) (by decide)
theorem DoneR.keep {M M' : List (List UInt8 × Ver)} {clk exp ec : Int} {key : List UInt8} {x : Val} {r0 r : Rp} (hM : OkM M) (hk : KeepI M clk key x exp ec M') (hd : DoneR ec r0 r) (h0 : ¬ IsF r0) : CmdR M M' r := by
 refine ⟨hM.keep hk, fun hf => ?_⟩;rcases hd with ⟨-, rfl⟩ | ⟨he, -⟩
 ·exact absurd hf h0
 exact keep_not hk he
theorem rsal29 : AL Tryz.prog 29 [vI 0, vS [], vI 0, vN] := fun w => by kernel_rfl
theorem rssz29 : (Tryz.prog.info? 29).map (·.size) = some 4 := by kernel_rfl
theorem rswd29 : Wide Tryz.prog 29 4 := wide_of (fun w => by kernel_rfl) (by kernel_rfl)
theorem respInt (B : Base) (H : List Res) (w : World) (n : Int) (hv : Inv B H w) :
  Calls Tryz.prog 45 #[vI n] w fun e w' => e = .returned (.agg #[vI 2, vS [], vI n, vN]) ∧ Inv B H w' := by
 refine cW Tryz.func45 rfl Tryz.ntmps45 ?_;simp only [al];apply uN;intro _ _;refine sl_alloc tV (wn rfl) rfl hv rsal29 (fun b2 w3 hv => ?_);apply uN;intro _ _;refine oG (.agg #[vI 2, vS [], vI n, vN]) rfl (ex_buildN (vs := #[(0, vI 2), (2, vI n)]) rfl (by simp only [List.map_toArray, List.map_cons, List.map_nil]; rfl) (by kernel_rfl)) ?_;refine zX 0 rfl hv rssz29 rfl fun w5 hv => ?_
 apply uN;refine bC 0 rswd29 hv rfl rfl rfl rfl (⟨rfl, (hv.kp [] 0 1)⟩)
theorem respStr (B : Base) (H : List Res) (w : World) (s : List UInt8) (hv : Inv B H w) :
  Calls Tryz.prog 77 #[vS s] w fun e w' => e = .returned (.agg #[vI 3, vS s, vI 0, vN]) ∧ Inv B H w' := by
 refine cW Tryz.func77 rfl Tryz.ntmps77 ?_;simp only [al];apply uN;intro _ _;refine sl_alloc tV (wn rfl) rfl hv rsal29 (fun b2 w3 hv => ?_);apply uN;intro _ _;refine oG (.agg #[vI 3, vS s, vI 0, vN]) rfl (ex_buildN (vs := #[(0, vI 3), (1, vS s)]) rfl (by simp only [List.map_toArray, List.map_cons, List.map_nil]; rfl) (by kernel_rfl)) ?_;refine zX 0 rfl hv rssz29 rfl fun w5 hv => ?_
 apply uN;refine bC 0 rswd29 hv rfl rfl rfl rfl (⟨rfl, (hv.kp [] 0 1)⟩)
theorem respWrong (B : Base) (H : List Res) (w : World) (s : List UInt8) (hv : Inv B H w) :
  Calls Tryz.prog 40 #[vS s] w fun e w' => e = .returned (.agg #[vI 1, vS s, vI 0, vN]) ∧ Inv B H w' := by
 refine cW Tryz.func40 rfl Tryz.ntmps40 ?_;simp only [al];apply uN;intro _ _;refine sl_alloc tV (wn rfl) rfl hv rsal29 (fun b2 w3 hv => ?_);apply uN;intro _ _;refine oG (.agg #[vI 1, vS s, vI 0, vN]) rfl (ex_buildN (vs := #[(0, vI 1), (1, vS s)]) rfl (by simp only [List.map_toArray, List.map_cons, List.map_nil]; rfl) (by kernel_rfl)) ?_;refine zX 0 rfl hv rssz29 rfl fun w5 hv => ?_
 apply uN;refine bC 0 rswd29 hv rfl rfl rfl rfl (⟨rfl, (hv.kp [] 0 1)⟩)
theorem respNone (B : Base) (H : List Res) (w : World) (hv : Inv B H w) :
  Calls Tryz.prog 100 #[] w fun e w' => e = .returned (.agg #[vI 4, vS [], vI 0, vN]) ∧ Inv B H w' := by
 refine cW Tryz.func100 rfl Tryz.ntmps100 ?_;simp only [al];apply uN;intro _ _;refine sl_alloc tV (wn rfl) rfl hv rsal29 (fun b2 w3 hv => ?_);apply uN;intro _ _;refine oG (.agg #[vI 4, vS [], vI 0, vN]) rfl (ex_buildN (vs := #[(0, vI 4)]) rfl (by simp only [List.map_toArray, List.map_cons, List.map_nil]; rfl) (by kernel_rfl)) ?_;refine zX 0 rfl hv rssz29 rfl fun w5 hv => ?_
 apply uN;refine bC 0 rswd29 hv rfl rfl rfl rfl (⟨rfl, (hv.kp [] 0 1)⟩)
theorem rscallable40 : Callable Tryz.prog 40 := cb Tryz.func40 (by kernel_rfl)
theorem viewWrong (B : Base) (H : List Res) (w : World) (n : Int) (hv : Inv B H w) :
  Calls Tryz.prog 26 #[vI n] w fun e w' => ∃ s : List UInt8, e = .returned (.agg #[vI 1, vS s, vI 0, vN]) ∧ Inv B H w' := by
 refine cW Tryz.func26 rfl Tryz.ntmps26 ?_;simp only [al];apply uN;intro _ _;refine sl_alloc tV (wn rfl) rfl hv rsal29 (fun b2 w3 hv => ?_);apply uN;intro _ _ _ _;apply uN;intro _ _;refine uB (fun hb7 => ?_) fun hb7 => ?_
 ·intro _ _;refine xC rscallable40 rfl ((respWrong B _ _ ([87, 82, 79, 78, 71, 84, 89, 80, 69, 32, 116, 104, 101, 32, 107, 101, 121, 32, 104, 97, 115, 32, 97, 32, 118, 97, 108, 117, 101, 32, 111, 102, 32, 97, 110, 111, 116, 104, 101, 114, 32, 107, 105, 110, 100] : List UInt8) hv).mono ?_) rfl;rintro e w9 ⟨rfl, hv⟩;apply eR;refine zX 0 rfl hv rssz29 rfl fun w10 hv => ?_
  apply uN;refine bC 0 rswd29 hv rfl rfl rfl rfl (⟨_, rfl, (hv.kp [] 0 1)⟩)
 intro _ _;refine uB (fun hb12 => ?_) fun hb12 => ?_
 ·intro _ _;refine xC rscallable40 rfl ((respWrong B _ _ ([69, 82, 82, 32, 105, 116, 32, 105, 115, 32, 110, 111, 32, 110, 117, 109, 98, 101, 114] : List UInt8) hv).mono ?_) rfl;rintro e w14 ⟨rfl, hv⟩;apply eR;refine zX 0 rfl hv rssz29 rfl fun w15 hv => ?_
  apply uN;refine bC 0 rswd29 hv rfl rfl rfl rfl (⟨_, rfl, (hv.kp [] 0 1)⟩)
 intro _ _;refine uB (fun hb17 => ?_) fun hb17 => ?_
 ·intro _ _;refine xC rscallable40 rfl ((respWrong B _ _ ([69, 82, 82, 32, 116, 104, 101, 32, 110, 117, 109, 98, 101, 114, 32, 105, 115, 32, 116, 111, 111, 32, 103, 114, 101, 97, 116, 32, 111, 114, 32, 116, 111, 111, 32, 115, 109, 97, 108, 108] : List UInt8) hv).mono ?_) rfl;rintro e w19 ⟨rfl, hv⟩;apply eR;refine zX 0 rfl hv rssz29 rfl fun w20 hv => ?_
  apply uN;refine bC 0 rswd29 hv rfl rfl rfl rfl (⟨_, rfl, (hv.kp [] 0 1)⟩)
 intro _ _;refine uB (fun hb22 => ?_) fun hb22 => ?_
 ·intro _ _;refine xC rscallable40 rfl ((respWrong B _ _ ([69, 82, 82, 32, 115, 121, 110, 116, 97, 120] : List UInt8) hv).mono ?_) rfl;rintro e w24 ⟨rfl, hv⟩;apply eR;refine zX 0 rfl hv rssz29 rfl fun w25 hv => ?_
  apply uN;refine bC 0 rswd29 hv rfl rfl rfl rfl (⟨_, rfl, (hv.kp [] 0 1)⟩)
 intro _ _;refine uB (fun hb27 => ?_) fun hb27 => ?_
 ·intro _ _;refine xC rscallable40 rfl ((respWrong B _ _ ([69, 82, 82, 32, 119, 114, 111, 110, 103, 32, 110, 117, 109, 98, 101, 114, 32, 111, 102, 32, 97, 114, 103, 117, 109, 101, 110, 116, 115] : List UInt8) hv).mono ?_) rfl;rintro e w29 ⟨rfl, hv⟩;apply eR;refine zX 0 rfl hv rssz29 rfl fun w30 hv => ?_
  apply uN;refine bC 0 rswd29 hv rfl rfl rfl rfl (⟨_, rfl, (hv.kp [] 0 1)⟩)
 intro _ _;refine uB (fun hb32 => ?_) fun hb32 => ?_
 ·intro _ _;refine xC rscallable40 rfl ((respWrong B _ _ ([69, 82, 82, 32, 116, 104, 101, 114, 101, 32, 105, 115, 32, 110, 111, 32, 115, 117, 99, 104, 32, 112, 108, 97, 99, 101] : List UInt8) hv).mono ?_) rfl;rintro e w34 ⟨rfl, hv⟩;apply eR;refine zX 0 rfl hv rssz29 rfl fun w35 hv => ?_
  apply uN;refine bC 0 rswd29 hv rfl rfl rfl rfl (⟨_, rfl, (hv.kp [] 0 1)⟩)
 intro _ _;refine uB (fun hb37 => ?_) fun hb37 => ?_
 ·intro _ _;refine xC rscallable40 rfl ((respWrong B _ _ ([69, 82, 82, 32, 116, 104, 101, 114, 101, 32, 105, 115, 32, 110, 111, 32, 115, 117, 99, 104, 32, 107, 101, 121] : List UInt8) hv).mono ?_) rfl;rintro e w39 ⟨rfl, hv⟩;apply eR;refine zX 0 rfl hv rssz29 rfl fun w40 hv => ?_
  apply uN;refine bC 0 rswd29 hv rfl rfl rfl rfl (⟨_, rfl, (hv.kp [] 0 1)⟩)
 intro _ _ _ _;refine uB (fun hb43 => ?_) fun hb43 => ?_
 ·intro _ _;refine xC rscallable40 rfl ((respWrong B _ _ ([69, 82, 82, 32, 105, 116, 32, 105, 115, 32, 116, 111, 111, 32, 109, 117, 99, 104] : List UInt8) hv).mono ?_) rfl;rintro e w45 ⟨rfl, hv⟩;apply eR;refine zX 0 rfl hv rssz29 rfl fun w46 hv => ?_
  apply uN;refine bC 0 rswd29 hv rfl rfl rfl rfl (⟨_, rfl, (hv.kp [] 0 1)⟩)
 refine uB (fun hb47 => ?_) fun hb47 => ?_
 ·intro _ _;refine xC rscallable40 rfl ((respWrong B _ _ ([69, 82, 82, 32, 105, 116, 32, 105, 115, 32, 116, 111, 111, 32, 109, 117, 99, 104] : List UInt8) hv).mono ?_) rfl;rintro e w49 ⟨rfl, hv⟩;apply eR;refine zX 0 rfl hv rssz29 rfl fun w50 hv => ?_
  apply uN;refine bC 0 rswd29 hv rfl rfl rfl rfl (⟨_, rfl, (hv.kp [] 0 1)⟩)
 intro _ _;refine uB (fun hb52 => ?_) fun hb52 => ?_
 ·intro _ _;refine xC rscallable40 rfl ((respWrong B _ _ ([82, 69, 65, 68, 79, 78, 76, 89, 32, 105, 116, 32, 109, 97, 121, 32, 114, 101, 97, 100, 32, 97, 108, 111, 110, 101] : List UInt8) hv).mono ?_) rfl;rintro e w54 ⟨rfl, hv⟩;apply eR;refine zX 0 rfl hv rssz29 rfl fun w55 hv => ?_
  apply uN;refine bC 0 rswd29 hv rfl rfl rfl rfl (⟨_, rfl, (hv.kp [] 0 1)⟩)
 intro _ _;refine xC rscallable40 rfl ((respWrong B _ _ ([69, 82, 82, 32, 105, 116, 32, 109, 97, 121, 32, 110, 111, 116, 32, 98, 101] : List UInt8) hv).mono ?_) rfl;rintro e w57 ⟨rfl, hv⟩;apply eR;refine zX 0 rfl hv rssz29 rfl fun w58 hv => ?_
 apply uN;refine bC 0 rswd29 hv rfl rfl rfl rfl (⟨_, rfl, (hv.kp [] 0 1)⟩)
theorem rscallable26 : Callable Tryz.prog 26 := cb Tryz.func26 (by kernel_rfl)
theorem viewDone (B : Base) (H : List Res) (w : World) (n k m : Int) (s0 : List UInt8) (v : Value) (_ : v.cells = #[v]) (h2 : v.oneCell' = true) (hv : Inv B H w) :
  Calls Tryz.prog 44 #[vI n, .agg #[vI k, vS s0, vI m, v]] w fun e w' => ∃ x, ((n = 0 ∧ x = .agg #[vI k, vS s0, vI m, v]) ∨ (n ≠ 0 ∧ ∃ s : List UInt8, x = .agg #[vI 1, vS s, vI 0, vN])) ∧ e = .returned x ∧ Inv B H w' := by
 refine cW Tryz.func44 rfl Tryz.ntmps44 ?_;simp only [al];apply uN;intro _ _;refine sl_box (L := [vI k, vS s0, vI m, v]) tV (wn rfl) rfl rfl hv (fun w => by kernel_rfl) (fun b2 w3 hv => ?_);refine sl_alloc tV (wn rfl) rfl hv rsal29 (fun b4 w5 hv => ?_);apply uN;intro _ _ _ _;refine uB (fun hb8 => ?_) fun hb8 => ?_
 ·intro _ _;refine xC rscallable26 rfl ((viewWrong B _ _ n hv).mono ?_) rfl;rintro e w11 ⟨s10, rfl, hv⟩;apply eR;refine zX 0 rfl hv rssz29 rfl fun w12 hv => ?_
  apply uN;refine bC 0 rswd29 hv rfl rfl rfl rfl ?_;exact ⟨_, .inr ⟨by omega, _, rfl⟩, rfl, (hv.kp [] 0 2)⟩
 intro _ _;refine oL (.agg #[vI k, vS s0, vI m, v]) rfl (lM 1 rswd29 hv rfl rfl rfl rfl) ?_;refine zX 0 rfl hv rssz29 rfl (fun w14 hv => ?_) (by exact ⟨rfl, rfl, rfl, h2, trivial⟩);apply uN;refine bC 0 rswd29 hv rfl rfl rfl rfl (⟨_, .inl ⟨by omega, rfl⟩, rfl, (hv.kp [] 0 2)⟩)
end Go.Proofs.YtgbhdfpobgefgaaGreatDoor
namespace Go.Proofs
open Go.Shelf
def Tryz.laysPI_ren : Go.Shelf.Ren := ⟨fun | 174 => 132 | 247 => 145 | 245 => 146 | 287 => 167 | 279 => 168 | 280 => 169 | 281 => 170 | 282 => 171 | 321 => 185 | 322 => 186 | 316 => 187 | 171 => 189 | 205 => 188 | 243 => 193 | 246 => 138 | 283 => 159 | 284 => 160 | 285 => 161 | 286 => 162 | 129 => 156 | 317 => 177 | 318 => 178 | 319 => 179 | 320 => 180 | 337 => 191 | 338 => 192 | n => n, fun | 9 => 9 | 3 => 3 | 2 => 2 | 75 => 225 | 85 => 226 | 4 => 4 | 167 => 263 | 5 => 5 | 53 => 71 | 175 => 264 | 46 => 230 | 168 => 266 | 37 => 72 | 0 => 0 | 210 => 284 | 21 => 21 | 127 => 288 | 145 => 291 | 143 => 289 | 171 => 253 | 173 => 255 | 212 => 276 | 51 => 250 | 20 => 20 | 213 => 277 | 232 => 292 | 233 => 293 | 80 => 294 | n => n, fun | 15 => 2 | 16 => 3 | 17 => 1 | 18 => 4 | 19 => 5 | n => n⟩
theorem Tryz.laysPI : Go.Proofs.LaysC.n174 Tryz.prog Tryz.laysPI_ren := {
 mixed := by kernel_rfl
 f129 := Tryz.func156.trans (congrArg some (by kernel_rfl))
 f171 := Tryz.func189.trans (congrArg some (by kernel_rfl))
 f174 := Tryz.func132.trans (congrArg some (by kernel_rfl))
 f205 := Tryz.func188.trans (congrArg some (by kernel_rfl))
 f243 := Tryz.func193.trans (congrArg some (by kernel_rfl))
 f245 := Tryz.func146.trans (congrArg some (by kernel_rfl))
 f246 := Tryz.func138.trans (congrArg some (by kernel_rfl))
 f247 := Tryz.func145.trans (congrArg some (by kernel_rfl))
 f279 := Tryz.func168.trans (congrArg some (by kernel_rfl))
 f280 := Tryz.func169.trans (congrArg some (by kernel_rfl))
 f281 := Tryz.func170.trans (congrArg some (by kernel_rfl))
 f282 := Tryz.func171.trans (congrArg some (by kernel_rfl))
 f283 := Tryz.func159.trans (congrArg some (by kernel_rfl))
 f284 := Tryz.func160.trans (congrArg some (by kernel_rfl))
 f285 := Tryz.func161.trans (congrArg some (by kernel_rfl))
 f286 := Tryz.func162.trans (congrArg some (by kernel_rfl))
 f287 := Tryz.func167.trans (congrArg some (by kernel_rfl))
 f316 := Tryz.func187.trans (congrArg some (by kernel_rfl))
 f317 := Tryz.func177.trans (congrArg some (by kernel_rfl))
 f318 := Tryz.func178.trans (congrArg some (by kernel_rfl))
 f319 := Tryz.func179.trans (congrArg some (by kernel_rfl))
 f320 := Tryz.func180.trans (congrArg some (by kernel_rfl))
 f321 := Tryz.func185.trans (congrArg some (by kernel_rfl))
 f322 := Tryz.func186.trans (congrArg some (by kernel_rfl))
 f337 := Tryz.func191.trans (congrArg some (by kernel_rfl))
 f338 := Tryz.func192.trans (congrArg some (by kernel_rfl))
 t0 := Tryz.underlying0
 a0 := Tryz.isAgg0
 z0 := Tryz.sizeOf0
 v0 := Tryz.zeroValue0
 t2 := Tryz.underlying2
 a2 := Tryz.isAgg2
 z2 := Tryz.sizeOf2
 v2 := Tryz.zeroValue2
 t3 := Tryz.underlying3
 a3 := Tryz.isAgg3
 z3 := Tryz.sizeOf3
 v3 := Tryz.zeroValue3
 t4 := Tryz.underlying4
 a4 := Tryz.isAgg4
 z4 := Tryz.sizeOf4
 v4 := Tryz.zeroValue4
 t5 := Tryz.underlying5
 a5 := Tryz.isAgg5
 z5 := Tryz.sizeOf5
 v5 := Tryz.zeroValue5
 t9 := Tryz.underlying9
 a9 := Tryz.isAgg9
 z9 := Tryz.sizeOf9
 v9 := Tryz.zeroValue9
 t20 := Tryz.underlying20
 a20 := Tryz.isAgg20
 z20 := Tryz.sizeOf20
 v20 := Tryz.zeroValue20
 t21 := Tryz.underlying21
 a21 := Tryz.isAgg21
 z21 := Tryz.sizeOf21
 v21 := Tryz.zeroValue21
 t37 := Tryz.underlying72
 a37 := Tryz.isAgg72
 z37 := Tryz.sizeOf72
 v37 := Tryz.zeroValue72
 t46 := Tryz.underlying230
 a46 := Tryz.isAgg230
 z46 := Tryz.sizeOf230
 v46 := Tryz.zeroValue230
 t51 := Tryz.underlying250
 a51 := Tryz.isAgg250
 z51 := Tryz.sizeOf250
 v51 := Tryz.zeroValue250
 t53 := Tryz.underlying71
 a53 := Tryz.isAgg71
 z53 := Tryz.sizeOf71
 v53 := Tryz.zeroValue71
 t75 := Tryz.underlying225
 a75 := Tryz.isAgg225
 z75 := Tryz.sizeOf225
 v75 := Tryz.zeroValue225
 t85 := Tryz.underlying226
 a85 := Tryz.isAgg226
 z85 := Tryz.sizeOf226
 v85 := Tryz.zeroValue226
 t127 := Tryz.underlying288
 a127 := Tryz.isAgg288
 z127 := Tryz.sizeOf288
 v127 := Tryz.zeroValue288
 t143 := Tryz.underlying289
 a143 := Tryz.isAgg289
 z143 := Tryz.sizeOf289
 v143 := Tryz.zeroValue289
 t145 := Tryz.underlying291
 a145 := Tryz.isAgg291
 z145 := Tryz.sizeOf291
 v145 := Tryz.zeroValue291
 t167 := Tryz.underlying263
 a167 := Tryz.isAgg263
 z167 := Tryz.sizeOf263
 v167 := Tryz.zeroValue263
 t168 := Tryz.underlying266
 a168 := Tryz.isAgg266
 z168 := Tryz.sizeOf266
 v168 := Tryz.zeroValue266
 t171 := Tryz.underlying253
 a171 := Tryz.isAgg253
 z171 := Tryz.sizeOf253
 v171 := Tryz.zeroValue253
 t173 := Tryz.underlying255
 a173 := Tryz.isAgg255
 z173 := Tryz.sizeOf255
 v173 := Tryz.zeroValue255
 t175 := Tryz.underlying264
 a175 := Tryz.isAgg264
 z175 := Tryz.sizeOf264
 v175 := Tryz.zeroValue264
 t210 := Tryz.underlying284
 a210 := Tryz.isAgg284
 z210 := Tryz.sizeOf284
 v210 := Tryz.zeroValue284
 t212 := Tryz.underlying276
 a212 := Tryz.isAgg276
 z212 := Tryz.sizeOf276
 v212 := Tryz.zeroValue276
 t213 := Tryz.underlying277
 a213 := Tryz.isAgg277
 z213 := Tryz.sizeOf277
 t232 := Tryz.underlying292
 a232 := Tryz.isAgg292
 z232 := Tryz.sizeOf292
 v232 := Tryz.zeroValue292
 t233 := Tryz.underlying293
 a233 := Tryz.isAgg293
 z233 := Tryz.sizeOf293
 v233 := Tryz.zeroValue293
 g15 := by kernel_rfl
 g16 := by kernel_rfl
 g17 := by kernel_rfl
 g18 := by kernel_rfl
 g19 := by kernel_rfl
 t80 := Tryz.underlying294
 a80 := Tryz.isAgg294
 z80 := Tryz.sizeOf294
 v80 := Tryz.zeroValue294
 i0 := by kernel_rfl
 i2 := by kernel_rfl
 i3 := by kernel_rfl
 i4 := by kernel_rfl
 i5 := by kernel_rfl
 i9 := by kernel_rfl
 i20 := by kernel_rfl
 i21 := by kernel_rfl
 i37 := by kernel_rfl
 i46 := by kernel_rfl
 i51 := by kernel_rfl
 i53 := by kernel_rfl
 i75 := by kernel_rfl
 i80 := by kernel_rfl
 i85 := by kernel_rfl
 i127 := by kernel_rfl
 i143 := by kernel_rfl
 i145 := by kernel_rfl
 i167 := by kernel_rfl
 i168 := by kernel_rfl
 i171 := by kernel_rfl
 i173 := by kernel_rfl
 i175 := by kernel_rfl
 i210 := by kernel_rfl
 i212 := by kernel_rfl
 i232 := by kernel_rfl
 i233 := by kernel_rfl
 m15 := by kernel_rfl
 m16 := by kernel_rfl
 m17 := by kernel_rfl
 m18 := by kernel_rfl
 m19 := by kernel_rfl
 c0 := by kernel_rfl
 c2 := by kernel_rfl
 c3 := by kernel_rfl
 c4 := by kernel_rfl
 c5 := by kernel_rfl
 c9 := by kernel_rfl
 c20 := by kernel_rfl
 c21 := by kernel_rfl
 c37 := by kernel_rfl
 c46 := by kernel_rfl
 c51 := by kernel_rfl
 c53 := by kernel_rfl
 c75 := by kernel_rfl
 c80 := by kernel_rfl
 c85 := by kernel_rfl
 c127 := by kernel_rfl
 c143 := by kernel_rfl
 c145 := by kernel_rfl
 c167 := by kernel_rfl
 c168 := by kernel_rfl
 c171 := by kernel_rfl
 c173 := by kernel_rfl
 c175 := by kernel_rfl
 c210 := by kernel_rfl
 c212 := by kernel_rfl
 c213 := by kernel_rfl
 c232 := by kernel_rfl
 c233 := by kernel_rfl }
def Tryz.laysFI_ren : Go.Shelf.Ren := ⟨fun | 173 => 113 | 246 => 138 | 283 => 159 | 284 => 160 | 285 => 161 | 286 => 162 | 129 => 156 | 317 => 177 | 318 => 178 | 319 => 179 | 320 => 180 | 337 => 191 | 338 => 192 | n => n, fun | 2 => 2 | 3 => 3 | 9 => 9 | 4 => 4 | 171 => 253 | 0 => 0 | 53 => 71 | 37 => 72 | 5 => 5 | 173 => 255 | 212 => 276 | 51 => 250 | 20 => 20 | 213 => 277 | 46 => 230 | 232 => 292 | 233 => 293 | n => n, fun | 17 => 1 | 18 => 4 | 19 => 5 | n => n⟩
theorem Tryz.laysFI : Go.Proofs.LaysM.n173 Tryz.prog Tryz.laysFI_ren := {
 mixed := by kernel_rfl
 f129 := Tryz.func156.trans (congrArg some (by kernel_rfl))
 f173 := Tryz.func113.trans (congrArg some (by kernel_rfl))
 f246 := Tryz.func138.trans (congrArg some (by kernel_rfl))
 f283 := Tryz.func159.trans (congrArg some (by kernel_rfl))
 f284 := Tryz.func160.trans (congrArg some (by kernel_rfl))
 f285 := Tryz.func161.trans (congrArg some (by kernel_rfl))
 f286 := Tryz.func162.trans (congrArg some (by kernel_rfl))
 f317 := Tryz.func177.trans (congrArg some (by kernel_rfl))
 f318 := Tryz.func178.trans (congrArg some (by kernel_rfl))
 f319 := Tryz.func179.trans (congrArg some (by kernel_rfl))
 f320 := Tryz.func180.trans (congrArg some (by kernel_rfl))
 f337 := Tryz.func191.trans (congrArg some (by kernel_rfl))
 f338 := Tryz.func192.trans (congrArg some (by kernel_rfl))
 t0 := Tryz.underlying0
 a0 := Tryz.isAgg0
 z0 := Tryz.sizeOf0
 v0 := Tryz.zeroValue0
 t2 := Tryz.underlying2
 a2 := Tryz.isAgg2
 z2 := Tryz.sizeOf2
 v2 := Tryz.zeroValue2
 t3 := Tryz.underlying3
 a3 := Tryz.isAgg3
 z3 := Tryz.sizeOf3
 v3 := Tryz.zeroValue3
 t4 := Tryz.underlying4
 a4 := Tryz.isAgg4
 z4 := Tryz.sizeOf4
 v4 := Tryz.zeroValue4
 t5 := Tryz.underlying5
 a5 := Tryz.isAgg5
 z5 := Tryz.sizeOf5
 v5 := Tryz.zeroValue5
 t9 := Tryz.underlying9
 a9 := Tryz.isAgg9
 z9 := Tryz.sizeOf9
 v9 := Tryz.zeroValue9
 t20 := Tryz.underlying20
 a20 := Tryz.isAgg20
 z20 := Tryz.sizeOf20
 v20 := Tryz.zeroValue20
 t37 := Tryz.underlying72
 a37 := Tryz.isAgg72
 z37 := Tryz.sizeOf72
 v37 := Tryz.zeroValue72
 t46 := Tryz.underlying230
 a46 := Tryz.isAgg230
 z46 := Tryz.sizeOf230
 v46 := Tryz.zeroValue230
 t51 := Tryz.underlying250
 a51 := Tryz.isAgg250
 z51 := Tryz.sizeOf250
 v51 := Tryz.zeroValue250
 t53 := Tryz.underlying71
 a53 := Tryz.isAgg71
 z53 := Tryz.sizeOf71
 v53 := Tryz.zeroValue71
 t171 := Tryz.underlying253
 a171 := Tryz.isAgg253
 z171 := Tryz.sizeOf253
 v171 := Tryz.zeroValue253
 t173 := Tryz.underlying255
 a173 := Tryz.isAgg255
 z173 := Tryz.sizeOf255
 v173 := Tryz.zeroValue255
 t212 := Tryz.underlying276
 a212 := Tryz.isAgg276
 z212 := Tryz.sizeOf276
 v212 := Tryz.zeroValue276
 t213 := Tryz.underlying277
 a213 := Tryz.isAgg277
 z213 := Tryz.sizeOf277
 t232 := Tryz.underlying292
 a232 := Tryz.isAgg292
 z232 := Tryz.sizeOf292
 v232 := Tryz.zeroValue292
 t233 := Tryz.underlying293
 a233 := Tryz.isAgg293
 z233 := Tryz.sizeOf293
 v233 := Tryz.zeroValue293
 g17 := by kernel_rfl
 g18 := by kernel_rfl
 g19 := by kernel_rfl
 i0 := by kernel_rfl
 i2 := by kernel_rfl
 i3 := by kernel_rfl
 i4 := by kernel_rfl
 i5 := by kernel_rfl
 i9 := by kernel_rfl
 i20 := by kernel_rfl
 i37 := by kernel_rfl
 i46 := by kernel_rfl
 i51 := by kernel_rfl
 i53 := by kernel_rfl
 i171 := by kernel_rfl
 i173 := by kernel_rfl
 i212 := by kernel_rfl
 i232 := by kernel_rfl
 i233 := by kernel_rfl
 m17 := by kernel_rfl
 m18 := by kernel_rfl
 m19 := by kernel_rfl }
end Go.Proofs
namespace Go.Pm
open Go.Lib
theorem parseUint10_append {r : List UInt8} : ∀ (l : List UInt8) (a b : Nat), parseUint10 a l = .ok b → parseUint10 a (l ++ r) = parseUint10 b r
 | [], a, b, h => by
  simp only [parseUint10, NumEnd.ok.injEq] at h;subst h; rfl
 | c :: l, a, b, h => by
  simp only [parseUint10] at h;simp only [List.cons_append, parseUint10]
  split at h
  ·rename_i h1
   rw [if_pos h1]
   split at h
   ·cases h
   rename_i h2
   rw [if_neg h2]
   split at h
   ·cases h
   rename_i h3
   rw [if_neg h3];exact parseUint10_append l _ b h
  cases h
theorem dig_toNat {d : Nat} (h : d < 10) : (UInt8.ofNat (48 + d)).toNat = 48 + d := by
 rw [UInt8.toNat_ofNat'];exact Nat.mod_eq_of_lt (by omega)
theorem parse_dec (u : Nat) (h : u < 18446744073709551616) : parseUint10 0 (decDigits u) = .ok u := by
 induction u using Nat.strongRecOn with
 | _ u ih =>
  rw [decDigits]
  split
  ·rename_i h1
   simp only [parseUint10, dig_toNat h1];rw [if_pos (by omega), if_neg (by omega), if_neg (by omega)]
   congr 1
   omega
  rename_i h1
  rw [parseUint10_append _ 0 (u / 10) (ih (u / 10) (by omega) (by omega))];have hd : u % 10 < 10 := Nat.mod_lt _ (by omega);simp only [parseUint10, dig_toNat hd];rw [if_pos (by omega), if_neg (by omega), if_neg (by omega)]
  congr 1
  omega
theorem dec_bytes (u : Nat) : ∀ c ∈ decDigits u, 48 ≤ c.toNat ∧ c.toNat ≤ 57 := by
 induction u using Nat.strongRecOn with
 | _ u ih =>
  intro c hc;rw [decDigits] at hc
  split at hc
  ·rename_i h1
   simp only [List.mem_singleton] at hc;subst hc;rw [dig_toNat h1]; omega
  rename_i h1
  rcases List.mem_append.1 hc with hc | hc
  ·exact ih (u / 10) (by omega) c hc
  simp only [List.mem_singleton] at hc;subst hc;rw [dig_toNat (Nat.mod_lt _ (by omega))]; omega
theorem dec_ne (u : Nat) : decDigits u ≠ [] := by
 rw [decDigits]
 split <;> simp
theorem parseMag_dec (u : Nat) (h : u < 18446744073709551616) : parseMag (decDigits u) = .ok u := by
 unfold parseMag;rw [if_neg (dec_ne u), parse_dec u h]
theorem parse_itoa (n : Int) (h0 : -9223372036854775808 ≤ n) (h1 : n ≤ 9223372036854775807) : parseIntB 64 (itoa n) = .ok n := by
 rw [parseIntB_64];unfold itoa
 split
 ·rename_i hn
  have h45 : (45 : UInt8).toNat = 45 := rfl;simp only [atoiAll, h45];rw [if_pos (by simp), parseMag_dec _ (by omega)];simp only [not_true_eq_false, false_and, if_false, true_and, if_true];rw [if_neg (by omega)]
  congr 1
  omega
 rename_i hn
 have hm := parseMag_dec n.toNat (by omega);have hb := dec_bytes n.toNat;cases hl : decDigits n.toNat with
 | nil => exact absurd hl (dec_ne _)
 | cons c r =>
  rw [hl] at hm hb;have hc := hb c (by simp);have h43 : ¬ c.toNat = 43 := by omega
  have h45 : ¬ c.toNat = 45 := by omega
  simp only [atoiAll, h43, h45, or_self, if_false, hm, not_false_eq_true, true_and, false_and];rw [if_neg (by omega)]
  congr 1
  omega
theorem nDigits_le : ∀ (k u : Nat), u < 10 ^ (k + 1) → nDigits u ≤ k + 1
 | 0, u, h => by rw [nDigits_small (by simpa using h)]; exact Nat.le_refl _
 | k + 1, u, h => by
  by_cases hu : u < 10
  ·rw [nDigits_small hu]; omega
  rw [nDigits_big hu];have := nDigits_le k (u / 10) (by rw [Nat.pow_succ] at h; omega);omega
theorem itoa_length (n : Int) (h0 : -9223372036854775808 ≤ n) (h1 : n ≤ 9223372036854775807) : 1 ≤ (itoa n).length ∧ (itoa n).length ≤ 20 := by
 have hp : (10 : Nat) ^ 19 = 10000000000000000000 := by decide
 unfold itoa
 split
 ·have := nDigits_le 18 n.natAbs (by rw [hp]; omega);simp only [List.length_cons, decDigits_length]; omega
 have := nDigits_le 18 n.toNat (by rw [hp]; omega);have := nDigits_pos n.toNat;rw [decDigits_length]; omega
end Go.Pm
namespace Go.Proofs.YtgbhdfpobgefgaaGreatDoor
open Go.RowKit Go.Pm
def FormatsInt (B : Base) (H : List Res) : Prop := ∀ (w : World) (n : Int), -9223372036854775808 ≤ n → n ≤ 9223372036854775807 → Inv B H w →
 Calls Tryz.prog 113 #[vI n, vI 10] w fun e w' => e = .returned (vS (Lib.itoa n)) ∧ Inv B H w'
theorem ex_ifaceNil {P : Program} {o : Oper} {a : Act} {w : World} {t u : TypeId} {x : Operand} {c : Value} (hu : P.underlying t = some (.interface (P.methodsAt t))) (ho : o.op = .binOp .neq t x (.const c) u) (hx : a.eval x = .nilIface) (hy : a.eval (.const c) = .nilIface) : Ex P a o w (.bool false) w := by
 have hg : (eqGuard .neq t x (.const c) .nilIface .nilIface).run P w = .ok () w := by simp [eqGuard]
 have hr : (binOp .neq t .nilIface .nilIface).run P w = .ok (.bool false) w := by simp [binOp, run_equal_nil_nil w t hu]
 unfold Ex; simp [execOp, ho, hx, hy, hg, hr]
theorem prcallable113 : Callable Tryz.prog 113 := cb Tryz.func113 (by kernel_rfl)
theorem numPrint (B : Base) (H : List Res) (hF : FormatsInt B H) (w : World) (n : Int) (h0 : -9223372036854775808 ≤ n) (h1 : n ≤ 9223372036854775807) (hv : Inv B H w) :
  Calls Tryz.prog 78 #[vI n] w fun e w' => e = .returned (vS (Lib.itoa n)) ∧ Inv B H w' := by
 refine cW Tryz.func78 rfl Tryz.ntmps78 ?_;simp only [al];apply uN;intro _ _;apply uN;intro _ _;refine xC prcallable113 rfl ((hF _ n h0 h1 hv).mono ?_) rfl;rintro e w3 ⟨rfl, hv⟩;apply eR;refine bR rfl rfl (⟨rfl, hv⟩)
theorem bytesWorld_ext (w : World) (e : TypeId) (t : ByteArray) : Ext w (Lib.bytesWorld w e t) := by
 have h : ∀ k, k < w.heap.size → (Lib.bytesWorld w e t).heap[k]? = w.heap[k]? := by
  intro k hk;unfold Lib.bytesWorld World.freeze
  split
  ·show (w.heap.push _)[k]? = _;rw [Array.getElem?_push_lt hk, Array.getElem?_eq_getElem hk]
  show ((w.heap.push _).modify w.heap.size _)[k]? = _;rw [Array.getElem?_modify, if_neg (by omega), Array.getElem?_push_lt hk, Array.getElem?_eq_getElem hk]
 have hs : w.heap.size ≤ (Lib.bytesWorld w e t).heap.size := by
  unfold Lib.bytesWorld World.freeze
  split
  ·show _ ≤ (w.heap.push _).size
   simp
  show _ ≤ ((w.heap.push _).modify _ _).size
  simp
 refine ⟨?_, ?_, ?_, hs, h⟩ <;> (unfold Lib.bytesWorld World.freeze; split <;> rfl)
theorem growN_ext (w : World) (k : Nat) (os : Array Obj) : Ext w (Go.Sort.grow (w.drewN k) os) := by
 refine ⟨rfl, rfl, rfl, ?_, fun b hb => ?_⟩
 ·show _ ≤ (w.heap ++ os).size
  simp
 show (w.heap ++ os)[b]? = _;rw [Array.getElem?_append_left hb]
theorem tab_below {P : Program} {W w : World} {n : String} {k : IntKind} {l : List Int} (h : Lib.TabIs P W n k l) (hb : Below W.heap.size W w) : Lib.TabIs P w n k l := by
 unfold Lib.TabIs World.var? at h ⊢;cases hg : P.globalNamed n with
 | none => rw [hg] at h; cases h
 | some g =>
  rw [hg] at h;simp only [Option.bind_some] at h ⊢;have hlt : g < W.heap.size := by
   rcases Nat.lt_or_ge g W.heap.size with hlt | hge
   ·exact hlt
   rw [Array.getElem?_eq_none hge] at h; cases h
  rw [hb.block g hlt]; exact h
theorem formatsInt (B : Base) (H : List Res) (W : World) (hB : (Base.of W).Le B) (ht : Lib.TabIs Tryz.prog W "internal/strconv.uint64pow10" .u64 Lib.pow10Tab) : FormatsInt B H := fun w n h0 h1 hv => by
 have h : Calls Tryz.prog 113 #[vI n, vI 10] w _ := Any.strconv_FormatInt_10 Tryz.laysFI n h0 h1 w (tab_below ht (hv.below hB));refine h.mono ?_;rintro e w' ⟨rfl, k, os, rfl⟩;exact ⟨rfl, hv.ext (growN_ext w k os)⟩
def NumP (s : List UInt8) (n : Int) (b : Bool) : Prop := (b = true ∧ -9223372036854775808 ≤ n ∧ n ≤ 9223372036854775807 ∧ s = Lib.itoa n) ∨ (b = false ∧ n = 0 ∧ ∀ m : Int, -9223372036854775808 ≤ m → m ≤ 9223372036854775807 → s ≠ Lib.itoa m)
def ParsesAny (B : Base) (H : List Res) : Prop := ∀ (w : World) (s : List UInt8), s.length ≤ 20 → Inv B H w →
 Calls Tryz.prog 132 #[vS s, vI 10, vI 64] w fun e w' => ∃ (n : Int) (ev : Value), e = .returned (.tuple #[vI n, ev]) ∧ (ev = .nilIface ∨ ∃ t v, ev = .iface t v) ∧ (-9223372036854775808 ≤ n ∧ n ≤ 9223372036854775807) ∧ (∀ m : Int, -9223372036854775808 ≤ m → m ≤ 9223372036854775807 → s = Lib.itoa m → ev = .nilIface ∧ n = m) ∧ Inv B H w'
theorem ex_ifaceNe {P : Program} {o : Oper} {a : Act} {w : World} {t u d : TypeId} {v : Value} {ms : Array (String × TypeId)} {x : Operand} {c : Value} (hu : P.underlying t = some (.interface ms)) (ho : o.op = .binOp .neq t x (.const c) u) (hx : a.eval x = .iface d v) (hc : c = .nilIface) : Ex P a o w (.bool true) w := by
 subst hc;have hg : (eqGuard .neq t x (.const .nilIface) (.iface d v) .nilIface).run P w = .ok () w := by simp [eqGuard]
 have h : ∀ k : Nat, (Op.equalIn (k + 1) t (.iface d v) .nilIface).run P w = .ok false w := fun k => by simp [Op.equalIn, run_underlying hu]
 have hr : (binOp .neq t (.iface d v) .nilIface).run P w = .ok (.bool true) w := by
  simp only [binOp]; simp [Op.equal, Op.maxDepth, h 9999]
 have hy : a.eval (.const .nilIface) = .nilIface := rfl;unfold Ex; simp [execOp, ho, hx, hy, hg, hr]
def HasErr (B : Base) (g : Nat) : Prop := ∃ t v, ∀ C K w, B.Le C → Inv C K w → w.cell? ⟨g, 0, none⟩ = some (.iface t v)
theorem HasErr.more {B C : Base} {g : Nat} (h : HasErr B g) (hB : B.Le C) : HasErr C g := by
 obtain ⟨t, v, h⟩ := h;exact ⟨t, v, fun D K w hD hv => h D K w (hB.trans hD) hv⟩
theorem hasErr_of {W : World} {g : Nat} {t : TypeId} {v : Value} (h : W.cell? ⟨g, 0, none⟩ = some (.iface t v)) : HasErr (Base.of W) g := by
 have hlt : g < W.heap.size := Lib.lt_of_cell h;exact ⟨t, v, fun C K w hC hv => ((hv.below hC).cell (show (⟨g, 0, none⟩ : Addr).block < W.heap.size from hlt)).trans h⟩
theorem errOf {W : World} {l : List (String × DataW Unit)} {name nm : String} {d : DataW Unit} {g t : Nat} {ms : Array (String × TypeId)} (hl : l.filter (fun x => x.1 == name) = [(name, .iface nm d)]) (he : ([(name, (DataW.iface nm d : DataW Unit))].filter fun x => x.2.handleName?.isNone) = [(name, .iface nm d)])
  (hg : Tryz.prog.globalNamed name = some g) (hty : (Tryz.prog.globals[g]?).map (·.type) = some t) (ht : Tryz.prog.underlying t = some (.interface ms)) (hL : laidMetH Tryz.prog l W) : ∃ u v, W.cell? ⟨g, 0, none⟩ = some (.iface u v) := by
 have h := hL.filter (fun x => x.1 == name);rw [hl] at h;have h2 := (laidMetH_iff.1 h).1;rw [he] at h2;obtain ⟨ps, ⟨g', t', cs, fuel, p, q, hg', ht', hvar, hd, _, _⟩, _⟩ := h2;obtain rfl := Option.some.inj (hg.symm.trans hg');obtain rfl := Option.some.inj (hty.symm.trans ht');obtain ⟨f', u, v, hcs, -, -⟩ := iface_of_trod ht hd;refine ⟨u, v, ?_⟩;have := World.var?_cell hg hvar 0;rw [this];have hcs' : cs.toList = [.iface u v] := hcs;rw [← Array.getElem?_toList, hcs']; rfl
theorem pzcallable132 : Callable Tryz.prog 132 := cb Tryz.func132 (by kernel_rfl)
theorem pzcallable78 : Callable Tryz.prog 78 := cb Tryz.func78 (by kernel_rfl)
theorem numParseAny (B : Base) (H : List Res) (hF : FormatsInt B H) (hP : ParsesAny B H) (w : World) (s : List UInt8) (hv : Inv B H w) :
  Calls Tryz.prog 106 #[vS s] w fun e w' => ∃ n b, e = .returned (.tuple #[vI n, .bool b]) ∧ NumP s n b ∧ Inv B H w' := by
 refine cW Tryz.func106 rfl Tryz.ntmps106 ?_;simp only [al];apply uN;intro _ _;apply uN;intro _ _ _ _;refine oG (vI (s.length : Int)) rfl (ex_lenStr Tryz.underlying9 rfl rfl) ?_;refine uB (fun hb4 => ?_) fun hb4 => ?_
 ·intro _ _;apply uN;refine bodyPost_ret (results_tmp2 rfl _ _ _) rfl (⟨_, _, rfl, .inr ⟨rfl, rfl, fun m h0 h1 e9 => by have := itoa_length m h0 h1; rw [← e9] at this; omega⟩, hv⟩)
 intro _ _;refine xC pzcallable132 rfl ((hP _ s (by omega) hv).mono ?_) rfl;rintro e w7 ⟨n, ev, rfl, hev, hn, hno, hv⟩;apply eR;rcases hev with rfl | ⟨t9, v9, rfl⟩
 ·apply uN;intro _ _ _ _;refine oG (.bool false) rfl (ex_ifaceNil Tryz.underlying225 rfl rfl rfl) ?_;intro _ _;apply uN;intro _ _ _ _;refine xC pzcallable78 rfl ((numPrint B H hF _ n hn.1 hn.2 hv).mono ?_) rfl;rintro e w13 ⟨rfl, hv⟩;apply eR;refine uB (fun hb14 => ?_) fun hb14 => ?_
  ·intro _ _;apply uN;refine bodyPost_ret (results_tmp2 rfl _ _ _) rfl (⟨_, _, rfl, .inr ⟨rfl, rfl, fun m h0 h1 e9 => by have h8 := (hno m h0 h1 e9).2; subst h8; exact hb14 e9.symm⟩, hv⟩)
  intro _ _;apply uN;refine bodyPost_ret (results_tmp2 rfl _ _ _) rfl (⟨_, _, rfl, .inl ⟨rfl, hn.1, hn.2, (Classical.byContradiction fun h9 => hb14 (fun e9 => h9 e9.symm))⟩, hv⟩)
 apply uN;intro _ _ _ _;refine oG (.bool true) rfl (ex_ifaceNe Tryz.underlying225 rfl rfl rfl) ?_;intro _ _;apply uN;refine bodyPost_ret (results_tmp2 rfl _ _ _) rfl (⟨_, _, rfl, .inr ⟨rfl, rfl, fun m h0 h1 e9 => by have := (hno m h0 h1 e9).1; cases this⟩, hv⟩)
def NumB (B : Base) : Prop := ∀ C H, B.Le C → FormatsInt C H ∧ ParsesAny C H
theorem NumB.more {B C : Base} (h : NumB B) (hB : B.Le C) : NumB C := fun D H hD => h D H (hB.trans hD)
def intCells (l : List Int) : List Value := l.flatMap fun n => [vI n]
theorem int_reads {B : Base} {l : List Int} {ad : Option Addr} {i : Nat} {x : Int} (hr : RdV B [] ad (intCells l)) (hx : l[i]? = some x) : ∃ b off, ad = some ⟨b, off, none⟩ ∧ Reads B [] b (off + i) [vI x] := by
 have := rowk_reads (f := fun n : Int => [vI n]) (k := 1) (fun _ => rfl) (by decide) hr hx
 simpa using this
theorem int_snoc (l : List Int) (x : Int) : intCells l ++ [vI x] = intCells (l ++ [x]) := by simp [intCells]
def IntsR (ts : List (List UInt8)) (ns : List Int) (ec : Int) : Prop := (ec = 0 ∧ ns.length = ts.length ∧ ∀ (i : Nat) t n, ts[i]? = some t → ns[i]? = some n → NumP t n true) ∨ (ec = 41 ∧ ns = [] ∧ ∃ t ∈ ts, NumP t 0 false)
theorem itmk3 : (Tryz.prog.info? 3).map (fun i => (i.zero, i.size, i.bytes)) = some (some (vI 0), 1, 8) := by kernel_rfl
theorem itel23 : Elem Tryz.prog 23 3 (vI 0) 1 8 := elem_of Tryz.underlying23 itmk3 (by rfl) (by decide)
theorem ites22 (w : World) : (sizeOf (Tryz.prog.elem 22)).run Tryz.prog w = .ok 1 w := by kernel_rfl
theorem itna9 (w : World) : (isAgg 9).run Tryz.prog w = .ok false w := by kernel_rfl
theorem itcallable106 : Callable Tryz.prog 106 := cb Tryz.func106 (by kernel_rfl)
theorem viewInts (B : Base) (H : List Res) (w : World) (ta : Option Addr) (tc : Nat) (ts : List (List UInt8)) (hr : RdV B [] ta (textCells ts)) (hm : ts.length ≤ 1000000) (hN : NumB B) (hv : Inv B H w) :
  Calls Tryz.prog 71 #[.slice ta ts.length tc] w fun e w' => ∃ C oa oc ns ec, B.Le C ∧ e = .returned (.tuple #[.slice oa ns.length oc, vI ec]) ∧ RdV C [] oa (intCells ns) ∧ IntsR ts ns ec ∧ Inv C H w' := by
 refine cW Tryz.func71 rfl Tryz.ntmps71 ?_;simp only [al];apply uN;intro _ _;apply uN;intro _ _;refine oG (vI (ts.length : Int)) rfl (ex_len0 Tryz.underlying22 rfl rfl) ?_;refine sl_makeRow (cap := ts.length) tV (wn rfl) rfl rfl rfl itel23 (by unfold maxLen; omega) (by omega) hv (fun b3 w4 hv => ?_);apply uN;intro _ _ _ _;refine oG (vI (ts.length : Int)) rfl (ex_len0 Tryz.underlying22 rfl rfl) ?_
 gi_loopw [14, 4] (fun x14 x4 wr => ∃ (i : Nat) (ns : List Int) (ra : Option Addr) (rc : Nat), x14 = vI i ∧ x4 = .slice ra ns.length rc ∧ i ≤ ts.length ∧ ns.length = i ∧ (∀ (j : Nat) t n, ts[j]? = some t → ns[j]? = some n → NumP t n true) ∧ Inv B (Res.row 3 1 (.slice ra ns.length rc) ns.length (intCells ns) :: H) wr) (fun x14 x4 _ => ts.length - (intOf x14).toNat)
 case atStart => exact ⟨0, [], _, _, rfl, rfl, Nat.zero_le _, rfl, fun j t n _ h => by simp at h, hv⟩
 case round =>
  obtain ⟨i, ns, ra, rc, rfl, rfl, hi, hnl, hall, hv⟩ := hrel;apply uN;intro _ _;refine uB (fun hb9 => ?_) fun hb9 => ?_
  ·intro _ _;apply uN;intro _ _ _ _;obtain ⟨x, hx⟩ : ∃ x, ts[i]? = some x := ⟨_, List.getElem?_eq_getElem (show i < ts.length by omega)⟩;obtain ⟨bb, bo, had, hrdx⟩ := text_reads hr hx;subst had;apply uN;refine oG (.pointer (some ⟨bb, bo + i, none⟩)) rfl (ex_index rfl rfl rfl (run_idx1 (k := i) Tryz.underlying22 ites22 (by omega))) ?_;refine oL _ rfl (run_load1 itna9 (hrdx _ _ _ (Base.Le.refl _) no_res hv 0 _ rfl)) ?_;intro _ _;refine xC itcallable106 rfl ((numParseAny B _ (hN B _ (Base.Le.refl _)).1 (hN B _ (Base.Le.refl _)).2 _ x hv).mono ?_) rfl;rintro e w14 ⟨n, b, rfl, hnp, hv⟩;apply eR;cases b
   ·apply uN;intro _ _ _ _;refine oG (.bool true) rfl (ex_not rfl rfl rfl) ?_;intro _ _;apply uN;refine bodyPost_ret (results_tmp2 rfl _ _ _) rfl ?_;obtain rfl : n = 0 := hnp.elim (fun h => absurd h.1 (by decide)) (fun h => h.2.1);exact ⟨B, none, 0, [], 41, Base.Le.refl _, rfl, rdV_nil, .inr ⟨rfl, rfl, x, List.mem_of_getElem? hx, hnp⟩, (hv.kp [] 0 1)⟩
   apply uN;intro _ _ _ _;refine oG (.bool false) rfl (ex_not rfl rfl rfl) ?_;refine sl_rowOne (v := vI n) tV (wn rfl) rfl rfl hv itel23 rfl (fun b20 w21 hv => ?_);simp only [zP, po];replace hv := hv.front 1 rfl;simp only [eS, eZ] at hv;refine sl_append (news := [vI n]) tV (wn rfl) rfl rfl rfl itel23 hv (ok_full (by omega)) rfl (rd_all (hv.get 1 rfl)) (by intro u hu; simp only [List.mem_cons, List.not_mem_nil, or_false] at hu; rcases hu with rfl <;> rfl) (by unfold maxLen; omega) (by omega) (fun rv22 w25 hv => ?_);obtain ⟨ra23, rc24, rfl⟩ := row_slice hv.head;apply uN;refine oG (vI ((i + 1 : Nat) : Int)) rfl (ex_add rfl rfl rfl (by rw [i64_in (by omega)]; omega)) ?_;refine then_normal ?_
   go_roundw
   case rel => exact ⟨i + 1, ns ++ [n], _, _, rfl, by rw [List.length_append, List.length_singleton], by omega, by rw [List.length_append, List.length_singleton, hnl], fun j t' n' ht' hn' => (by
      rcases Nat.lt_or_ge j ns.length with h | h
      ·rw [List.getElem?_append_left h] at hn'; exact hall j t' n' ht' hn'
      have hj := (List.getElem?_eq_some_iff.1 hn').1;rw [List.length_append, List.length_singleton] at hj;obtain rfl : j = ns.length := by omega
      rw [List.getElem?_append_right (Nat.le_refl _), Nat.sub_self] at hn';rw [hnl, hx] at ht';cases ht'; cases hn'; exact hnp), by rw [List.length_append, List.length_singleton, ← int_snoc]; exact (hv.kp [] 1 1)⟩
   case measure => show ts.length - (((i + 1 : Nat) : Int)).toNat < ts.length - ((i : Int)).toNat; omega
  intro _ _ _ _;apply uN;refine bodyPost_ret (results_tmp2 rfl _ _ _) rfl ?_;obtain rfl : i = ts.length := by omega
  obtain ⟨D, hD, hv, hro, hoko, -⟩ := (hv).rowBy;exact ⟨D, ra, rc, ns, 0, hD, rfl, hro, .inl ⟨rfl, hnl, hall⟩, hv⟩
theorem rtal29 : AL Tryz.prog 29 [vI 0, vS [], vI 0, vN] := fun w => by kernel_rfl
theorem rtfa29_3 : FA Tryz.prog 29 3 3 := fun w b o => by kernel_rfl
theorem rtna27 (w : World) : (isAgg 27).run Tryz.prog w = .ok false w := by kernel_rfl
theorem rtcallable77 : Callable Tryz.prog 77 := cb Tryz.func77 (by kernel_rfl)
theorem rtmk29 : (Tryz.prog.info? 29).map (fun i => (i.zero, i.size, i.bytes)) = some (some (.agg #[vI 0, vS [], vI 0, vN]), 4, 56) := by kernel_rfl
theorem rtel27 : Elem Tryz.prog 27 29 (.agg #[vI 0, vS [], vI 0, vN]) 4 56 := elem_of Tryz.underlying27 rtmk29 (by rfl) (by decide)
theorem rtsz27 : (Tryz.prog.info? 27).map (·.size) = some 1 := by kernel_rfl
theorem respStrsR (B : Base) (H : List Res) (w : World) (sa : Option Addr) (sc : Nat) (ss : List (List UInt8)) (hr : RdV B [] sa (textCells ss)) (hm : ss.length ≤ 1000000) (hv : Inv B H w) :
  Calls Tryz.prog 120 #[.slice sa ss.length sc] w fun e w' => ∃ C da dc, B.Le C ∧ e = .returned (.agg #[vI 5, vS (([] : List UInt8)), vI 0, .slice da ss.length dc]) ∧ SliceOk da ss.length dc ∧ RdV C [] da (strsCells ss) ∧ Inv C H w' := by
 refine cW Tryz.func120 rfl Tryz.ntmps120 ?_;simp only [al];apply uN;intro _ _;refine sl_alloc tV (wn rfl) rfl hv rtal29 (fun b2 w3 hv => ?_);apply uN;intro _ _;refine oG (.agg #[vI 5, vS [], vI 0, vN]) rfl (ex_buildN (vs := #[(0, vI 5)]) rfl (by simp only [List.map_toArray, List.map_cons, List.map_nil]; rfl) (by kernel_rfl)) ?_;refine sl_alloc tV (wn rfl) rfl hv rtal29 (fun b5 w6 hv => ?_);refine zX 0 rfl hv rssz29 rfl fun w7 hv => ?_
 apply uN;intro _ _ _ _;refine oG (vI (ss.length : Int)) rfl (ex_len0 Tryz.underlying22 rfl rfl) ?_
 gi_loopw [9] (fun x9 wr => ∃ (i : Nat) (ra : Option Addr) (rc : Nat), x9 = vI i ∧ i ≤ ss.length ∧ Inv B (Res.row 29 4 (.slice ra i rc) i (strsCells (ss.take i)) :: Res.cell b5 [vI 5, vS [], vI 0, .slice ra i rc] 29 :: Res.cell b2 [vI 0, vS [], vI 0, vN] 29 :: H) wr) (fun x9 _ => ss.length - (intOf x9).toNat)
 case atStart => exact ⟨0, none, 0, rfl, Nat.zero_le _, (((hv.front 1 rfl).front 1 rfl)).rowNil 29 4⟩
 case round =>
  obtain ⟨i, ra, rc, rfl, hi, hv⟩ := hrel;apply uN;intro _ _;refine uB (fun hb12 => ?_) fun hb12 => ?_
  ·intro _ _;apply uN;intro _ _ _ _;obtain ⟨x, hx⟩ : ∃ x, ss[i]? = some x := ⟨_, List.getElem?_eq_getElem (show i < ss.length by omega)⟩;obtain ⟨bb, bo, had, hrdx⟩ := text_reads hr hx;subst had;apply uN;refine oG (.pointer (some ⟨bb, bo + i, none⟩)) rfl (ex_index rfl rfl rfl (run_idx1 (k := i) Tryz.underlying22 ites22 (by omega))) ?_;refine oL _ rfl (run_load1 itna9 (hrdx _ _ _ (Base.Le.refl _) no_res hv 0 _ rfl)) ?_;refine rW mixed [3, 4, 5, 7] [0,1,2,3,4,5,6,7] 22 rfl (by kernel_rfl) hv ?_;simp only [qm, opAt];refine dG (.pointer (some ⟨b5, 3, none⟩)) rfl (ex_field rfl rfl (rtfa29_3 _ _ _)) ?_;refine dF _ rfl (fun hv => ex_load rfl rfl (run_load1 rtna27 (hv.load 1 3 rfl rfl))) fun f16 hf16 => ?_
   apply uN;refine dS rfl fun w17 hv => mC rtcallable77 rfl ((respStr B _ _ x hv).mono ?_) rfl
   rintro e w18 ⟨rfl, hv⟩;refine ⟨_, rfl, dV hv (fC (fun ww hv => hf16 ww (ex_load rfl rfl (run_load1 rtna27 (hv.load 1 3 rfl rfl)))) fN) ?_⟩;refine dS rfl fun w19 hv => mem_rowAgg (L := [vI 3, vS x, vI 0, vN]) rfl rfl rfl hv rtel27 rfl (by decide) (fun b20 w21 hv => ?_)
   refine dV hv (fC (fun ww hv => hf16 ww (ex_load rfl rfl (run_load1 rtna27 (hv.load 2 3 rfl rfl)))) fN) (dS rfl fun w22 hv => ?_);replace hv := hv.front 1 rfl;simp only [eS, eZ] at hv;refine mem_append (news := [vI 3, vS x, vI 0, vN]) rfl rfl rfl rfl rtel27 hv (ok_full (by omega)) rfl (rd_all (hv.get 1 rfl)) (by intro u hu; simp only [List.mem_cons, List.not_mem_nil, or_false] at hu; rcases hu with rfl | rfl | rfl | rfl <;> rfl) (by unfold maxLen; omega) (by omega) (fun rv23 w26 hv => ?_);obtain ⟨ra24, rc25, rfl⟩ := row_slice hv.head;refine dV hv (fK rfl fN) ?_;simp only [zP, po];refine dG (.pointer (some ⟨b5, 3, none⟩)) rfl (ex_field rfl rfl (rtfa29_3 _ _ _)) (dS rfl fun w27 hv => ?_);refine mV 2 (.slice ra24 (i + 1) rc25) rfl hv rtsz27 rfl rfl (fun w28 hv => ?_);simp only [zS, zO, sp] at hv;refine dV hv (fK rfl fN) (dE fun w29 hv => ?_);apply uN;refine oG (vI ((i + 1 : Nat) : Int)) rfl (ex_add rfl rfl rfl (by rw [i64_in (by omega)]; omega)) ?_;refine then_normal ?_
   go_roundw
   case rel => exact ⟨i + 1, _, _, rfl, by omega, by rw [strsCells_next hx]; exact (hv.kp [3, 3, 2] 3 1)⟩
   case measure => show ss.length - (((i + 1 : Nat) : Int)).toNat < ss.length - ((i : Int)).toNat; omega
  intro _ _ _ _;refine oL (.agg #[vI 5, vS [], vI 0, .slice ra i rc]) rfl (lM 1 rswd29 hv rfl rfl rfl rfl) ?_;refine zX 2 rfl hv rssz29 rfl fun w32 hv => ?_
  apply uN;refine bC 2 rswd29 hv rfl rfl rfl rfl ?_;obtain rfl : i = ss.length := by omega
  obtain ⟨C, hC, hv, hro, hoko, -⟩ := ((hv.sub (sC _ (sD _ (sD _ (sR _)))))).rowBy;rw [List.take_length] at hro;exact ⟨C, ra, rc, hC, rfl, hoko, hro, hv⟩
theorem rpAt_strs {C : Base} {l : List (List UInt8)} {a : Option Addr} {c : Nat} (hok : SliceOk a l.length c) (hr : RdV C [] a (strsCells l)) : RpAt C (rStrs l) (rpCells 5 [] 0 (.slice a l.length c)) :=
 rpAt_of (l := l.map rStr) ⟨a, c, by rw [List.length_map], by rw [List.length_map]; exact hok, hr⟩ (strsCells_at l)
theorem cloneRps0 (B : Base) (H : List Res) (w : World) (hv : Inv B H w) :
  Calls Tryz.prog 128 #[vN] w fun e w' => e = .returned (vN) ∧ Inv B H w' := by
 refine cW Tryz.func128 rfl Tryz.ntmps128 ?_;simp only [al];apply uN;intro _ _;apply uN;intro _ _ _ _;refine oG (.bool true) rfl (ex_slnil Tryz.underlying27 rfl rfl rfl rfl) ?_;intro _ _;apply uN;refine bR rfl rfl ?_;exact ⟨rfl, hv⟩
theorem rlmk29 : (Tryz.prog.info? 29).map (fun i => (i.zero, i.size, i.bytes)) = some (some (.agg #[vI 0, vS [], vI 0, vN]), 4, 56) := by kernel_rfl
theorem rlel27 : Elem Tryz.prog 27 29 (.agg #[vI 0, vS [], vI 0, vN]) 4 56 := elem_of Tryz.underlying27 rlmk29 (by rfl) (by decide)
theorem cloneRps1 (B : Base) (H : List Res) (w : World) (a : Addr) (n c : Nat) (xs : List Value) (hok : SliceOk (some a) n c) (hl : xs.length = n * 4) (h1 : ∀ u ∈ xs, u.oneCell' = true) (hn : n ≤ 1000000) (hr : RdV B [] (some a) xs) (hv : Inv B H w) :
  Calls Tryz.prog 128 #[.slice (some a) n c] w fun e w' => ∃ v, e = .returned v ∧ Inv B (Res.row 29 4 v n xs :: H) w' := by
 refine cW Tryz.func128 rfl Tryz.ntmps128 ?_;simp only [al];apply uN;intro _ _;apply uN;intro _ _ _ _;refine oG (.bool false) rfl (ex_slnil Tryz.underlying27 rfl rfl rfl rfl) ?_;intro _ _;refine sl_row0 (size := 4) tV (wn rfl) rfl hv (e := 29) (fun w => by kernel_rfl) (fun b5 w6 hv => ?_);apply uN;refine sl_append (news := xs) tV (wn rfl) rfl rfl rfl rlel27 hv hok hl ((hr.more (Base.Le.refl _) (fun _ h => by cases h)).src hv) (h1) (by unfold maxLen; omega) (by omega) (fun rv7 w10 hv => ?_);obtain ⟨ra8, rc9, rfl⟩ := row_slice hv.head;apply uN;refine bR rfl rfl ?_;rw [Nat.zero_add, List.nil_append] at hv;exact ⟨_, by rw [Nat.zero_add]; rfl, hv⟩
theorem cloneRps (B : Base) (H : List Res) (w : World) (ad : Option Addr) (n c : Nat) (xs : List Value) (hok : SliceOk ad n c) (hl : xs.length = n * 4) (h1 : ∀ u ∈ xs, u.oneCell' = true) (hn : n ≤ 1000000) (hr : RdV B [] ad xs) (hv : Inv B H w) :
  Calls Tryz.prog 128 #[.slice ad n c] w fun e w' => ∃ va vc, e = .returned (.slice va n vc) ∧ Inv B (Res.row 29 4 (.slice va n vc) n xs :: H) w' := by
 cases ad with
 | none =>
  have hc0 : c = 0 := hok.nil rfl;have hn0 : n = 0 := by have := hok.le; omega
  subst hc0 hn0;have hx : xs = [] := List.eq_nil_of_length_eq_zero (by simpa using hl);subst hx;refine (cloneRps0 B H w hv).mono ?_;rintro e w' ⟨rfl, hv⟩;exact ⟨_, _, rfl, hv.rowNil _ _⟩
 | some a =>
  refine (cloneRps1 B H w a n c xs hok hl h1 hn hr hv).mono ?_;rintro e w' ⟨v, rfl, hv⟩;obtain ⟨va, vc, rfl⟩ := row_slice hv.head;exact ⟨_, _, rfl, hv⟩
theorem respOne0 (B : Base) (H : List Res) (w : World) (la : Option Addr) (n lc : Nat) (h0 : 0 < n) (hv : Inv B H w) :
  Calls Tryz.prog 144 #[.slice la n lc, vN] w fun e w' => e = .returned (.bool false) ∧ Inv B H w' := by
 refine cW Tryz.func144 rfl Tryz.ntmps144 ?_;simp only [al];apply uN;intro _ _;apply uN;intro _ _;refine rW mixed [] [0,1,2,3,4,5,6,7,8,9,10,11,12,13,14,15,16,17] 22 rfl (by kernel_rfl) hv ?_;simp only [qm, opAt];apply uN;refine dG (vI n) rfl (ex_len0 Tryz.underlying27 rfl rfl) ?_;refine dG (.bool true) rfl (ex_gtr rfl rfl rfl (qT (by omega))) ?_;apply uN;refine dG (vI n) rfl (ex_len0 Tryz.underlying27 rfl rfl) ?_;apply uN;refine dG (vI 0) rfl (ex_len0 Tryz.underlying27 rfl rfl) ?_;refine dG (.bool false) rfl (ex_eql rfl rfl rfl (qF (by omega))) ?_;apply uN;refine dE fun w3 hv => ?_
 apply uN;refine bR rfl rfl (⟨rfl, hv⟩)
theorem rlal217 : AL Tryz.prog 217 [vI 0, vI 0, vN, vN] := fun w => by kernel_rfl
theorem rlwd217 : Wide Tryz.prog 217 4 := wide_of (fun w => by kernel_rfl) (by kernel_rfl)
theorem rlsz217 : (Tryz.prog.info? 217).map (·.size) = some 4 := by kernel_rfl
theorem trailLeaf (B : Base) (H : List Res) (w : World) (n1 n2 : Int) (va vb : Value) (_ : va.cells = #[va]) (h1b : va.oneCell' = true) (_ : vb.cells = #[vb]) (h2b : vb.oneCell' = true) (aa : Option Addr) (ac : Nat) (hv : Inv B H w) :
  Calls Tryz.prog 129 #[.agg #[vI n1, vI n2, va, vb], .slice aa 0 ac, .slice aa 0 ac] w fun e w' => e = .returned (.tuple #[.agg #[vI n1, vI n2, va, vb], .bool false]) ∧ Inv B H w' := by
 refine cW Tryz.func129 rfl Tryz.ntmps129 ?_;simp only [al];apply uN;intro _ _;refine sl_box (L := [vI n1, vI n2, va, vb]) tV (wn rfl) rfl rfl hv (fun w => by kernel_rfl) (fun b2 w3 hv => ?_);refine sl_alloc tV (wn rfl) rfl hv rlal217 (fun b4 w5 hv => ?_);apply uN;intro _ _ _ _;refine oG (vI 0) rfl (ex_len0 Tryz.underlying27 rfl rfl) ?_;refine oG (.bool true) rfl (ex_eql rfl rfl rfl (by decide)) ?_;intro _ _;refine oL (.agg #[vI n1, vI n2, va, vb]) rfl (lM 1 rlwd217 hv rfl rfl rfl rfl) ?_;refine zX 0 rfl hv rlsz217 rfl (fun w9 hv => ?_) (by exact ⟨rfl, rfl, h1b, h2b, trivial⟩);apply uN;refine bodyPost_ret (res_cell2 rfl rfl (lM 0 rlwd217 hv rfl rfl rfl rfl)) rfl (⟨rfl, (hv.kp [] 0 2)⟩)
theorem rlfa217_2 : FA Tryz.prog 217 2 2 := fun w b o => by kernel_rfl
theorem rlcallable144 : Callable Tryz.prog 144 := cb Tryz.func144 (by kernel_rfl)
theorem rlfa217_0 : FA Tryz.prog 217 0 0 := fun w b o => by kernel_rfl
theorem rlna3 (w : World) : (isAgg 3).run Tryz.prog w = .ok false w := by kernel_rfl
theorem rlsz3 : (Tryz.prog.info? 3).map (·.size) = some 1 := by kernel_rfl
theorem rlfa217_1 : FA Tryz.prog 217 1 1 := fun w b o => by kernel_rfl
theorem rlfa217_3 : FA Tryz.prog 217 3 3 := fun w b o => by kernel_rfl
theorem trailNew (B : Base) (H : List Res) (w : World) (la : Option Addr) (n lc : Nat) (h0 : 0 < n) (hv : Inv B H w) :
  Calls Tryz.prog 129 #[.agg #[vI 0, vI 0, vN, vN], .slice la n lc, .slice la n lc] w fun e w' => e = .returned (.tuple #[.agg #[vI 1, vI 2, .slice la n lc, .slice la n lc], .bool true]) ∧ Inv B H w' := by
 refine cW Tryz.func129 rfl Tryz.ntmps129 ?_;simp only [al];apply uN;intro _ _;refine sl_box (L := [vI 0, vI 0, vN, vN]) tV (wn rfl) rfl rfl hv (fun w => by kernel_rfl) (fun b2 w3 hv => ?_);refine sl_alloc tV (wn rfl) rfl hv rlal217 (fun b4 w5 hv => ?_);apply uN;intro _ _ _ _;refine oG (vI n) rfl (ex_len0 Tryz.underlying27 rfl rfl) ?_;refine uU (by omega) ?_;refine oF (.pointer (some ⟨b2, 2, none⟩)) rfl (rlfa217_2 _ _ _) ?_;refine oL _ rfl (run_load1 rtna27 (hv.load 1 2 rfl rfl)) ?_;refine xC rlcallable144 rfl ((respOne0 B _ _ la n lc h0 hv).mono ?_) rfl;rintro e w8 ⟨rfl, hv⟩;apply eR;intro _ _;refine oF (vP b2) rfl (rlfa217_0 _ _ _) ?_;refine oL _ rfl (run_load1 rlna3 (hv.load 1 0 rfl rfl)) ?_;refine oG (vI 1) rfl (ex_add rfl rfl rfl (i64_in (by omega))) ?_;refine oF (vP b2) rfl (rlfa217_0 _ _ _) ?_;refine xV 1 (vI 1) rfl hv rlsz3 rfl rfl (fun w10 hv => ?_);simp only [zS, zO, sp] at hv;apply uN;intro _ _ _ _;refine oF (vP b2) rfl (rlfa217_0 _ _ _) ?_;refine oL _ rfl (run_load1 rlna3 (hv.load 1 0 rfl rfl)) ?_;refine oF (.pointer (some ⟨b2, 1, none⟩)) rfl (rlfa217_1 _ _ _) ?_;refine oL _ rfl (run_load1 rlna3 (hv.load 1 1 rfl rfl)) ?_;refine oG (.bool true) rfl (ex_geq rfl rfl rfl (by decide)) ?_;refine oF (vP b2) rfl (rlfa217_0 _ _ _) ?_;refine oL _ rfl (run_load1 rlna3 (hv.load 1 0 rfl rfl)) ?_;refine oG (vI 2) rfl (ex_mul rfl rfl rfl (i64_in (by omega))) ?_;refine oF (.pointer (some ⟨b2, 1, none⟩)) rfl (rlfa217_1 _ _ _) ?_;refine xV 1 (vI 2) rfl hv rlsz3 rfl rfl (fun w13 hv => ?_);simp only [zS, zO, sp] at hv;refine oF (.pointer (some ⟨b2, 2, none⟩)) rfl (rlfa217_2 _ _ _) ?_;refine xV 1 (.slice la n lc) rfl hv rtsz27 rfl rfl (fun w14 hv => ?_);simp only [zS, zO, sp] at hv;refine oF (.pointer (some ⟨b2, 3, none⟩)) rfl (rlfa217_3 _ _ _) ?_;refine xV 1 (.slice la n lc) rfl hv rtsz27 rfl rfl (fun w15 hv => ?_)
 simp only [zS, zO, sp] at hv;apply uN;intro _ _;refine oL (.agg #[vI 1, vI 2, .slice la n lc, .slice la n lc]) rfl (lM 1 rlwd217 hv rfl rfl rfl rfl) ?_;refine zX 0 rfl hv rlsz217 rfl fun w17 hv => ?_
 apply uN;refine bodyPost_ret (res_cell2 rfl rfl (lM 0 rlwd217 hv rfl rfl rfl rfl)) rfl ?_;exact ⟨rfl, (hv.kp [] 0 2)⟩
open Classical in
noncomputable def lvMu (x : Value) (w : World) : Nat := match x with
 | .slice (some ⟨b, _, _⟩) (_ + 1) _ => if w.cell? ⟨b, 1, none⟩ = some (vI 0) then 2 else 1
 | _ => 0
open Classical in
theorem lvMu2 {b c : Nat} {w : World} (h : w.cell? ⟨b, 0 + 1, none⟩ = some (vI 0)) : lvMu (.slice (some ⟨b, 0, none⟩) 1 c) w = 2 := if_pos h
open Classical in
theorem lvMu1 {b c : Nat} {w : World} : 1 ≤ lvMu (.slice (some ⟨b, 0, none⟩) 1 c) w := by
 show 1 ≤ if _ then 2 else 1
 split <;> omega
open Classical in
theorem lvMu3 {b c : Nat} {w : World} (h : w.cell? ⟨b, 0 + 1, none⟩ = some (vI 1)) : lvMu (.slice (some ⟨b, 0, none⟩) 1 c) w < 2 := by
 show (if _ then 2 else 1) < 2;rw [if_neg (by rw [Nat.zero_add] at h; rw [h]; simp)]; omega
theorem lvMu0 {a : Option Addr} {c : Nat} {w : World} : lvMu (.slice a 0 c) w = 0 := by cases a <;> rfl
theorem rlal29 : AL Tryz.prog 29 [vI 0, vS [], vI 0, vN] := fun w => by kernel_rfl
theorem rlcallable128 : Callable Tryz.prog 128 := cb Tryz.func128 (by kernel_rfl)
theorem rlmk219 : (Tryz.prog.info? 219).map (fun i => (i.zero, i.size, i.bytes)) = some (some (.agg #[vN, vI 0, vI 0, vN, vN]), 5, 88) := by kernel_rfl
theorem rlel220 : Elem Tryz.prog 220 219 (.agg #[vN, vI 0, vI 0, vN, vN]) 5 88 := elem_of Tryz.underlying220 rlmk219 (by rfl) (by decide)
theorem rles220 (w : World) : (sizeOf (Tryz.prog.elem 220)).run Tryz.prog w = .ok 5 w := by kernel_rfl
theorem rlwd219 : Wide Tryz.prog 219 5 := wide_of (fun w => by kernel_rfl) (by kernel_rfl)
theorem rlal219 : AL Tryz.prog 219 [vN, vI 0, vI 0, vN, vN] := fun w => by kernel_rfl
theorem rlsz219 : (Tryz.prog.info? 219).map (·.size) = some 5 := by kernel_rfl
theorem rlfa219_0 : FA Tryz.prog 219 0 0 := fun w b o => by kernel_rfl
theorem rles27 (w : World) : (sizeOf (Tryz.prog.elem 27)).run Tryz.prog w = .ok 4 w := by kernel_rfl
theorem rlfa219_1 : FA Tryz.prog 219 1 1 := fun w b o => by kernel_rfl
theorem rlcallable129 : Callable Tryz.prog 129 := cb Tryz.func129 (by kernel_rfl)
theorem respList (B : Base) (H : List Res) (w : World) (ra : Option Addr) (m rc : Nat) (xs : List Value) (r : Rp) (hok : SliceOk ra m rc) (hr : RdV B [] ra xs) (hin : ListIn B m xs r) (hm : m ≤ 1000000) (hv : Inv B H w) :
  Calls Tryz.prog 97 #[.slice ra m rc] w fun e w' => ∃ C v, B.Le C ∧ e = .returned (.agg (rpCells 5 [] 0 v).toArray) ∧ RpAt C r (rpCells 5 [] 0 v) ∧ Inv C H w' := by
 refine cW Tryz.func97 rfl Tryz.ntmps97 ?_;simp only [al];apply uN;intro _ _;refine sl_alloc tV (wn rfl) rfl hv rlal29 (fun b2 w3 hv => ?_);apply uN;intro _ _;refine xC rlcallable128 rfl ((cloneRps B _ _ ra m rc xs hok hin.len hin.one hm hr hv).mono ?_) rfl;rintro e w5 ⟨oa, oc, rfl, hv⟩;apply eR;refine oG (.agg #[vI 5, vS [], vI 0, .slice oa m oc]) rfl (ex_buildN (vs := #[(0, vI 5), (3, .slice oa m oc)]) rfl (by simp only [List.map_toArray, List.map_cons, List.map_nil]; rfl) (by kernel_rfl)) ?_;refine sl_alloc tV (wn rfl) rfl hv rlal29 (fun b6 w7 hv => ?_);simp only [zP, po];refine zX 0 rfl hv rssz29 rfl fun w8 hv => ?_
 apply uN;intro _ _;refine oF (.pointer (some ⟨b6, 3, none⟩)) rfl (rtfa29_3 _ _ _) ?_;refine oL _ rfl (run_load1 rtna27 (hv.load 0 3 rfl rfl)) ?_;refine oG (.agg #[.slice oa m oc, vI 0, vI 0, vN, vN]) rfl (ex_buildN (vs := #[(0, .slice oa m oc)]) rfl (by simp only [List.map_toArray, List.map_cons, List.map_nil]; rfl) (by kernel_rfl)) ?_;refine sl_rowAgg (L := [.slice oa m oc, vI 0, vI 0, vN, vN]) tV (wn rfl) rfl rfl hv rlel220 rfl (by decide) (fun b10 w11 hv => ?_);apply uN;intro _ _
 gi_loopw [4] (fun x4 wr => ∃ (v0 : Option Addr) (vc : Nat), ((∃ (C : Base) (ls : List Leaf) (oa : Option Addr) (oc tb tc : Nat) (n1 n2 : Int) (va vb : Value), x4 = .slice (some ⟨tb, 0, none⟩) 1 tc ∧ B.Le C ∧ (ls.length ≤ 1000000 ∧ va.cells = #[va] ∧ va.oneCell' = true ∧ vb.cells = #[vb] ∧ vb.oneCell' = true) ∧ (∀ D, C.Le D → RowB D (.slice oa ls.length oc) ls.length (lvC ls none) → RpAt D r (rpCells 5 [] 0 (.slice v0 m vc))) ∧ Inv C (Res.row 219 5 (.slice (some ⟨tb, 0, none⟩) 1 tc) 1 [.slice oa ls.length oc, vI n1, vI n2, va, vb] :: Res.row 29 4 (.slice oa ls.length oc) ls.length (lvC ls none) :: Res.cell b6 [vI 5, vS [], vI 0, .slice v0 m vc] 29 :: Res.cell b2 [vI 0, vS [], vI 0, vN] 29 :: H) wr) ∨ (∃ (C : Base) (pre l : List Leaf) (x : Leaf) (la : Option Addr) (lc : Nat) (oa : Option Addr) (oc tb tc : Nat), x4 = .slice (some ⟨tb, 0, none⟩) 1 tc ∧ B.Le C ∧ (pre.length ≤ 1000000 ∧ l.length ≤ 1000000 ∧ SliceOk la l.length lc ∧ RdV C [] la (lvC l none)) ∧ (∀ D, C.Le D → ∀ u, RowB D u l.length (lvC l none) → RowB D (.slice oa (pre.length + 1) oc) (pre.length + 1) (lvC pre (some (x, u))) → RpAt D r (rpCells 5 [] 0 (.slice v0 m vc))) ∧ Inv C (Res.row 219 5 (.slice (some ⟨tb, 0, none⟩) 1 tc) 1 [.slice oa (pre.length + 1) oc, vI 0, vI 0, vN, vN] :: Res.row 29 4 (.slice oa (pre.length + 1) oc) (pre.length + 1) (lvC pre (some (x, .slice la l.length lc))) :: Res.cell b6 [vI 5, vS [], vI 0, .slice v0 m vc] 29 :: Res.cell b2 [vI 0, vS [], vI 0, vN] 29 :: H) wr) ∨ (∃ (C : Base) (ta : Option Addr) (tc : Nat), x4 = .slice ta 0 tc ∧ B.Le C ∧ RpAt C r (rpCells 5 [] 0 (.slice v0 m vc)) ∧ Inv C (Res.cell b6 [vI 5, vS [], vI 0, .slice v0 m vc] 29 :: Res.cell b2 [vI 0, vS [], vI 0, vN] 29 :: H) wr))) (fun x4 wr => lvMu x4 wr)
 case atStart => exact (by
   have hv := (((((hv.front 3 rfl).front 2 rfl).front 3 rfl).front 3 rfl)).cellRow (n := 1) (c := 1) (size := 5) rfl (by decide) (by decide);rcases hin with ⟨ls, rfl, rfl, rfl⟩ | ⟨pre, l, x, la, lc, rfl, rfl, hla, hrl, hml, rfl⟩
   ·refine ⟨oa, oc, .inl ⟨B, ls, oa, oc, _, _, 0, 0, _, _, rfl, Base.Le.refl _, ⟨hm, rfl, rfl, rfl, rfl⟩, fun D hD h => rlist_at (by rw [List.length_map]; exact h) (lvC_at0 ls), hv⟩⟩
   refine ⟨oa, oc, .inr (.inl ⟨B, pre, l, x, la, lc, oa, oc, _, _, rfl, Base.Le.refl _, ⟨by omega, hml, hla, hrl⟩, fun D hD u hu h => rlist_at (by rw [List.length_append, List.length_map]; exact h) (lvC_at1 hu), hv⟩)⟩)
 case round =>
  rcases hrel with ⟨v0, vc, ⟨C, ls, oa, oc, tb, tc, n1, n2, va, vb, rfl, hC, ⟨hls, h1a, h1b, h2a, h2b⟩, hfin, hv⟩ | ⟨C, pre, l, x, la, lc, oa, oc, tb, tc, rfl, hC, ⟨hpm, hlm, hla, hrl⟩, hfin, hv⟩ | ⟨C, ta, tc, rfl, hC, hat, hv⟩⟩
  ·have hmu := @lvMu1 tb tc wr;apply uN;intro _ _ _ _;refine oG (vI 1) rfl (ex_len0 Tryz.underlying220 rfl rfl) ?_;refine oG (.bool true) rfl (ex_gtr rfl rfl rfl (by decide)) ?_;intro _ _;refine oG (vI 1) rfl (ex_len0 Tryz.underlying220 rfl rfl) ?_;refine oG (vI 0) rfl (ex_sub rfl rfl rfl (i64_in (by omega))) ?_;refine oG (.pointer (some ⟨tb, 0 + 0 * 5, none⟩)) rfl (ex_index rfl rfl rfl (run_idx (k := 0) Tryz.underlying220 rles220 (by omega))) ?_;refine oL (.agg #[.slice oa ls.length oc, vI n1, vI n2, va, vb]) rfl (run_loadR (cs := [.slice oa ls.length oc, vI n1, vI n2, va, vb]) rlwd219 (row_loads (hv.get 0 rfl) (k := 0) (by omega) (fun j hj => (by rw [Nat.zero_add])))) ?_;refine sl_alloc tV (wn rfl) rfl hv rlal219 (fun b17 w18 hv => ?_);simp only [zP, po];refine zX 0 rfl hv rlsz219 rfl (fun w19 hv => ?_) (by exact ⟨rfl, rfl, rfl, h1b, h2b, trivial⟩);apply uN;intro _ _;refine oG (vI 1) rfl (ex_len0 Tryz.underlying220 rfl rfl) ?_;refine oG (vI 0) rfl (ex_sub rfl rfl rfl (i64_in (by omega))) ?_;refine oG (.slice (some ⟨tb, 0, none⟩) 0 tc) rfl (ex_slice (hi' := some (vI 0)) rfl rfl rfl (congrArg some rfl) rfl (run_hi Tryz.underlying220 rles220 (Nat.zero_le _))) ?_;intro _ _;replace hv := hv.front 1 rfl;simp only [eS, eZ] at hv;replace hv := hv.rowLess (m := 0) (Nat.zero_le _);rw [Nat.zero_mul, List.take_zero] at hv;apply uN;refine oF (vP b17) rfl (rlfa219_0 _ _ _) ?_;refine oL _ rfl (run_load1 rtna27 (hv.load 1 0 rfl rfl)) ?_;refine oG (vI (ls.length : Int)) rfl (ex_len0 Tryz.underlying27 rfl rfl) ?_
   gi_loopw [34, 4] (fun x34 x4 wr => ∃ (i : Nat), x34 = vI i ∧ x4 = .slice (some ⟨tb, 0, none⟩) 0 tc ∧ i ≤ ls.length ∧ Inv C (Res.row 219 5 (.slice (some ⟨tb, 0, none⟩) 0 tc) 0 ([] : List Value) :: Res.row 29 4 (.slice oa ls.length oc) ls.length (lvC ls none) :: Res.cell b17 [.slice oa ls.length oc, vI n1, vI n2, va, vb] 219 :: Res.cell b6 [vI 5, vS [], vI 0, .slice v0 m vc] 29 :: Res.cell b2 [vI 0, vS [], vI 0, vN] 29 :: H) wr) (fun x34 x4 _ => ls.length - (intOf x34).toNat)
   case atStart => exact ⟨0, rfl, rfl, Nat.zero_le _, (((((hv.front 4 rfl).front 4 rfl).front 3 rfl).front 4 rfl).front 4 rfl)⟩
   case round =>
    obtain ⟨i, rfl, rfl, hi, hv⟩ := hrel;apply uN;intro _ _;refine uB (fun hb24 => ?_) fun hb24 => ?_
    ·intro _ _;apply uN;intro _ _ _ _;obtain ⟨q, hq⟩ : ∃ q, ls[i]? = some q := ⟨_, List.getElem?_eq_getElem (by omega)⟩;have hv8 := hv;clear hv;obtain ⟨ob, h9⟩ := row_some (hv8.get 1 rfl) (by omega);subst h9;have hv := hv8;clear hv8;apply uN;refine oG (.pointer (some ⟨ob, 0 + i * 4, none⟩)) rfl (ex_index rfl rfl rfl (run_idx (k := i) Tryz.underlying27 rles27 (by omega))) ?_;refine oL (.agg #[vI q.k, vS q.s, vI q.n, vN]) rfl (run_loadR (cs := [vI q.k, vS q.s, vI q.n, vN]) rswd29 (row_loads (hv.get 1 rfl) (k := i * 4) (Nat.zero_add _) (fun j hj => (lvC_pre hq hj).symm))) ?_;refine sl_alloc tV (wn rfl) rfl hv rlal29 (fun b28 w29 hv => ?_);apply uN;refine zX 0 rfl hv rssz29 rfl fun w30 hv => ?_
     apply uN;intro _ _;refine oF (vP b17) rfl (rlfa219_0 _ _ _) ?_;refine oL _ rfl (run_load1 rtna27 (hv.load 3 0 rfl rfl)) ?_;refine oG (.pointer (some ⟨ob, 0 + i * 4, none⟩)) rfl (ex_index rfl rfl rfl (run_idx (k := i) Tryz.underlying27 rles27 (by omega))) ?_;refine oF (.pointer (some ⟨ob, 0 + i * 4 + 3, none⟩)) rfl (rtfa29_3 _ _ _) ?_;replace hv := hv.front 2 rfl;simp only [eS, eZ] at hv;refine sl_storeRow (v := vN) tV (wn rfl) rfl rfl rfl hv rtsz27 (by rw [lvC_len0]; omega) rfl rfl (fun w32 hv => ?_);rw [show 0 + i * 4 + 3 = i * 4 + 3 by omega, lvC_set hq] at hv;apply uN;intro _ _;refine oF (.pointer (some ⟨b17, 1, none⟩)) rfl (rlfa219_1 _ _ _) ?_;refine oL (.agg #[vI n1, vI n2, va, vb]) rfl (lM 3 rlwd217 hv rfl rfl rfl rfl) ?_;refine oF (.pointer (some ⟨b28, 3, none⟩)) rfl (rtfa29_3 _ _ _) ?_;refine oL _ rfl (run_load1 rtna27 (hv.load 1 3 rfl rfl)) ?_;refine oF (.pointer (some ⟨b28, 3, none⟩)) rfl (rtfa29_3 _ _ _) ?_;refine oL _ rfl (run_load1 rtna27 (hv.load 1 3 rfl rfl)) ?_;refine xC rlcallable129 rfl ((trailLeaf C _ _ n1 n2 va vb h1a h1b h2a h2b none 0 hv).mono ?_) rfl;rintro e w34 ⟨rfl, hv⟩;apply eR;refine sl_alloc tV (wn rfl) rfl hv rlal217 (fun b35 w36 hv => ?_);simp only [zP, po];refine zX 0 rfl hv rlsz217 rfl (fun w37 hv => ?_) (by exact ⟨rfl, rfl, h1b, h2b, trivial⟩);apply uN;intro _ _;apply uN;refine oG (vI ((i + 1 : Nat) : Int)) rfl (ex_add rfl rfl rfl (by rw [i64_in (by omega)]; omega)) ?_;refine then_normal ?_
     go_roundw
     case rel => exact ⟨i + 1, rfl, rfl, by omega, (hv.kp [6, 6, 6, 4, 6] 5 2)⟩
     case measure => show ls.length - (((i + 1 : Nat) : Int)).toNat < ls.length - ((i : Int)).toNat; omega
    intro _ _;refine then_normal ?_
    go_roundw
    case rel => (obtain ⟨D, hD, hv, hro, hoko, -⟩ := ((hv.kp [4, 4, 3] 3 2)).rowBy; exact ⟨v0, vc, .inr (.inr ⟨D, _, _, rfl, hC.trans hD, hfin D hD ⟨oa, oc, rfl, hoko, hro⟩, hv⟩)⟩)
    case measure => (rw [lvMu0]; omega)
  ·have hmu : lvMu (.slice (some ⟨tb, 0, none⟩) 1 tc) wr = 2 := lvMu2 (row_load (hv.get 0 rfl) rfl);apply uN;intro _ _ _ _;refine oG (vI 1) rfl (ex_len0 Tryz.underlying220 rfl rfl) ?_;refine oG (.bool true) rfl (ex_gtr rfl rfl rfl (by decide)) ?_;intro _ _;refine oG (vI 1) rfl (ex_len0 Tryz.underlying220 rfl rfl) ?_;refine oG (vI 0) rfl (ex_sub rfl rfl rfl (i64_in (by omega))) ?_;refine oG (.pointer (some ⟨tb, 0 + 0 * 5, none⟩)) rfl (ex_index rfl rfl rfl (run_idx (k := 0) Tryz.underlying220 rles220 (by omega))) ?_;refine oL (.agg #[.slice oa (pre.length + 1) oc, vI 0, vI 0, vN, vN]) rfl (run_loadR (cs := [.slice oa (pre.length + 1) oc, vI 0, vI 0, vN, vN]) rlwd219 (row_loads (hv.get 0 rfl) (k := 0) (by omega) (fun j hj => (by rw [Nat.zero_add])))) ?_;refine sl_alloc tV (wn rfl) rfl hv rlal219 (fun b43 w44 hv => ?_);simp only [zP, po];refine zX 0 rfl hv rlsz219 rfl (fun w45 hv => ?_) (by exact ⟨rfl, rfl, rfl, rfl, rfl, trivial⟩);apply uN;intro _ _;refine oG (vI 1) rfl (ex_len0 Tryz.underlying220 rfl rfl) ?_;refine oG (vI 0) rfl (ex_sub rfl rfl rfl (i64_in (by omega))) ?_;refine oG (.slice (some ⟨tb, 0, none⟩) 0 tc) rfl (ex_slice (hi' := some (vI 0)) rfl rfl rfl (congrArg some rfl) rfl (run_hi Tryz.underlying220 rles220 (Nat.zero_le _))) ?_;intro _ _;replace hv := hv.front 1 rfl;simp only [eS, eZ] at hv;replace hv := hv.rowLess (m := 0) (Nat.zero_le _);rw [Nat.zero_mul, List.take_zero] at hv;apply uN;refine oF (vP b43) rfl (rlfa219_0 _ _ _) ?_;refine oL _ rfl (run_load1 rtna27 (hv.load 1 0 rfl rfl)) ?_;refine oG (vI ((pre.length + 1) : Int)) rfl (ex_len0 Tryz.underlying27 rfl rfl) ?_
   gi_loopw [34, 4] (fun x34 x4 wr => (∃ (i : Nat), x34 = vI i ∧ x4 = .slice (some ⟨tb, 0, none⟩) 0 tc ∧ i ≤ pre.length ∧ Inv C (Res.row 219 5 (.slice (some ⟨tb, 0, none⟩) 0 tc) 0 ([] : List Value) :: Res.row 29 4 (.slice oa (pre.length + 1) oc) (pre.length + 1) (lvC pre (some (x, .slice la l.length lc))) :: Res.cell b43 [.slice oa (pre.length + 1) oc, vI 0, vI 0, vN, vN] 219 :: Res.cell b6 [vI 5, vS [], vI 0, .slice v0 m vc] 29 :: Res.cell b2 [vI 0, vS [], vI 0, vN] 29 :: H) wr) ∨ (x34 = vI ((pre.length + 1 : Nat) : Int) ∧ x4 = .slice (some ⟨tb, 0, none⟩) 0 tc ∧ l = [] ∧ Inv C (Res.row 219 5 (.slice (some ⟨tb, 0, none⟩) 0 tc) 0 ([] : List Value) :: Res.row 29 4 (.slice oa (pre.length + 1) oc) (pre.length + 1) (lvC pre (some (x, nilS))) :: Res.cell b43 [.slice oa (pre.length + 1) oc, vI 0, vI 0, vN, vN] 219 :: Res.cell b6 [vI 5, vS [], vI 0, .slice v0 m vc] 29 :: Res.cell b2 [vI 0, vS [], vI 0, vN] 29 :: H) wr) ∨ (∃ (ca : Option Addr) (cc tb2 tc2 : Nat), x34 = vI ((pre.length + 1 : Nat) : Int) ∧ x4 = .slice (some ⟨tb2, 0, none⟩) 1 tc2 ∧ 0 < l.length ∧ Inv C (Res.row 219 5 (.slice (some ⟨tb2, 0, none⟩) 1 tc2) 1 [.slice ca l.length cc, vI 1, vI 2, .slice la l.length lc, .slice la l.length lc] :: Res.row 29 4 (.slice ca l.length cc) l.length (lvC l none) :: Res.row 29 4 (.slice oa (pre.length + 1) oc) (pre.length + 1) (lvC pre (some (x, .slice ca l.length cc))) :: Res.cell b43 [.slice oa (pre.length + 1) oc, vI 0, vI 0, vN, vN] 219 :: Res.cell b6 [vI 5, vS [], vI 0, .slice v0 m vc] 29 :: Res.cell b2 [vI 0, vS [], vI 0, vN] 29 :: H) wr)) (fun x34 x4 _ => (pre.length + 1) - (intOf x34).toNat)
   case atStart => exact .inl ⟨0, rfl, rfl, Nat.zero_le _, (((((hv.front 4 rfl).front 4 rfl).front 3 rfl).front 4 rfl).front 4 rfl)⟩
   case round =>
    rcases hrel with ⟨i, rfl, rfl, hi, hv⟩ | ⟨rfl, rfl, hl0, hv⟩ | ⟨ca, cc, tb2, tc2, rfl, rfl, h0, hv⟩
    ·apply uN;intro _ _;refine uT (by omega) ?_;intro _ _;apply uN;intro _ _ _ _;rcases (show i < pre.length ∨ i = pre.length by omega) with hip | rfl
     ·obtain ⟨q, hq⟩ : ∃ q, pre[i]? = some q := ⟨_, List.getElem?_eq_getElem (by omega)⟩;have hv8 := hv;clear hv;obtain ⟨ob, h9⟩ := row_some (hv8.get 1 rfl) (by omega);subst h9;have hv := hv8;clear hv8;apply uN;refine oG (.pointer (some ⟨ob, 0 + i * 4, none⟩)) rfl (ex_index rfl rfl rfl (run_idx (k := i) Tryz.underlying27 rles27 (by omega))) ?_;refine oL (.agg #[vI q.k, vS q.s, vI q.n, vN]) rfl (run_loadR (cs := [vI q.k, vS q.s, vI q.n, vN]) rswd29 (row_loads (hv.get 1 rfl) (k := i * 4) (Nat.zero_add _) (fun j hj => (lvC_pre hq hj).symm))) ?_;refine sl_alloc tV (wn rfl) rfl hv rlal29 (fun b53 w54 hv => ?_);apply uN;refine zX 0 rfl hv rssz29 rfl fun w55 hv => ?_
      apply uN;intro _ _;refine oF (vP b43) rfl (rlfa219_0 _ _ _) ?_;refine oL _ rfl (run_load1 rtna27 (hv.load 3 0 rfl rfl)) ?_;refine oG (.pointer (some ⟨ob, 0 + i * 4, none⟩)) rfl (ex_index rfl rfl rfl (run_idx (k := i) Tryz.underlying27 rles27 (by omega))) ?_;refine oF (.pointer (some ⟨ob, 0 + i * 4 + 3, none⟩)) rfl (rtfa29_3 _ _ _) ?_;replace hv := hv.front 2 rfl;simp only [eS, eZ] at hv;refine sl_storeRow (v := vN) tV (wn rfl) rfl rfl rfl hv rtsz27 (by rw [lvC_len1]; omega) rfl rfl (fun w57 hv => ?_);rw [show 0 + i * 4 + 3 = i * 4 + 3 by omega, lvC_set hq] at hv;apply uN;intro _ _;refine oF (.pointer (some ⟨b43, 1, none⟩)) rfl (rlfa219_1 _ _ _) ?_;refine oL (.agg #[vI 0, vI 0, vN, vN]) rfl (lM 3 rlwd217 hv rfl rfl rfl rfl) ?_;refine oF (.pointer (some ⟨b53, 3, none⟩)) rfl (rtfa29_3 _ _ _) ?_;refine oL _ rfl (run_load1 rtna27 (hv.load 1 3 rfl rfl)) ?_;refine oF (.pointer (some ⟨b53, 3, none⟩)) rfl (rtfa29_3 _ _ _) ?_;refine oL _ rfl (run_load1 rtna27 (hv.load 1 3 rfl rfl)) ?_;refine xC rlcallable129 rfl ((trailLeaf C _ _ 0 0 (vN) (vN) rfl rfl rfl rfl none 0 hv).mono ?_) rfl;rintro e w59 ⟨rfl, hv⟩;apply eR;refine sl_alloc tV (wn rfl) rfl hv rlal217 (fun b60 w61 hv => ?_);simp only [zP, po];refine zX 0 rfl hv rlsz217 rfl fun w62 hv => ?_
      apply uN;intro _ _;apply uN;refine oG (vI ((i + 1 : Nat) : Int)) rfl (ex_add rfl rfl rfl (by rw [i64_in (by omega)]; omega)) ?_;refine then_normal ?_
      go_roundw
      case rel => exact .inl ⟨i + 1, rfl, rfl, by omega, (hv.kp [6, 6, 6, 4, 6] 5 2)⟩
      case measure => show (pre.length + 1) - (((i + 1 : Nat) : Int)).toNat < (pre.length + 1) - ((i : Int)).toNat; omega
     rcases Nat.eq_zero_or_pos l.length with h0 | h0
     ·obtain rfl : l = [] := List.eq_nil_of_length_eq_zero h0;have hv8 := hv;clear hv;obtain ⟨ob, h9⟩ := row_some (hv8.get 1 rfl) (by omega);subst h9;have hv := hv8;clear hv8;apply uN;refine oG (.pointer (some ⟨ob, 0 + pre.length * 4, none⟩)) rfl (ex_index rfl rfl rfl (run_idx (k := pre.length) Tryz.underlying27 rles27 (by omega))) ?_;refine oL (.agg #[vI x.k, vS x.s, vI x.n, .slice la 0 lc]) rfl (run_loadR (cs := [vI x.k, vS x.s, vI x.n, .slice la 0 lc]) rswd29 (row_loads (hv.get 1 rfl) (k := pre.length * 4) (Nat.zero_add _) (fun j hj => lvC_last.symm))) ?_;refine sl_alloc tV (wn rfl) rfl hv rlal29 (fun b64 w65 hv => ?_);apply uN;refine zX 0 rfl hv rssz29 rfl fun w66 hv => ?_
      apply uN;intro _ _;refine oF (vP b43) rfl (rlfa219_0 _ _ _) ?_;refine oL _ rfl (run_load1 rtna27 (hv.load 3 0 rfl rfl)) ?_;refine oG (.pointer (some ⟨ob, 0 + pre.length * 4, none⟩)) rfl (ex_index rfl rfl rfl (run_idx (k := pre.length) Tryz.underlying27 rles27 (by omega))) ?_;refine oF (.pointer (some ⟨ob, 0 + pre.length * 4 + 3, none⟩)) rfl (rtfa29_3 _ _ _) ?_;replace hv := hv.front 2 rfl;simp only [eS, eZ] at hv;refine sl_storeRow (v := vN) tV (wn rfl) rfl rfl rfl hv rtsz27 (by rw [lvC_len1]; omega) rfl rfl (fun w68 hv => ?_);rw [show 0 + pre.length * 4 + 3 = pre.length * 4 + 3 by omega, lvC_setl] at hv;apply uN;intro _ _;refine oF (.pointer (some ⟨b43, 1, none⟩)) rfl (rlfa219_1 _ _ _) ?_;refine oL (.agg #[vI 0, vI 0, vN, vN]) rfl (lM 3 rlwd217 hv rfl rfl rfl rfl) ?_;refine oF (.pointer (some ⟨b64, 3, none⟩)) rfl (rtfa29_3 _ _ _) ?_;refine oL _ rfl (run_load1 rtna27 (hv.load 1 3 rfl rfl)) ?_;refine oF (.pointer (some ⟨b64, 3, none⟩)) rfl (rtfa29_3 _ _ _) ?_;refine oL _ rfl (run_load1 rtna27 (hv.load 1 3 rfl rfl)) ?_;refine xC rlcallable129 rfl ((trailLeaf C _ _ 0 0 (vN) (vN) rfl rfl rfl rfl la lc hv).mono ?_) rfl;rintro e w70 ⟨rfl, hv⟩;apply eR;refine sl_alloc tV (wn rfl) rfl hv rlal217 (fun b71 w72 hv => ?_);simp only [zP, po];refine zX 0 rfl hv rlsz217 rfl fun w73 hv => ?_
      apply uN;intro _ _;apply uN;refine oG (vI ((pre.length + 1 : Nat) : Int)) rfl (ex_add rfl rfl rfl (by rw [i64_in (by omega)]; omega)) ?_;refine then_normal ?_
      go_roundw
      case rel => exact .inr (.inl ⟨rfl, rfl, (by first | rfl | trivial), (hv.kp [6, 6, 6, 4, 6] 5 2)⟩)
      case measure => show (pre.length + 1) - (((pre.length + 1 : Nat) : Int)).toNat < (pre.length + 1) - ((pre.length : Int)).toNat; omega
     have hv8 := hv;clear hv;obtain ⟨ob, h9⟩ := row_some (hv8.get 1 rfl) (by omega);subst h9;have hv := hv8;clear hv8;apply uN;refine oG (.pointer (some ⟨ob, 0 + pre.length * 4, none⟩)) rfl (ex_index rfl rfl rfl (run_idx (k := pre.length) Tryz.underlying27 rles27 (by omega))) ?_;refine oL (.agg #[vI x.k, vS x.s, vI x.n, .slice la l.length lc]) rfl (run_loadR (cs := [vI x.k, vS x.s, vI x.n, .slice la l.length lc]) rswd29 (row_loads (hv.get 1 rfl) (k := pre.length * 4) (Nat.zero_add _) (fun j hj => lvC_last.symm))) ?_;refine sl_alloc tV (wn rfl) rfl hv rlal29 (fun b75 w76 hv => ?_);apply uN;refine zX 0 rfl hv rssz29 rfl fun w77 hv => ?_
     apply uN;intro _ _;refine oF (vP b43) rfl (rlfa219_0 _ _ _) ?_;refine oL _ rfl (run_load1 rtna27 (hv.load 3 0 rfl rfl)) ?_;refine oG (.pointer (some ⟨ob, 0 + pre.length * 4, none⟩)) rfl (ex_index rfl rfl rfl (run_idx (k := pre.length) Tryz.underlying27 rles27 (by omega))) ?_;refine oF (.pointer (some ⟨ob, 0 + pre.length * 4 + 3, none⟩)) rfl (rtfa29_3 _ _ _) ?_;replace hv := hv.front 2 rfl;simp only [eS, eZ] at hv;refine sl_storeRow (v := vN) tV (wn rfl) rfl rfl rfl hv rtsz27 (by rw [lvC_len1]; omega) rfl rfl (fun w79 hv => ?_);rw [show 0 + pre.length * 4 + 3 = pre.length * 4 + 3 by omega, lvC_setl] at hv;apply uN;intro _ _;refine oF (.pointer (some ⟨b43, 1, none⟩)) rfl (rlfa219_1 _ _ _) ?_;refine oL (.agg #[vI 0, vI 0, vN, vN]) rfl (lM 3 rlwd217 hv rfl rfl rfl rfl) ?_;refine oF (.pointer (some ⟨b75, 3, none⟩)) rfl (rtfa29_3 _ _ _) ?_;refine oL _ rfl (run_load1 rtna27 (hv.load 1 3 rfl rfl)) ?_;refine oF (.pointer (some ⟨b75, 3, none⟩)) rfl (rtfa29_3 _ _ _) ?_;refine oL _ rfl (run_load1 rtna27 (hv.load 1 3 rfl rfl)) ?_;refine xC rlcallable129 rfl ((trailNew C _ _ la l.length lc h0 hv).mono ?_) rfl;rintro e w81 ⟨rfl, hv⟩;apply eR;refine sl_alloc tV (wn rfl) rfl hv rlal217 (fun b82 w83 hv => ?_);simp only [zP, po];refine zX 0 rfl hv rlsz217 rfl fun w84 hv => ?_
     apply uN;intro _ _;apply uN;intro _ _;refine rW mixed [5, 8] [0,1,2,3,4,5,6,7,8] 76 rfl (by kernel_rfl) hv ?_;simp only [qm, opAt];refine dG (vP b43) rfl (ex_field rfl rfl (rlfa219_0 _ _ _)) ?_;refine dF _ rfl (fun hv => ex_load rfl rfl (run_load1 rtna27 (hv.load 4 0 rfl rfl))) fun f87 hf87 => ?_
     apply uN;refine dG (.pointer (some ⟨b75, 3, none⟩)) rfl (ex_field rfl rfl (rtfa29_3 _ _ _)) ?_;refine dL _ rfl (fun hv => ex_load rfl rfl (run_load1 rtna27 (hv.load 2 3 rfl rfl))) ?_;refine dS rfl fun w88 hv => mC rlcallable128 rfl ((cloneRps C _ _ la l.length lc (lvC l none) hla (lvC_len0 l) (lvC_one fun p h => by cases h) hlm hrl hv).mono ?_) rfl
     rintro e w89 ⟨ca, cc, rfl, hv⟩;refine ⟨_, rfl, dV hv (fC (fun ww hv => hf87 ww (ex_load rfl rfl (run_load1 rtna27 (hv.load 5 0 rfl rfl)))) fN) ?_⟩;simp only [zP, po];refine dG (.pointer (some ⟨ob, 0 + pre.length * 4, none⟩)) rfl (ex_index rfl rfl rfl (run_idx (k := pre.length) Tryz.underlying27 rles27 (by omega))) ?_;refine dG (.pointer (some ⟨ob, 0 + pre.length * 4 + 3, none⟩)) rfl (ex_field rfl rfl (rtfa29_3 _ _ _)) ?_;refine dS rfl fun w90 hv => ?_
     replace hv := hv.front 2 rfl;simp only [eS, eZ] at hv;refine mem_storeRow (v := .slice ca l.length cc) rfl rfl rfl rfl hv rtsz27 (by rw [lvC_len1]; omega) rfl rfl (fun w91 hv => ?_);rw [show 0 + pre.length * 4 + 3 = pre.length * 4 + 3 by omega, lvC_setl] at hv;refine dV hv (fK rfl fN) (dE fun w92 hv => ?_);apply uN;refine rW mixed [9, 10] [0,1,2,3,4,5,6,7,8,9,10,11] 76 rfl (by kernel_rfl) hv ?_;simp only [qm, opAt];apply uN;refine dG (vP b43) rfl (ex_field rfl rfl (rlfa219_0 _ _ _)) ?_;refine dL _ rfl (fun hv => ex_load rfl rfl (run_load1 rtna27 (hv.load 5 0 rfl rfl))) ?_;apply uN;refine dG (.pointer (some ⟨ob, 0 + pre.length * 4, none⟩)) rfl (ex_index rfl rfl rfl (run_idx (k := pre.length) Tryz.underlying27 rles27 (by omega))) ?_;refine dG (.pointer (some ⟨ob, 0 + pre.length * 4 + 3, none⟩)) rfl (ex_field rfl rfl (rtfa29_3 _ _ _)) ?_;simp only [zP, po];refine dL (.slice ca l.length cc) rfl (fun hv => ex_load rfl rfl (run_load1 rtna27 (by rw [Nat.add_assoc]; exact row_load (hv.get 0 rfl) lvC_last))) ?_;refine dL (.agg #[vI 1, vI 2, .slice la l.length lc, .slice la l.length lc]) rfl (fun hv => ex_load rfl rfl (lM 2 rlwd217 hv rfl rfl rfl rfl)) ?_;refine dG (.agg #[.slice ca l.length cc, vI 1, vI 2, .slice la l.length lc, .slice la l.length lc]) rfl (ex_buildN (vs := #[(0, .slice ca l.length cc), (1, .agg #[vI 1, vI 2, .slice la l.length lc, .slice la l.length lc])]) rfl (by simp only [List.map_toArray, List.map_cons, List.map_nil]; rfl) (by kernel_rfl)) ?_;simp only [zP, po];refine dS rfl fun w93 hv => mem_rowAgg (L := [.slice ca l.length cc, vI 1, vI 2, .slice la l.length lc, .slice la l.length lc]) rfl rfl rfl hv rlel220 rfl (by decide) (fun b94 w95 hv => ?_)
     refine dW hv (dS rfl fun w96 hv => ?_);replace hv := hv.front 5 rfl;simp only [eS, eZ] at hv;refine mem_append (news := [.slice ca l.length cc, vI 1, vI 2, .slice la l.length lc, .slice la l.length lc]) rfl rfl rfl rfl rlel220 hv (ok_full (by omega)) rfl (rd_all (hv.get 1 rfl)) (by intro u hu; simp only [List.mem_cons, List.not_mem_nil, or_false] at hu; rcases hu with rfl | rfl | rfl | rfl | rfl <;> rfl) (by unfold maxLen; omega) (by omega) (fun rv97 w100 hv => ?_);obtain ⟨ra98, rc99, rfl⟩ := row_slice hv.head;refine dW hv ?_;apply uN;refine dE fun w101 hv => ?_
     apply uN;refine oG (vI ((pre.length + 1 : Nat) : Int)) rfl (ex_add rfl rfl rfl (by rw [i64_in (by omega)]; omega)) ?_;refine then_normal ?_
     go_roundw
     case rel => (obtain ⟨tb9, h9⟩ := row_some (hv.get 0 rfl) (by omega); subst h9; exact .inr (.inr ⟨ca, cc, tb9, _, rfl, rfl, h0, (hv.kp [8, 8, 8, 5, 6, 5] 6 3)⟩))
     case measure => show (pre.length + 1) - (((pre.length + 1 : Nat) : Int)).toNat < (pre.length + 1) - ((pre.length : Int)).toNat; omega
    ·apply uN;intro _ _;refine uU (by omega) ?_;intro _ _;refine then_normal ?_
     go_roundw
     case rel => (obtain ⟨D, hD, hv, hro, hoko, -⟩ := ((hv.kp [4, 4, 3] 3 2)).rowBy; exact ⟨v0, vc, .inr (.inr ⟨D, _, _, rfl, hC.trans hD, hfin D hD nilS (by rw [hl0]; exact ⟨none, 0, rfl, ⟨Nat.le_refl _, Nat.zero_le _, fun _ => rfl⟩, rdV_nil⟩) ⟨oa, oc, rfl, hoko, hro⟩, hv⟩)⟩)
     case measure => (rw [lvMu0]; omega)
    apply uN;intro _ _;refine uU (by omega) ?_;intro _ _;refine then_normal ?_
    go_roundw
    case rel => (obtain ⟨D, hD, hv, hro, hoko, -⟩ := ((hv.kp [5, 5, 3, 3, 4] 5 1)).rowBy; exact ⟨v0, vc, .inl ⟨D, l, ca, cc, tb2, tc2, 1, 2, _, _, rfl, hC.trans hD, ⟨hlm, rfl, rfl, rfl, rfl⟩, fun E hE h9 => hfin E (hD.trans hE) (.slice ca l.length cc) h9 ⟨oa, oc, rfl, hoko, hro.more hE (fun _ h => h)⟩, hv⟩⟩)
    case measure => (rw [hmu]; exact lvMu3 (row_load (hv.get 0 rfl) rfl))
  apply uN;intro _ _ _ _;refine oG (vI 0) rfl (ex_len0 Tryz.underlying220 rfl rfl) ?_;refine oG (.bool false) rfl (ex_gtr rfl rfl rfl (by decide)) ?_;intro _ _;refine oL (.agg #[vI 5, vS [], vI 0, .slice v0 m vc]) rfl (lM 0 rswd29 hv rfl rfl rfl rfl) ?_;refine zX 1 rfl hv rssz29 rfl fun w109 hv => ?_
  apply uN;refine bC 1 rswd29 hv rfl rfl rfl rfl (⟨C, _, hC, rfl, hat, (hv.kp [] 0 2)⟩)
end Go.Proofs.YtgbhdfpobgefgaaGreatDoor
namespace Go.Pm
open Go.RowKit
theorem RdV.shift {B : Base} {H : List Res} {b off : Nat} {xs : List Value} (h : RdV B H (some ⟨b, off, none⟩) xs) (k : Nat) : RdV B H (some ⟨b, off + k, none⟩) (xs.drop k) := fun i hi => by
 rw [List.length_drop] at hi;obtain ⟨b', off', h1, h2⟩ := h (k + i) (by omega);cases h1;refine ⟨b, off + k, rfl, ?_⟩;rw [List.getElem_drop, Nat.add_assoc];exact h2
theorem rdV_nil_any (B : Base) (ad : Option Addr) : RdV B [] ad [] := fun i hi => by simp at hi
theorem sliced_rdV {B : Base} {ad : Option Addr} {n c k : Nat} {xs : List Value} (size : Nat) (hr : RdV B [] ad xs) (hl : xs.length = n * size) (hn : n ≤ c) (hk : k ≤ n) (hz : 0 < size) : ∃ a2, sliced ad k n c size = .slice a2 (n - k) (c - k) ∧ RdV B [] a2 (xs.drop (k * size)) := by
 rcases Nat.lt_or_ge k n with h | h
 ·have h1 : 0 < xs.length := by rw [hl]; exact Nat.mul_pos (by omega) hz
  obtain ⟨b, off, rfl, -⟩ := hr 0 h1;refine ⟨some ⟨b, off + k * size, none⟩, ?_, hr.shift _⟩;unfold sliced;rw [if_neg (by omega), Option.map_some, addr_add]
 obtain rfl : k = n := by omega
 have hd : xs.drop (k * size) = [] := List.drop_of_length_le (by omega);refine ⟨_, rfl, ?_⟩;rw [hd];exact rdV_nil_any _ _
section
variable {M : Model} {key : List UInt8} {l : List Ver} {k : Nat} {ok : Bool}
end
theorem sliced_hiV {B : Base} {ad : Option Addr} {n c h : Nat} {xs : List Value} (size : Nat) (hok : SliceOk ad n c) (hr : RdV B [] ad xs) (hl : xs.length = n * size) (hh : h ≤ n) : ∃ a2, sliced ad 0 h c size = .slice a2 h c ∧ SliceOk a2 h c ∧ RdV B [] a2 (xs.take (h * size)) := by
 have hle := hok.le;unfold sliced;by_cases hc : c = 0
 ·rw [if_pos hc];refine ⟨ad, by simp, ⟨by omega, hok.max, hok.nil⟩, ?_⟩;have : xs = [] := List.eq_nil_of_length_eq_zero (by rw [hl, show n = 0 by omega, Nat.zero_mul]);rw [this, List.take_nil];exact rdV_nil_any _ _
 rw [if_neg hc];refine ⟨ad, ?_, ⟨by omega, hok.max, hok.nil⟩, fun i hi => ?_⟩
 ·cases ad with
  | none => exact absurd (hok.nil rfl) hc
  | some a =>
   obtain ⟨b, o, p⟩ := a;simp only [Nat.zero_mul, Option.map_some, Nat.sub_zero]
   rfl
 rw [List.length_take] at hi;obtain ⟨b, off, h1, h2⟩ := hr i (by omega);refine ⟨b, off, h1, ?_⟩;rw [List.getElem_take];exact h2
theorem sliced_fromV {B : Base} {ad : Option Addr} {n c k : Nat} {xs : List Value} (size : Nat) (hok : SliceOk ad n c) (hr : RdV B [] ad xs) (hl : xs.length = n * size) (hk : k ≤ n) (hz : 0 < size) : ∃ a2 c2, sliced ad k n c size = .slice a2 (n - k) c2 ∧ SliceOk a2 (n - k) c2 ∧ RdV B [] a2 (xs.drop (k * size)) := by
 have hle := hok.le;have hmx := hok.max;rcases Nat.lt_or_ge k n with h | h
 ·obtain ⟨a2, h1, h2⟩ := sliced_rdV size hr hl hle hk hz;refine ⟨a2, c - k, h1, ⟨by omega, by unfold maxLen at hmx ⊢; omega, fun e => ?_⟩, h2⟩;subst e;have hlt : 0 < (xs.drop (k * size)).length := by
   rw [List.length_drop, hl];have := Nat.mul_lt_mul_of_pos_right h hz;omega
  obtain ⟨b, off, h3, -⟩ := h2 0 hlt;cases h3
 obtain rfl : k = n := by omega
 have hd : xs.drop (k * size) = [] := List.drop_of_length_le (by omega);rw [hd];unfold sliced;by_cases hc : c = k
 ·rw [if_pos hc];exact ⟨ad, c - k, rfl, ⟨by omega, by unfold maxLen at hmx ⊢; omega, fun _ => by omega⟩, rdV_nil_any _ _⟩
 rw [if_neg hc];refine ⟨_, c - k, rfl, ⟨by omega, by unfold maxLen at hmx ⊢; omega, fun e => ?_⟩, rdV_nil_any _ _⟩;cases ad with
 | none => have := hok.nil rfl; omega
 | some a => cases e
section
variable {P : Program} {t : TypeId} {w : World}
theorem run_hiAny {ad : Option Addr} {n c h size : Nat} (ht : P.underlying t = some (.slice (P.elem t))) (hs : ∀ w, (sizeOf (P.elem t)).run P w = .ok size w) (h1 : h ≤ c) :
  (Instr.sliceAt t (.slice ad n c) none (some (.int .i64 (h : Int))) none).run P w = .ok (sliced ad 0 h c size) w := by
 rw [run_sliceAt_slice w t _ _ _ _ ht, run_slice_h w t _ n c ht .i64 h (by omega) (by omega), hs];simp only [Result.andThen, Int.toNat_natCast]
end
section
variable {P : Program} {a : Act} {w : World} {o : Oper} {t : TypeId} {x y : Operand} {l : List UInt8}
theorem ex_sidx0 {i : Nat} {c : UInt8} (ht : P.underlying t = some .string) (ho : o.op = .index t x y) (hx : a.eval x = .string ⟨l.toArray⟩) (hy : a.eval y = .int .i64 (i : Int)) (hc : l[i]? = some c) : Ex P a o w (.int .u8 (c.toNat : Int)) w := by
 obtain ⟨hi, rfl⟩ := List.getElem?_eq_some_iff.1 hc;have h := run_index_string (P := P) w t ⟨l.toArray⟩ .i64 (i : Int) ht;rw [dif_pos ⟨by omega, by show (i : Int) < (l.length : Int); omega⟩] at h;have e : (⟨l.toArray⟩ : ByteArray)[((i : Int)).toNat]'(by show ((i : Int)).toNat < l.length; omega) = l[i] := rfl;rw [e] at h;unfold Ex
 simp [execOp, ho, hx, hy, h]
end
section
variable {a b : List UInt8} {i : Nat}
end
end Go.Pm
