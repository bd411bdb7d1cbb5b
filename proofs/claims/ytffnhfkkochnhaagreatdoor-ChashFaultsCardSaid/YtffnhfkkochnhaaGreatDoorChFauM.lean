/- chash: scan, count. -/
import Derived.Test.YtffnhfkkochnhaaGreatDoorChFauC
import Derived.Test.YtffnhfkkochnhaaGreatDoorChFauL
import Derived.Test.YtffnhfkkochnhaaGreatDoorChFauI
import Derived.Test.YtffnhfkkochnhaaGreatDoorChFauH
import Derived.Test.YtffnhfkkochnhaaGreatDoorChFauB
import Derived.Test.YtffnhfkkochnhaaGreatDoorRows
import Derived.Test.YtffnhfkkochnhaaGreatDoorChFauK
set_option maxRecDepth 100000
set_option maxHeartbeats 16000000
set_option synthInstance.maxSize 4096
set_option synthInstance.maxHeartbeats 400000
namespace Go.Proofs.YtffnhfkkochnhaaGreatDoor
open Go.RowKit Go.Pm
theorem PageR.next {n fr to nx ec : Int} {args : List (List UInt8)} {mt : List UInt8} (h : PageR n args fr to nx mt ec) (h0 : ec = 0) : 0 ≤ nx ∧ nx ≤ max n 0 := by
 have hb := h.bounds h0
 rcases h with ⟨h1, -⟩ | ⟨a0, rest, -, ⟨h1, -⟩ | ⟨t0, t1, b0, b1, -, ⟨h1, -⟩ | ⟨k, c, -, -, ⟨h1, -⟩ | ⟨-, h1, h2, -, h3, h4, h5⟩⟩⟩⟩
 all_goals first | omega | (rw [h5]; split <;> omega)
theorem optTo_mem {args : List (List UInt8)} {i : Nat} {t0 t1 : List UInt8} {b0 b1 : Bool} (h : OptTo args i t0 t1 b0 b1) : (t0 = [] ∨ t0 ∈ args) ∧ (t1 = [] ∨ t1 ∈ args) := by
 induction h with
 | zero => exact ⟨.inl rfl, .inl rfl⟩
 | m h1 h2 h3 h4 ih => exact ⟨.inr (List.mem_of_getElem? h3), ih.2⟩
 | c h1 h2 h3 h4 h5 ih => exact ⟨ih.1, .inr (List.mem_of_getElem? h3)⟩
theorem PageR.short {n fr to nx ec : Int} {args : List (List UInt8)} {mt : List UInt8} (h : PageR n args fr to nx mt ec) (h0 : ec = 0) (ha : ∀ x ∈ args, x.length ≤ 1000000) : mt.length ≤ 1000000 := by
 rcases h with ⟨h1, -⟩ | ⟨a0, rest, he, ⟨h1, -⟩ | ⟨t0, t1, b0, b1, ho, ⟨h1, -⟩ | ⟨k, c, -, -, ⟨h1, -⟩ | ⟨-, -, -, rfl, -⟩⟩⟩⟩
 ·omega
 ·omega
 ·omega
 ·omega
 rcases ho with ⟨h1, -⟩ | ⟨-, -, ho⟩
 ·omega
 split
 ·rcases (optTo_mem ho).1 with rfl | h
  ·simp
  exact ha _ (by rw [he]; exact List.mem_cons_of_mem _ h)
 simp
theorem pr_drop : ∀ (l : List Pr) (i : Nat), (pairCells l).drop (i * 2) = pairCells (l.drop i)
 | l, 0 => by rw [Nat.zero_mul]; rfl
 | [], i + 1 => by rw [List.drop_nil]; rfl
 | p :: l, i + 1 => by rw [show (i + 1) * 2 = i * 2 + 2 by omega]; exact pr_drop l i
theorem pr_take : ∀ (l : List Pr) (i : Nat), (pairCells l).take (i * 2) = pairCells (l.take i)
 | l, 0 => by rw [Nat.zero_mul]; rfl
 | [], i + 1 => by rw [List.take_nil]; exact List.take_nil
 | p :: l, i + 1 => by
  rw [show (i + 1) * 2 = i * 2 + 2 by omega]
  show strV p.1 :: strV p.2 :: (pairCells l).take (i * 2) = _
  rw [pr_take l i]; rfl
theorem of_nil_pairs {clk ec : Int} {key : List UInt8} {y : Ver} {lo k i : Nat} {mid : List Pr} (hi : i < mid.length) (hmid : mid = (y.val.pairs.drop lo).take k) : ¬ OfI [] clk key 2 y ec := fun h => by
 have hz : y = zver0 := by
  rcases h with ⟨-, h, -⟩ | ⟨-, h, -⟩ | ⟨-, h1, -⟩
  ·exact h
  ·exact h
  cases h1
 rw [hmid, hz] at hi
 simp [zver0] at hi
theorem short_pairs {M : List (List UInt8 × Ver)} {clk ec : Int} {key : List UInt8} {x : Pr} {y : Ver} {lo k i : Nat} {mid : List Pr} (hO : OkM M) (hof : OfI M clk key 2 y ec) (hmid : mid = (y.val.pairs.drop lo).take k) (hx : mid[i]? = some x) : x.1.length ≤ 4096 :=
 ((hashOk_iff.1 (hO.hash hof)).2.1 x (List.mem_of_mem_drop (List.mem_of_mem_take (hmid ▸ List.mem_of_getElem? hx)))).1
theorem ints_one {t : List UInt8} {ns : List Int} {ec : Int} (h : IntsR [t] ns ec) : (ec = 0 ∧ ∃ n, ns = [n] ∧ NumP t n true) ∨ (ec = 41 ∧ ns = [] ∧ NumP t 0 false) := by
 rcases h with ⟨h1, h2, h3⟩ | ⟨h1, h2, t2, h3, h4⟩
 ·match ns, h2 with
  | [n], _ => exact .inl ⟨h1, n, rfl, h3 0 t n rfl rfl⟩
 rw [List.mem_singleton.1 h3] at h4; exact .inr ⟨h1, h2, h4⟩
theorem hashGetO (B : Base) (H : List Res) (w : World) (ad : Option Addr) (c : Nat) (h : List Pr) (f : List UInt8) (hr : RdV B [] ad (pairCells h)) (hs : SortedH h) (hm : h.length ≤ 1000000) (hv : Inv B H w) : Calls Tryz.prog 43 #[.slice ad h.length c, strV f] w fun e w' => ∃ s0 has, e = .returned (.tuple #[strV s0, .bool has]) ∧ ((has = true ∧ getH h f = some s0) ∨ (has = false ∧ s0 = [] ∧ getH h f = none)) ∧ Inv B H w' := by
 refine (hashGet B H w ad c h f [] (fun r9 h9 => absurd h9 List.not_mem_nil) (hr.rdW []) hs hm hv).mono ?_
 rintro e w' ⟨rfl, hv⟩
 cases hg : getH h f with
 | none => exact ⟨_, _, rfl, .inr ⟨rfl, rfl, rfl⟩, hv⟩
 | some t => exact ⟨_, _, rfl, .inl ⟨rfl, rfl⟩, hv⟩
theorem h9al28 : AL Tryz.prog 28 [vI 0, vS [], vI 0, vN] := fun w => by kernel_rfl
theorem h9callable41 : Callable Tryz.prog 41 := cb Tryz.func41 (by kernel_rfl)
theorem h9al86 : AL Tryz.prog 86 [vI 0, .bool false, vI 0, vI 0, vS [], vN, vN, vN] := fun w => by kernel_rfl
theorem h9callable67 : Callable Tryz.prog 67 := cb Tryz.func67 (by kernel_rfl)
theorem h9al143 : AL Tryz.prog 143 [vI 0, vI 0, vI 0, vS []] := fun w => by kernel_rfl
theorem h9al121 : AL Tryz.prog 121 [vS [], vS []] := fun w => by kernel_rfl
theorem h9callable68 : Callable Tryz.prog 68 := cb Tryz.func68 (by kernel_rfl)
theorem h9mk121 : (Tryz.prog.info? 121).map (fun i => (i.zero, i.size, i.bytes)) = some (some (.agg #[vS [], vS []]), 2, 32) := by kernel_rfl
theorem h9el76 : Elem Tryz.prog 76 121 (.agg #[vS [], vS []]) 2 32 := elem_of Tryz.underlying76 h9mk121 (by rfl) (by decide)
theorem h9callable51 : Callable Tryz.prog 51 := cb Tryz.func51 (by kernel_rfl)
theorem h9callable50 : Callable Tryz.prog 50 := cb Tryz.func50 (by kernel_rfl)
theorem h9callable49 : Callable Tryz.prog 49 := cb Tryz.func49 (by kernel_rfl)
theorem chashScan (B : Base) (H : List Res) (w : World) (v t m s p wb : Nat) (va : Option Addr) (vc : Nat) (sv : Value) (clk : Int) (es : List (List UInt8 × Value)) (M : List (List UInt8 × Ver)) (hM : VM B es M) (hO : OkM M) (aa : Option Addr) (ac : Nat) (args : List (List UInt8)) (hra : RdV B [] aa (textCells args)) (hoka : SliceOk aa args.length ac) (_ : args.length ≤ 10000) (key : List UInt8) (hkey : args[0]? = some key) (xa : Option Addr) (xc : Nat) (xs : List (List UInt8)) (hokx : SliceOk xa xs.length xc) (hrx : RdV B [] xa (textCells xs)) (hmx : xs.length ≤ 10000) (hxl : ∀ x ∈ xs, x.length ≤ 9223372036854775807) (hsm : (∀ x ∈ xs, x.length ≤ 1000000) ∨ M = []) (hN : NumB B) (hv : Inv B (Res.cell v [.iface 63 (vP t)] 40 :: txR t m s p wb va vc sv clk es :: H) w) :
  Calls Tryz.prog 39 #[.agg #[vP v, .slice aa args.length ac], .slice xa xs.length xc] w fun e w' => ∃ C es' M' r cs, B.Le C ∧ e = .returned (.agg cs.toArray) ∧ RpAt C r cs ∧ VM C es' M' ∧ CmdR M M' r ∧ Inv C (Res.cell v [.iface 63 (vP t)] 40 :: txR t m s p wb va vc sv clk es' :: H) w' := by
 refine cW Tryz.func39 rfl Tryz.ntmps39 ?_
 simp only [al]
 refine sK fun _ k1 => ?_
 have hal := (List.getElem?_eq_some_iff.1 hkey).1
 obtain ⟨ab, ao, had, hrdkey⟩ := text_reads hra hkey
 subst had
 refine rL (sl_box (L := [vP v, .slice (some ⟨ab, ao, none⟩) args.length ac]) tV (wn rfl) rfl rfl hv (fun w => by kernel_rfl) (fun b2 w3 hv => ?_))
 refine sl_alloc tV (wn rfl) rfl hv h9al28 (fun b4 w5 hv => ?_)
 refine uW k1 (sK fun _ k6 => ?_)
 refine rT mixed (fun az wz => ∃ (C : Base) (y : Ver) (yp yt yz : Value) (ec : Int) (b13 : Nat), (B.Le C) ∧ (ValAt C y.val yp yt yz) ∧ (OfI M clk key 2 y ec) ∧ az = { tmps := List.toArray (.agg #[vP v, .slice (some ⟨ab, ao, none⟩) args.length ac] :: .slice xa xs.length xc :: vP b2 :: undef :: vP b4 :: vP b13 :: vI ec :: undef :: undef :: undef :: undef :: undef :: .tuple #[.agg #[vI y.stamp, .bool y.gone, vI y.expire, vI y.val.kind, vS y.val.text, yp, yt, yz], vI ec] :: vP b2 :: vP v :: .pointer (some ⟨b2, 1, none⟩) :: .slice (some ⟨ab, ao, none⟩) args.length ac :: .pointer (some ⟨ab, ao + 0, none⟩) :: vS key :: .tuple #[.agg #[vI y.stamp, .bool y.gone, vI y.expire, vI y.val.kind, vS y.val.text, yp, yt, yz], vI ec] :: .agg #[vI y.stamp, .bool y.gone, vI y.expire, vI y.val.kind, vS y.val.text, yp, yt, yz] :: vI ec :: undef :: undef :: undef :: undef :: undef :: undef :: undef :: undef :: undef :: undef :: undef :: undef :: undef :: undef :: undef :: undef :: undef :: undef :: undef :: undef :: undef :: undef :: undef :: undef :: undef :: undef :: undef :: undef :: undef :: undef :: undef :: undef :: undef :: undef :: undef :: undef :: undef :: undef :: undef :: undef :: undef :: undef :: undef :: undef :: undef :: undef :: undef :: undef :: []), defers := [] } ∧ Inv C (Res.cell b13 [vI y.stamp, .bool y.gone, vI y.expire, vI y.val.kind, vS y.val.text, yp, yt, yz] 86 :: Res.cell v [.iface 63 (vP t)] 40 :: txR t m s p wb va vc sv clk es :: Res.cell b4 [vI 0, vS [], vI 0, vN] 28 :: Res.cell b2 [vP v, .slice (some ⟨ab, ao, none⟩) args.length ac] 74 :: H) wz) [6, 10, 11] [0,1,2,3,4,5] [7,8,9,10,11,12] [6,7,8,9,11,12] 6 10 70 rfl (by kernel_rfl) hv ?_ ?_
 ·intro R2 l1 l2 hR2 hl1 hl2
  simp only [qm, opAt]
  refine tG (vP b2) rfl (ex_field rfl rfl (h8fa74_0 _ _ _)) (tF (vP v) rfl (fun hv => ex_load rfl rfl (run_load1 h8na24 (hv.load 1 0 rfl rfl))) fun f7 hf7 => ?_)
  simp only [zP, po]
  refine tG (.pointer (some ⟨b2, 1, none⟩)) rfl (ex_field rfl rfl (h8fa74_1 _ _ _)) (tF (.slice (some ⟨ab, ao, none⟩) args.length ac) rfl (fun hv => ex_load rfl rfl (run_load1 s1na22 (hv.load 1 1 rfl rfl))) fun f8 hf8 => ?_)
  simp only [zP, po]
  refine tG (.pointer (some ⟨ab, ao + 0, none⟩)) rfl (ex_index rfl rfl rfl (run_idx1 (k := 0) Tryz.underlying22 s9es22 (by omega))) (tF (vS key) rfl (fun hv => ex_load rfl rfl (run_load1 s9na9 (hrdkey _ _ _ (Base.Le.refl _) no_res hv 0 _ rfl))) fun f9 hf9 => ?_)
  simp only [zP, po]
  refine tB ?_ ?_
  ·rw [hl1]; clear hl1 hl2
   simp only [qm, opAt]
   refine dS rfl fun w10 hv => ?_
   replace hv := hv.front 3 rfl
   simp only [eS, eZ] at hv
   replace hv := hv.front 3 rfl
   simp only [eS, eZ] at hv
   refine mC h9callable41 rfl ((viewOf B _ _ v t m s p wb va vc sv clk es M key 2 (hM.more (Base.Le.refl _)) hv).mono ?_) rfl
   rintro e w11 ⟨C, y, yp, yt, yz, ec, hC, rfl, hyv, hof, hv⟩
   refine ⟨_, rfl, dV hv (fK rfl (fK rfl (fK rfl fN))) ?_⟩
   refine dM (.tuple #[.agg #[vI y.stamp, .bool y.gone, vI y.expire, vI y.val.kind, vS y.val.text, yp, yt, yz], vI ec]) rfl (dG (.agg #[vI y.stamp, .bool y.gone, vI y.expire, vI y.val.kind, vS y.val.text, yp, yt, yz]) rfl (ex_extract rfl rfl rfl) ?_)
   simp only [zP, po]
   refine dG (vI ec) rfl (ex_extract rfl rfl rfl) (dS rfl fun w12 hv => ?_)
   refine mem_alloc rfl rfl hv h9al86 (fun b13 w14 hv => ?_)
   refine dV hv (fC (fun ww hv => hf9 ww (ex_load rfl rfl (run_load1 s9na9 (hrdkey _ _ _ hC no_res hv 0 _ rfl)))) (fC (fun ww hv => hf8 ww (ex_load rfl rfl (run_load1 s1na22 (hv.load 4 1 rfl rfl)))) (fC (fun ww hv => hf7 ww (ex_load rfl rfl (run_load1 h8na24 (hv.load 4 0 rfl rfl)))) fN))) (dS rfl fun w15 hv => ?_)
   refine mS 0 rfl hv x0sz86 rfl (by exact ⟨rfl, rfl, rfl, rfl, rfl, hyv.p.one, hyv.t.one, hyv.z.one, trivial⟩) (fun w16 hv => ?_)
   simp only [zO, sp] at hv
   refine dV hv (fK rfl (fK rfl (fK rfl fN))) ?_
   simp only [zP, po]
   refine dA (vI ec) rfl (dE fun wz hv => ?_)
   simp only [zP, po]
   exact hR2 _ _ ⟨C, y, yp, yt, yz, ec, b13, hC, hyv, hof, rfl, (((((hv.front 4 rfl).front 4 rfl).front 4 rfl).front 4 rfl).front 4 rfl)⟩
  rw [hl2]; clear hl1 hl2
  simp only [qm, opAt]
  refine dS rfl fun w17 hv => mem_alloc rfl rfl hv h9al86 (fun b18 w19 hv => ?_)
  refine dV hv (fC (fun ww hv => hf9 ww (ex_load rfl rfl (run_load1 s9na9 (hrdkey _ _ _ (Base.Le.refl _) no_res hv 0 _ rfl)))) (fC (fun ww hv => hf8 ww (ex_load rfl rfl (run_load1 s1na22 (hv.load 2 1 rfl rfl)))) (fC (fun ww hv => hf7 ww (ex_load rfl rfl (run_load1 h8na24 (hv.load 2 0 rfl rfl)))) fN))) (dS rfl fun w20 hv => ?_)
  replace hv := hv.front 4 rfl
  simp only [eS, eZ] at hv
  replace hv := hv.front 4 rfl
  simp only [eS, eZ] at hv
  refine mC h9callable41 rfl ((viewOf B _ _ v t m s p wb va vc sv clk es M key 2 (hM.more (Base.Le.refl _)) hv).mono ?_) rfl
  rintro e w21 ⟨C, y, yp, yt, yz, ec, hC, rfl, hyv, hof, hv⟩
  refine ⟨_, rfl, dV hv (fK rfl (fK rfl (fK rfl fN))) ?_⟩
  refine dM (.tuple #[.agg #[vI y.stamp, .bool y.gone, vI y.expire, vI y.val.kind, vS y.val.text, yp, yt, yz], vI ec]) rfl ?_
  simp only [zP, po]
  refine dG (.agg #[vI y.stamp, .bool y.gone, vI y.expire, vI y.val.kind, vS y.val.text, yp, yt, yz]) rfl (ex_extract rfl rfl rfl) (dG (vI ec) rfl (ex_extract rfl rfl rfl) ?_)
  refine dS rfl fun w22 hv => mS 2 rfl hv x0sz86 rfl (by exact ⟨rfl, rfl, rfl, rfl, rfl, hyv.p.one, hyv.t.one, hyv.z.one, trivial⟩) (fun w23 hv => ?_)
  simp only [zS, zO, sp] at hv
  refine dV hv (fK rfl (fK rfl (fK rfl fN))) ?_
  simp only [zP, po]
  refine dA (vI ec) rfl (dE fun wz hv => ?_)
  simp only [zP, po]
  exact hR2 _ _ ⟨C, y, yp, yt, yz, ec, b18, hC, hyv, hof, rfl, (((((hv.front 4 rfl).front 4 rfl).front 3 rfl).front 3 rfl).front 4 rfl)⟩
 rintro _ w24 ⟨C, y, yp, yt, yz, ec, b13, hC, hyv, hof, rfl, hv⟩
 obtain ⟨pa, pc, sa, sc, za, zc, rfl, rfl, rfl, hokp, hrp, hoks, hrs, hokz, hrz⟩ := valAt_open hyv
 refine tK k6 (sK fun _ k25 => ?_)
 refine rL (uF (.pointer (some ⟨b13, 3, none⟩)) rfl (x2fa86_3 _ _ _) ?_)
 refine uF (.pointer (some ⟨b13, 5, none⟩)) rfl (s1fa79_2 _ _ _) ?_
 refine uL _ rfl (run_load1 s1na76 (hv.load 0 5 rfl rfl)) ?_
 refine uG (vI (y.val.pairs.length : Int)) rfl (ex_len0 Tryz.underlying76 rfl rfl) (uM rfl ?_)
 refine xC h9callable67 rfl ((viewPages C _ _ y.val.pairs.length (by omega) (by have := hyv.pm; omega) xa xc xs (hrx.more hC (fun _ h => h)) (by omega) hxl hokx (hN.more hC) hv).mono ?_) rfl
 rintro e w26 ⟨pf, pt, pn, mt, pe, rfl, hpg, hv⟩
 refine ⟨_, rfl, uM rfl ?_⟩
 refine uE rfl (uE rfl ?_)
 refine sl_alloc tV (wn rfl) rfl hv h9al143 (fun b27 w28 hv => ?_)
 refine xS 0 rfl hv v8sz143 rfl (by exact ⟨rfl, rfl, rfl, rfl, trivial⟩) (fun w29 hv => ?_)
 simp only [zO, sp] at hv
 refine uA rfl (uW k25 ?_)
 refine sK fun _ k30 => sK fun _ k31 => rL (uM rfl ?_)
 by_cases hb32 : pe ≠ 0
 ·refine uG (.bool true) rfl (ex_neq rfl rfl rfl (qT hb32)) (uW k31 ?_)
  refine cT rfl (sK fun _ k33 => ?_)
  refine rL (uM rfl ?_)
  refine xC rscallable24 rfl ((viewWrong C _ _ pe hv).mono ?_) rfl
  rintro e w35 ⟨s34, rfl, hv⟩
  refine ⟨_, rfl, ?_⟩
  refine xS 4 rfl hv rssz28 rfl (by exact ⟨rfl, rfl, rfl, rfl, trivial⟩) (fun w36 hv => ?_)
  simp only [zS, zO, sp] at hv
  refine uW k33 (rR ?_)
  refine tR (bC 4 rswd28 hv rfl rfl rfl rfl ?_)
  exact ⟨C, es, M, (.mk 1 s34 0 []), _, hC, rfl, rpAt_leaf, hM.more hC, ⟨hO, fun _ => rfl⟩, (hv.kp [3, 3] 2 4)⟩
 refine uG (.bool false) rfl (ex_neq rfl rfl rfl (qF hb32)) (uW k31 ?_)
 refine cF rfl (kS ?_)
 refine tK k30 (sK fun _ k37 => ?_)
 refine sK fun _ k38 => rL (uM rfl ?_)
 by_cases hb39 : ec ≠ 0
 ·refine uG (.bool true) rfl (ex_neq rfl rfl rfl (qT hb39)) (uW k38 ?_)
  refine cT rfl (sK fun _ k40 => ?_)
  refine rL (uM rfl ?_)
  refine xC rscallable24 rfl ((viewWrong C _ _ ec hv).mono ?_) rfl
  rintro e w42 ⟨s41, rfl, hv⟩
  refine ⟨_, rfl, ?_⟩
  refine xS 4 rfl hv rssz28 rfl (by exact ⟨rfl, rfl, rfl, rfl, trivial⟩) (fun w43 hv => ?_)
  simp only [zS, zO, sp] at hv
  refine uW k40 (rR ?_)
  refine tR (bC 4 rswd28 hv rfl rfl rfl rfl ?_)
  exact ⟨C, es, M, (.mk 1 s41 0 []), _, hC, rfl, rpAt_leaf, hM.more hC, ⟨hO, fun _ => rfl⟩, (hv.kp [3, 3] 2 4)⟩
 refine uG (.bool false) rfl (ex_neq rfl rfl rfl (qF hb39)) (uW k38 ?_)
 refine cF rfl (kS ?_)
 refine tK k37 (sK fun _ k44 => ?_)
 refine rL (uA rfl ?_)
 refine uW k44 (sK fun _ k45 => ?_)
 refine sK fun _ k46 => ?_
 have hpm := hyv.pm
 obtain ⟨hpf0, hpft, hptn⟩ := hpg.bounds (by omega)
 obtain ⟨lo, hlo⟩ : ∃ n : Nat, pf = (n : Int) := ⟨pf.toNat, by omega⟩
 obtain ⟨hi, hhi⟩ : ∃ n : Nat, pt = (n : Int) := ⟨pt.toNat, by omega⟩
 obtain ⟨a5, c5, ha5, ok5, hr5⟩ := sliced_midV 2 hokp hrp (pairCells_len _) (show lo ≤ hi by omega) (show hi ≤ y.val.pairs.length by omega) (by decide)
 rw [pr_drop, pr_take] at hr5
 obtain ⟨mid, hmid⟩ : ∃ l, l = (y.val.pairs.drop lo).take (hi - lo) := ⟨_, rfl⟩
 rw [← hmid] at hr5
 have hml : mid.length = hi - lo := by rw [hmid, List.length_take, List.length_drop]; omega
 rw [← hml] at ok5 ha5
 have hml2 : mid.length ≤ 1000000 := by omega
 have hpn := hpg.next (by omega)
 refine rL (uF (.pointer (some ⟨b13, 3, none⟩)) rfl (x2fa86_3 _ _ _) ?_)
 refine uF (.pointer (some ⟨b13, 5, none⟩)) rfl (s1fa79_2 _ _ _) ?_
 refine uL _ rfl (run_load1 s1na76 (hv.load 1 5 rfl rfl)) ?_
 refine uF (vP b27) rfl (v8fa143_0 _ _ _) ?_
 refine uL _ rfl (run_load1 s2na3 (hv.load 0 0 rfl rfl)) ?_
 refine uF (.pointer (some ⟨b27, 1, none⟩)) rfl (v8fa143_1 _ _ _) ?_
 refine uL _ rfl (run_load1 s2na3 (hv.load 0 1 rfl rfl)) ?_
 refine uG (.slice a5 mid.length c5) rfl (ex_slice (lo' := some (vI pf)) (hi' := some (vI pt)) rfl rfl (congrArg some rfl) (congrArg some rfl) rfl ((run_lhAnyI hlo hhi Tryz.underlying76 s10es76 (by omega) (by have := hokp.le; omega)).trans (by rw [ha5]))) ?_
 refine uG (vI (mid.length : Int)) rfl (ex_len0 Tryz.underlying76 rfl rfl) (uM rfl ?_)
 refine uW k46 (bB ?_)
 gi_loopw [48, 9] (fun x48 x9 wr => ∃ (i : Nat) (ft : List Pr) (fa : Option Addr) (fc : Nat), x48 = vI i ∧ x9 = .slice fa ft.length fc ∧ i ≤ mid.length ∧ ft.length ≤ i ∧ Inv C (Res.row 121 2 (.slice fa ft.length fc) ft.length (pairCells ft) :: Res.cell b27 [vI pf, vI pt, vI pn, vS mt] 143 :: Res.cell b13 [vI y.stamp, .bool y.gone, vI y.expire, vI y.val.kind, vS y.val.text, .slice pa y.val.pairs.length pc, .slice sa y.val.texts.length sc, .slice za y.val.zset.length zc] 86 :: Res.cell v [.iface 63 (vP t)] 40 :: txR t m s p wb va vc sv clk es :: Res.cell b4 [vI 0, vS [], vI 0, vN] 28 :: Res.cell b2 [vP v, .slice (some ⟨ab, ao, none⟩) args.length ac] 74 :: H) wr) (fun x48 x9 _ => mid.length - (intOf x48).toNat)
 case atStart => exact ⟨0, [], none, 0, rfl, rfl, Nat.zero_le _, Nat.zero_le _, (((((((hv.front 5 rfl).front 5 rfl).front 5 rfl).front 5 rfl).front 5 rfl).front 5 rfl)).rowNil 121 2⟩
 case round =>
  obtain ⟨i, ft, fa, fc, rfl, rfl, hi9, hfl, hv⟩ := hrel
  refine sK fun _ k48 => rL ?_
  by_cases hb49 : (i : Int) < (mid.length : Int)
  ·refine uG (.bool true) rfl (ex_lss rfl rfl rfl (qT hb49)) (uW k48 ?_)
   refine sK fun _ k50 => cT rfl (kS ?_)
   refine tK k50 (sK fun _ k51 => ?_)
   refine bB (sK fun _ k52 => ?_)
   obtain ⟨x, hx⟩ : ∃ x, mid[i]? = some x := ⟨_, List.getElem?_eq_getElem (show i < mid.length by omega)⟩
   obtain ⟨mb, mo, had, hrdx⟩ := pair_reads hr5 hx
   subst had
   refine rL (uG (.pointer (some ⟨mb, mo + i * 2, none⟩)) rfl (ex_index rfl rfl rfl (run_idx (k := i) Tryz.underlying76 s10es76 (by omega))) ?_)
   refine uL (.agg #[vS x.1, vS x.2]) rfl (run_loadR (cs := [vS x.1, vS x.2]) s10wd121 (Reads.mid (pre := []) (mid := [vS x.1, vS x.2]) (post := []) hrdx _ _ _ (Base.Le.refl _) no_res hv)) ?_
   refine sl_alloc tV (wn rfl) rfl hv h9al121 (fun b53 w54 hv => ?_)
   simp only [zP, po]
   refine xS 0 rfl hv s10sz121 rfl (by exact ⟨rfl, rfl, trivial⟩) (fun w55 hv => ?_)
   simp only [zO, sp] at hv
   refine uW k52 (sK fun _ k56 => ?_)
   refine rL (uL (.agg #[vI pf, vI pt, vI pn, vS mt]) rfl (lM 2 v8wd143 hv rfl rfl rfl rfl) ?_)
   refine uF (vP b53) rfl (s10fa121_0 _ _ _) ?_
   refine uL _ rfl (run_load1 s9na9 (hv.load 0 0 rfl rfl)) ?_
   refine xC h9callable68 rfl ((pageFits C _ _ pf pt pn mt x.1 (hpg.short (by omega) (hsm.resolve_right (fun h9 => by rw [h9] at hof; exact absurd hof (by have := (List.getElem?_eq_some_iff.1 hx).1; exact of_nil_pairs this hmid)))) (by have := short_pairs hO hof hmid hx; omega) hv).mono ?_) rfl
   rintro e w58 ⟨bl57, rfl, -, hv⟩
   refine ⟨_, rfl, ?_⟩
   cases bl57
   ·refine uW k56 (cF rfl ?_)
    refine kS (bN ?_)
    refine tK k51 (rL ?_)
    refine uG (vI ((i + 1 : Nat) : Int)) rfl (ex_add rfl rfl rfl (by rw [i64_in (by omega)]; omega)) (uM rfl ?_)
    refine uZ (then_normal ?_)
    simp only [vP, vI, vS, vN]
    go_roundw
    case rel => exact ⟨i + 1, ft, fa, fc, rfl, rfl, by omega, by omega, (hv.kp [7, 7, 7, 7, 7, 7, 7] 7 1)⟩
    case measure => show mid.length - (((i + 1 : Nat) : Int)).toNat < mid.length - ((i : Int)).toNat; omega
   refine uW k56 (cT rfl ?_)
   refine rL (uM rfl ?_)
   refine uL (.agg #[vS x.1, vS x.2]) rfl (lM 0 s10wd121 hv rfl rfl rfl rfl) ?_
   refine sl_rowAgg (L := [vS x.1, vS x.2]) tV (wn rfl) rfl rfl hv h9el76 rfl (by decide) (fun b59 w60 hv => ?_)
   simp only [zP, po]
   replace hv := hv.front 2 rfl
   simp only [eS, eZ] at hv
   refine sl_append (news := [vS x.1, vS x.2]) tV (wn rfl) rfl rfl rfl h9el76 hv (ok_full (by omega)) rfl (rd_all (hv.get 1 rfl)) (by intro u hu; simp only [List.mem_cons, List.not_mem_nil, or_false] at hu; rcases hu with rfl | rfl <;> rfl) (by unfold maxLen; omega) (by omega) (fun rv61 w64 hv => ?_)
   obtain ⟨ra62, rc63, rfl⟩ := row_slice hv.head
   refine uA rfl (uZ ?_)
   refine bN (tK k51 ?_)
   refine rL (uG (vI ((i + 1 : Nat) : Int)) rfl (ex_add rfl rfl rfl (by rw [i64_in (by omega)]; omega)) ?_)
   refine uM rfl (uZ ?_)
   refine then_normal ?_
   simp only [vP, vI, vS, vN]
   go_roundw
   case rel => exact ⟨i + 1, ft ++ [x], _, _, rfl, by rw [List.length_append, List.length_singleton], by omega, by rw [List.length_append, List.length_singleton]; omega, by rw [List.length_append, List.length_singleton, pairCells_app]; exact (hv.kp [8, 8, 8, 8, 8, 8, 6] 7 2)⟩
   case measure => show mid.length - (((i + 1 : Nat) : Int)).toNat < mid.length - ((i : Int)).toNat; omega
  refine uG (.bool false) rfl (ex_lss rfl rfl rfl (qF hb49)) (uW k48 ?_)
  refine sK fun _ k65 => cF rfl (xE ?_)
  refine tX (tX ?_)
  refine bH (tK k45 ?_)
  refine sK fun _ k66 => ?_
  obtain ⟨E, hE, hv, hrf, hokf, -⟩ := hv.rowBy
  refine rL (uF (.pointer (some ⟨b27, 2, none⟩)) rfl (v8fa143_2 _ _ _) ?_)
  refine uL _ rfl (run_load1 s2na3 (hv.load 0 2 rfl rfl)) ?_
  refine xC pzcallable70 rfl ((numPrint E _ (hN E _ (hC.trans hE)).1 _ pn (by omega) (by omega) hv).mono ?_) rfl
  rintro e w67 ⟨rfl, hv⟩
  refine ⟨_, rfl, ?_⟩
  simp only [zP, po]
  refine xC rtcallable69 rfl ((respStr E _ _ (Lib.itoa pn) hv).mono ?_) rfl
  rintro e w68 ⟨rfl, hv⟩
  refine ⟨_, rfl, uM rfl ?_⟩
  refine xC h9callable51 rfl ((chashFlat E _ _ fa fc ft hrf (by omega) hv).mono ?_) rfl
  rintro e w69 ⟨F, oa, oc, out, hF, rfl, hoko, hro, hout, hv⟩
  refine ⟨_, rfl, ?_⟩
  have hol : out.length ≤ 1000000 := by rw [hout, flatH_len]; have := (hashOk_iff.1 (hO.hash hof)).1; omega
  simp only [zP, po]
  refine xC h9callable50 rfl ((respStrsR F _ _ oa oc out (hro.more (Base.Le.refl _) (fun _ h => h)) (hol) hv).mono ?_) rfl
  rintro e w74 ⟨D70, da71, dc72, hD70, rfl, hrp73o, hrp73, hv⟩
  refine ⟨_, rfl, ?_⟩
  refine sl_rowN (pv := #[(0, .agg #[vI 3, vS (Lib.itoa pn), vI 0, vN]), (1, .agg #[vI 5, vS [], vI 0, .slice da71 out.length dc72])]) (L := [vI 3, vS (Lib.itoa pn), vI 0, vN, vI 5, vS [], vI 0, .slice da71 out.length dc72]) (e := 28) tV (wn rfl) rfl (by simp only [List.map_toArray, List.map_cons, List.map_nil]; rfl) hv (fun w => by kernel_rfl) (fun b75 w76 hv => ?_)
  obtain ⟨K77, hK77, hv, hrK77, hokK77, -⟩ := (hv.cellRow (n := 2) (c := 2) (size := 4) rfl (by decide) (by decide)).rowBy
  refine xC h9callable49 rfl ((respList K77 _ _ _ 2 2 _ (rList [rStr (Lib.itoa pn), rStrs out]) hokK77 hrK77 (listIn_two hrp73o (hrp73.more hK77 (fun _ h => h)) (hol)) (by decide) hv).mono ?_) rfl
  rintro e w81 ⟨J78, lw79, hJ78, rfl, hrw80, hv⟩
  refine ⟨_, rfl, ?_⟩
  simp only [zP, po]
  refine xS 4 rfl hv rssz28 rfl (by exact ⟨rfl, rfl, rfl, hrw80.lv.2, trivial⟩) (fun w82 hv => ?_)
  simp only [zS, zO, sp] at hv
  refine uW k66 (rR ?_)
  refine bC 4 rswd28 hv rfl rfl rfl rfl (⟨J78, es, M, rList [rStr (Lib.itoa pn), rStrs out], _, (((((hC.trans hE).trans hF).trans hD70).trans hK77).trans hJ78), rfl, (hrw80.more (Base.Le.refl _)), hM.more (((((hC.trans hE).trans hF).trans hD70).trans hK77).trans hJ78), ⟨hO, fun _ => rfl⟩, (hv.kp [3, 3] 2 4)⟩)
theorem h9mk9 : (Tryz.prog.info? 9).map (fun i => (i.zero, i.size, i.bytes)) = some (some (vS []), 1, 16) := by kernel_rfl
theorem h9el22 : Elem Tryz.prog 22 9 (vS []) 1 16 := elem_of Tryz.underlying22 h9mk9 (by rfl) (by decide)
theorem h9callable72 : Callable Tryz.prog 72 := cb Tryz.func72 (by kernel_rfl)
theorem chashCount (B : Base) (H : List Res) (w : World) (v t m s p wb : Nat) (va : Option Addr) (vc : Nat) (sv : Value) (clk : Int) (es : List (List UInt8 × Value)) (M : List (List UInt8 × Ver)) (hM : VM B es M) (hO : OkM M) (aa : Option Addr) (ac : Nat) (args : List (List UInt8)) (hra : RdV B [] aa (textCells args)) (hoka : SliceOk aa args.length ac) (hma : args.length ≤ 10000) (key : List UInt8) (hkey : args[0]? = some key) (f by_ : List UInt8) (hN : NumB B) (hv : Inv B (Res.cell v [.iface 63 (vP t)] 40 :: txR t m s p wb va vc sv clk es :: H) w) :
  Calls Tryz.prog 40 #[.agg #[vP v, .slice aa args.length ac], vS f, vS by_] w fun e w' => ∃ C es' M' r cs, B.Le C ∧ e = .returned (.agg cs.toArray) ∧ RpAt C r cs ∧ VM C es' M' ∧ HIncR M clk key f by_ M' r ∧ Inv C (Res.cell v [.iface 63 (vP t)] 40 :: txR t m s p wb va vc sv clk es' :: H) w' := by
 refine cW Tryz.func40 rfl Tryz.ntmps40 ?_
 simp only [al]
 refine sK fun _ k1 => ?_
 have hal := (List.getElem?_eq_some_iff.1 hkey).1
 obtain ⟨ab, ao, had, hrdkey⟩ := text_reads hra hkey
 subst had
 refine rL (sl_box (L := [vP v, .slice (some ⟨ab, ao, none⟩) args.length ac]) tV (wn rfl) rfl rfl hv (fun w => by kernel_rfl) (fun b2 w3 hv => ?_))
 simp only [zP, po]
 refine sl_alloc tV (wn rfl) rfl hv h9al28 (fun b4 w5 hv => ?_)
 refine uW k1 (sK fun _ k6 => ?_)
 refine rL (uM rfl ?_)
 refine sl_rowOne (v := vS by_) tV (wn rfl) rfl rfl hv h9el22 rfl (fun b7 w8 hv => ?_)
 simp only [zP, po]
 obtain ⟨K9, hK9, hv, hrkK9, hokK9, -⟩ := (hv.cellRow (n := 1) (c := 1) (size := 1) rfl (by decide) (by decide)).rowBy
 refine xC v8callable71 rfl ((viewInts K9 _ _ _ 1 [by_] hrkK9 (Nat.le_of_ble_eq_true rfl) (hN.more hK9) hv).mono ?_) rfl
 rintro e w10 ⟨E, ia, ic, ns, ei, hE, rfl, hri, hir, hv⟩
 refine ⟨_, rfl, ?_⟩
 rcases ints_one hir with ⟨rfl, n0, rfl, hn0⟩ | ⟨rfl, rfl, hn0⟩
 ·refine uG (.tuple #[.slice ia 1 ic, vI 0]) rfl (ex_move rfl rfl) ?_
  refine uG (.slice ia 1 ic) rfl (ex_extract rfl rfl rfl) (uE rfl ?_)
  refine uA rfl (uA rfl ?_)
  refine uW k6 (sK fun _ k11 => ?_)
  refine sK fun _ k12 => rL (uM rfl ?_)
  refine uG (.bool false) rfl (ex_neq rfl rfl rfl (by decide)) (uW k12 ?_)
  refine cF rfl (kS ?_)
  refine tK k11 (sK fun _ k13 => ?_)
  refine rT mixed (fun az wz => ∃ (C : Base) (y : Ver) (yp yt yz : Value) (ec : Int) (b20 : Nat), (E.Le C) ∧ (ValAt C y.val yp yt yz) ∧ (OfI M clk key 2 y ec) ∧ az = { tmps := List.toArray (.agg #[vP v, .slice (some ⟨ab, ao, none⟩) args.length ac] :: vS f :: vS by_ :: vP b2 :: undef :: undef :: vP b4 :: .slice ia 1 ic :: vI ec :: vP b20 :: undef :: undef :: undef :: undef :: undef :: .tuple #[.slice ia 1 ic, vI 0] :: vS by_ :: .slice (some ⟨b7, 0, none⟩) 1 1 :: .tuple #[.slice ia 1 ic, vI 0] :: .slice ia 1 ic :: vI 0 :: vI 0 :: .bool false :: undef :: undef :: .tuple #[.agg #[vI y.stamp, .bool y.gone, vI y.expire, vI y.val.kind, vS y.val.text, yp, yt, yz], vI ec] :: vP b2 :: vP v :: .pointer (some ⟨b2, 1, none⟩) :: .slice (some ⟨ab, ao, none⟩) args.length ac :: .pointer (some ⟨ab, ao + 0, none⟩) :: vS key :: .tuple #[.agg #[vI y.stamp, .bool y.gone, vI y.expire, vI y.val.kind, vS y.val.text, yp, yt, yz], vI ec] :: .agg #[vI y.stamp, .bool y.gone, vI y.expire, vI y.val.kind, vS y.val.text, yp, yt, yz] :: vI ec :: undef :: undef :: undef :: undef :: undef :: undef :: undef :: undef :: undef :: undef :: undef :: undef :: undef :: undef :: undef :: undef :: undef :: undef :: undef :: undef :: undef :: undef :: undef :: undef :: undef :: undef :: undef :: undef :: undef :: undef :: undef :: undef :: undef :: undef :: undef :: undef :: undef :: undef :: undef :: undef :: undef :: undef :: undef :: undef :: undef :: undef :: undef :: undef :: undef :: undef :: undef :: undef :: undef :: undef :: undef :: undef :: undef :: []), defers := [] } ∧ Inv C (Res.cell b20 [vI y.stamp, .bool y.gone, vI y.expire, vI y.val.kind, vS y.val.text, yp, yt, yz] 86 :: Res.cell v [.iface 63 (vP t)] 40 :: txR t m s p wb va vc sv clk es :: Res.cell b4 [vI 0, vS [], vI 0, vN] 28 :: Res.cell b2 [vP v, .slice (some ⟨ab, ao, none⟩) args.length ac] 74 :: H) wz) [6, 10, 11] [0,1,2,3,4,5] [7,8,9,10,11,12] [6,7,8,9,11,12] 6 10 92 rfl (by kernel_rfl) hv ?_ ?_
  ·intro R2 l1 l2 hR2 hl1 hl2
   simp only [qm, opAt]
   refine tG (vP b2) rfl (ex_field rfl rfl (h8fa74_0 _ _ _)) (tF (vP v) rfl (fun hv => ex_load rfl rfl (run_load1 h8na24 (hv.load 1 0 rfl rfl))) fun f14 hf14 => ?_)
   simp only [zP, po]
   refine tG (.pointer (some ⟨b2, 1, none⟩)) rfl (ex_field rfl rfl (h8fa74_1 _ _ _)) (tF (.slice (some ⟨ab, ao, none⟩) args.length ac) rfl (fun hv => ex_load rfl rfl (run_load1 s1na22 (hv.load 1 1 rfl rfl))) fun f15 hf15 => ?_)
   simp only [zP, po]
   refine tG (.pointer (some ⟨ab, ao + 0, none⟩)) rfl (ex_index rfl rfl rfl (run_idx1 (k := 0) Tryz.underlying22 s9es22 (by omega))) (tF (vS key) rfl (fun hv => ex_load rfl rfl (run_load1 s9na9 (hrdkey _ _ _ (hK9.trans hE) no_res hv 0 _ rfl))) fun f16 hf16 => ?_)
   simp only [zP, po]
   refine tB ?_ ?_
   ·rw [hl1]; clear hl1 hl2
    simp only [qm, opAt]
    refine dS rfl fun w17 hv => ?_
    replace hv := hv.front 3 rfl
    simp only [eS, eZ] at hv
    replace hv := hv.front 3 rfl
    simp only [eS, eZ] at hv
    refine mC h9callable41 rfl ((viewOf E _ _ v t m s p wb va vc sv clk es M key 2 (hM.more (hK9.trans hE)) hv).mono ?_) rfl
    rintro e w18 ⟨C, y, yp, yt, yz, ec, hC, rfl, hyv, hof, hv⟩
    refine ⟨_, rfl, dV hv (fK rfl (fK rfl (fK rfl fN))) ?_⟩
    refine dM (.tuple #[.agg #[vI y.stamp, .bool y.gone, vI y.expire, vI y.val.kind, vS y.val.text, yp, yt, yz], vI ec]) rfl (dG (.agg #[vI y.stamp, .bool y.gone, vI y.expire, vI y.val.kind, vS y.val.text, yp, yt, yz]) rfl (ex_extract rfl rfl rfl) ?_)
    simp only [zP, po]
    refine dG (vI ec) rfl (ex_extract rfl rfl rfl) (dS rfl fun w19 hv => ?_)
    refine mem_alloc rfl rfl hv h9al86 (fun b20 w21 hv => ?_)
    refine dV hv (fC (fun ww hv => hf16 ww (ex_load rfl rfl (run_load1 s9na9 (hrdkey _ _ _ ((hK9.trans hE).trans hC) no_res hv 0 _ rfl)))) (fC (fun ww hv => hf15 ww (ex_load rfl rfl (run_load1 s1na22 (hv.load 4 1 rfl rfl)))) (fC (fun ww hv => hf14 ww (ex_load rfl rfl (run_load1 h8na24 (hv.load 4 0 rfl rfl)))) fN))) (dS rfl fun w22 hv => ?_)
    refine mS 0 rfl hv x0sz86 rfl (by exact ⟨rfl, rfl, rfl, rfl, rfl, hyv.p.one, hyv.t.one, hyv.z.one, trivial⟩) (fun w23 hv => ?_)
    simp only [zO, sp] at hv
    refine dV hv (fK rfl (fK rfl (fK rfl fN))) ?_
    simp only [zP, po]
    refine dA (vI ec) rfl (dE fun wz hv => ?_)
    simp only [zP, po]
    exact hR2 _ _ ⟨C, y, yp, yt, yz, ec, b20, hC, hyv, hof, rfl, (((((hv.front 4 rfl).front 4 rfl).front 4 rfl).front 4 rfl).front 4 rfl)⟩
   rw [hl2]; clear hl1 hl2
   simp only [qm, opAt]
   refine dS rfl fun w24 hv => mem_alloc rfl rfl hv h9al86 (fun b25 w26 hv => ?_)
   refine dV hv (fC (fun ww hv => hf16 ww (ex_load rfl rfl (run_load1 s9na9 (hrdkey _ _ _ (hK9.trans hE) no_res hv 0 _ rfl)))) (fC (fun ww hv => hf15 ww (ex_load rfl rfl (run_load1 s1na22 (hv.load 2 1 rfl rfl)))) (fC (fun ww hv => hf14 ww (ex_load rfl rfl (run_load1 h8na24 (hv.load 2 0 rfl rfl)))) fN))) (dS rfl fun w27 hv => ?_)
   replace hv := hv.front 4 rfl
   simp only [eS, eZ] at hv
   replace hv := hv.front 4 rfl
   simp only [eS, eZ] at hv
   refine mC h9callable41 rfl ((viewOf E _ _ v t m s p wb va vc sv clk es M key 2 (hM.more (hK9.trans hE)) hv).mono ?_) rfl
   rintro e w28 ⟨C, y, yp, yt, yz, ec, hC, rfl, hyv, hof, hv⟩
   refine ⟨_, rfl, dV hv (fK rfl (fK rfl (fK rfl fN))) ?_⟩
   refine dM (.tuple #[.agg #[vI y.stamp, .bool y.gone, vI y.expire, vI y.val.kind, vS y.val.text, yp, yt, yz], vI ec]) rfl ?_
   simp only [zP, po]
   refine dG (.agg #[vI y.stamp, .bool y.gone, vI y.expire, vI y.val.kind, vS y.val.text, yp, yt, yz]) rfl (ex_extract rfl rfl rfl) (dG (vI ec) rfl (ex_extract rfl rfl rfl) ?_)
   refine dS rfl fun w29 hv => mS 2 rfl hv x0sz86 rfl (by exact ⟨rfl, rfl, rfl, rfl, rfl, hyv.p.one, hyv.t.one, hyv.z.one, trivial⟩) (fun w30 hv => ?_)
   simp only [zS, zO, sp] at hv
   refine dV hv (fK rfl (fK rfl (fK rfl fN))) ?_
   simp only [zP, po]
   refine dA (vI ec) rfl (dE fun wz hv => ?_)
   simp only [zP, po]
   exact hR2 _ _ ⟨C, y, yp, yt, yz, ec, b25, hC, hyv, hof, rfl, (((((hv.front 4 rfl).front 4 rfl).front 3 rfl).front 3 rfl).front 4 rfl)⟩
  rintro _ w31 ⟨C, y, yp, yt, yz, ec, b20, hC, hyv, hof, rfl, hv⟩
  obtain ⟨pa, pc, sa, sc, za, zc, rfl, rfl, rfl, hokp, hrp, hoks, hrs, hokz, hrz⟩ := valAt_open hyv
  refine tK k13 (sK fun _ k32 => ?_)
  refine sK fun _ k33 => rL (uM rfl ?_)
  by_cases hb34 : ec ≠ 0
  ·refine uG (.bool true) rfl (ex_neq rfl rfl rfl (qT hb34)) (uW k33 ?_)
   refine cT rfl (sK fun _ k35 => ?_)
   refine rL (uM rfl ?_)
   refine xC rscallable24 rfl ((viewWrong C _ _ ec hv).mono ?_) rfl
   rintro e w37 ⟨s36, rfl, hv⟩
   refine ⟨_, rfl, ?_⟩
   simp only [zP, po]
   refine xS 3 rfl hv rssz28 rfl (by exact ⟨rfl, rfl, rfl, rfl, trivial⟩) (fun w38 hv => ?_)
   simp only [zS, zO, sp] at hv
   refine uW k35 (rR ?_)
   refine tR (bC 3 rswd28 hv rfl rfl rfl rfl ?_)
   exact ⟨C, es, M, rFault s36, rpCells 1 s36 0 (vN), ((hK9.trans hE).trans hC), rfl, rpAt_leaf, hM.more ((hK9.trans hE).trans hC), .inr ⟨n0, hn0, y, ec, hof, .inl ⟨hb34, rfl, rfl⟩⟩, (hv.kp [2, 2] 2 3)⟩
  refine uG (.bool false) rfl (ex_neq rfl rfl rfl (qF hb34)) (uW k33 ?_)
  refine cF rfl (kS ?_)
  refine tK k32 (sK fun _ k39 => ?_)
  refine rL (uF (.pointer (some ⟨b20, 3, none⟩)) rfl (x2fa86_3 _ _ _) ?_)
  refine uF (.pointer (some ⟨b20, 5, none⟩)) rfl (s1fa79_2 _ _ _) ?_
  refine uL _ rfl (run_load1 s1na76 (hv.load 0 5 rfl rfl)) (uM rfl ?_)
  have hof0 : ec = 0 := by omega
  refine xC h7callable43 rfl ((hashGetO C _ _ pa pc y.val.pairs f (hrp.more (Base.Le.refl _) (fun _ h => h)) (hO.hsorted hof) hyv.pm hv).mono ?_) rfl
  rintro e w40 ⟨s0, has, rfl, hgo, hv⟩
  refine ⟨_, rfl, ?_⟩
  rcases hgo with ⟨rfl, hg⟩ | ⟨rfl, rfl, hg⟩
  ·refine uM rfl (uE rfl ?_)
   refine uE rfl (uA rfl ?_)
   refine uA rfl (uW k39 ?_)
   refine sK fun _ k41 => sK fun _ k42 => rL (uM rfl ?_)
   refine uM rfl ?_
   refine uM rfl ?_
   by_cases hb43 : s0 = ([] : List UInt8)
   ·refine uG (.bool true) rfl (ex_seql rfl rfl rfl (qT hb43)) (uK rfl ?_)
    refine uW k42 (cT rfl ?_)
    refine sK fun _ k44 => rL (xC rscallable24 rfl ((viewWrong C _ _ 41 hv).mono ?_) rfl)
    rintro e w46 ⟨s45, rfl, hv⟩
    refine ⟨_, rfl, ?_⟩
    simp only [zP, po]
    refine xS 3 rfl hv rssz28 rfl (by exact ⟨rfl, rfl, rfl, rfl, trivial⟩) (fun w47 hv => ?_)
    simp only [zS, zO, sp] at hv
    refine uW k44 (rR ?_)
    refine tR (bC 3 rswd28 hv rfl rfl rfl rfl ?_)
    exact ⟨C, es, M, rFault s45, rpCells 1 s45 0 (vN), ((hK9.trans hE).trans hC), rfl, rpAt_leaf, hM.more ((hK9.trans hE).trans hC), .inr ⟨n0, hn0, y, ec, hof, .inr ⟨hof0, .inl ⟨by rw [hg, hb43], rfl, rfl⟩⟩⟩, (hv.kp [2, 2] 2 3)⟩
   refine uG (.bool false) rfl (ex_seql rfl rfl rfl (qF hb43)) (uK rfl ?_)
   refine uW k42 (cF rfl ?_)
   refine kS (tK k41 ?_)
   refine sK fun _ k48 => ?_
   obtain ⟨ib, io, had, hrdn⟩ := int_reads hri (show [n0][0]? = some n0 from rfl)
   subst had
   have hnr : -9223372036854775808 ≤ n0 ∧ n0 ≤ 9223372036854775807 := hn0.elim (fun h => ⟨h.2.1, h.2.2.1⟩) (fun h => absurd h.1 (by decide))
   refine rL (uM rfl ?_)
   refine uG (.slice (some ⟨ib, io, none⟩) 1 ic) rfl (ex_move rfl rfl) ?_
   refine uG (.pointer (some ⟨ib, io + 0, none⟩)) rfl (ex_index rfl rfl rfl (run_idx1 (k := 0) Tryz.underlying148 s11es148 (by omega))) ?_
   refine uL _ rfl (run_load1 s2na3 (hrdn _ _ _ hC no_res hv 0 _ rfl)) ?_
   refine xC h9callable72 rfl ((strIncr C _ _ s0 n0 hnr (hN.more ((hK9.trans hE).trans hC)) hv).mono ?_) rfl
   rintro e w49 ⟨sum, e1, rfl, hinc, hv⟩
   refine ⟨_, rfl, ?_⟩
   have hinc : IncrI ((getH y.val.pairs f).getD []) n0 sum e1 := by rw [hg]; exact hinc
   have hgn : getH y.val.pairs f ≠ some [] := by rw [hg]; exact fun h9 => hb43 (Option.some.inj h9)
   refine uM rfl (uE rfl ?_)
   refine uE rfl (uA rfl ?_)
   refine uA rfl (uW k48 ?_)
   refine sK fun _ k50 => sK fun _ k51 => rL (uM rfl ?_)
   by_cases hb52 : e1 = 10
   ·refine uG (.bool true) rfl (ex_eql rfl rfl rfl (qT hb52)) (uW k51 ?_)
    refine cT rfl (sK fun _ k53 => ?_)
    refine rL (xC rscallable24 rfl ((viewWrong C _ _ 41 hv).mono ?_) rfl)
    rintro e w55 ⟨s54, rfl, hv⟩
    refine ⟨_, rfl, ?_⟩
    simp only [zP, po]
    refine xS 3 rfl hv rssz28 rfl (by exact ⟨rfl, rfl, rfl, rfl, trivial⟩) (fun w56 hv => ?_)
    simp only [zS, zO, sp] at hv
    refine uW k53 (rR ?_)
    refine tR (bC 3 rswd28 hv rfl rfl rfl rfl ?_)
    exact ⟨C, es, M, rFault s54, rpCells 1 s54 0 (vN), ((hK9.trans hE).trans hC), rfl, rpAt_leaf, hM.more ((hK9.trans hE).trans hC), .inr ⟨n0, hn0, y, ec, hof, .inr ⟨hof0, .inr ⟨hgn, sum, e1, hinc, .inl ⟨by omega, rfl, rfl⟩⟩⟩⟩, (hv.kp [2, 2] 2 3)⟩
   refine uG (.bool false) rfl (ex_eql rfl rfl rfl (qF hb52)) (uW k51 ?_)
   refine cF rfl (kS ?_)
   refine tK k50 (sK fun _ k57 => ?_)
   refine sK fun _ k58 => rL (uM rfl ?_)
   by_cases hb59 : e1 ≠ 0
   ·refine uG (.bool true) rfl (ex_neq rfl rfl rfl (qT hb59)) (uW k58 ?_)
    refine cT rfl (sK fun _ k60 => ?_)
    refine rL (uM rfl ?_)
    refine xC rscallable24 rfl ((viewWrong C _ _ e1 hv).mono ?_) rfl
    rintro e w62 ⟨s61, rfl, hv⟩
    refine ⟨_, rfl, ?_⟩
    simp only [zP, po]
    refine xS 3 rfl hv rssz28 rfl (by exact ⟨rfl, rfl, rfl, rfl, trivial⟩) (fun w63 hv => ?_)
    simp only [zS, zO, sp] at hv
    refine uW k60 (rR ?_)
    refine tR (bC 3 rswd28 hv rfl rfl rfl rfl ?_)
    exact ⟨C, es, M, rFault s61, rpCells 1 s61 0 (vN), ((hK9.trans hE).trans hC), rfl, rpAt_leaf, hM.more ((hK9.trans hE).trans hC), .inr ⟨n0, hn0, y, ec, hof, .inr ⟨hof0, .inr ⟨hgn, sum, e1, hinc, .inl ⟨by omega, rfl, rfl⟩⟩⟩⟩, (hv.kp [2, 2] 2 3)⟩
   refine uG (.bool false) rfl (ex_neq rfl rfl rfl (qF hb59)) (uW k58 ?_)
   refine cF rfl (kS ?_)
   refine tK k57 (sK fun _ k64 => ?_)
   refine rW mixed [5, 7, 8] [0,1,2,3,4,5,6,7,8,9,10,11,12,13,14,15] 92 rfl (by kernel_rfl) hv ?_
   simp only [qm, opAt]
   refine dG (.pointer (some ⟨b20, 3, none⟩)) rfl (ex_field rfl rfl (x2fa86_3 _ _ _)) (dG (.pointer (some ⟨b20, 5, none⟩)) rfl (ex_field rfl rfl (s1fa79_2 _ _ _)) ?_)
   refine dF _ rfl (fun hv => ex_load rfl rfl (run_load1 s1na76 (hv.load 0 5 rfl rfl))) fun f65 hf65 => ?_
   simp only [zP, po]
   refine dM (vS f) rfl (dM (vI sum) rfl ?_)
   refine dS rfl fun w66 hv => ?_
   have hsf : fitsI sum := by
    rcases hinc with ⟨h9, -⟩ | ⟨-, h9, -⟩
    ·omega
    exact h9
   refine mC pzcallable70 rfl ((numPrint C _ (hN C _ ((hK9.trans hE).trans hC)).1 _ sum hsf.1 hsf.2 hv).mono ?_) rfl
   rintro e w67 ⟨rfl, hv⟩
   refine ⟨_, rfl, dV hv (fC (fun ww hv => hf65 ww (ex_load rfl rfl (run_load1 s1na76 (hv.load 0 5 rfl rfl)))) fN) ?_⟩
   simp only [zP, po]
   refine dG (.agg #[vS f, vS (Lib.itoa sum)]) rfl (ex_buildN (vs := #[(0, vS f), (1, vS (Lib.itoa sum))]) rfl (by simp only [List.map_toArray, List.map_cons, List.map_nil]; rfl) (by kernel_rfl)) (dS rfl fun w68 hv => ?_)
   refine mem_rowAgg (L := [vS f, vS (Lib.itoa sum)]) rfl rfl rfl hv h9el76 rfl (by decide) (fun b69 w70 hv => ?_)
   refine dV hv (fC (fun ww hv => hf65 ww (ex_load rfl rfl (run_load1 s1na76 (hv.load 1 5 rfl rfl)))) fN) (dS rfl fun w71 hv => ?_)
   obtain ⟨P, hP, hv, hrq, -, -⟩ := (hv.cellRow (n := 1) (c := 1) (size := 2) rfl (by decide) (by decide)).rowBy
   refine mC h8callable73 rfl ((hashSet P _ _ pa pc y.val.pairs hokp (hrp.more hP (fun _ h => h)) hyv.pm (hO.hsorted hof) _ 1 [(f, Lib.itoa sum)] hrq (Nat.le_of_ble_eq_true rfl) hv).mono ?_) rfl
   rintro e w72 ⟨F, oa, oc, out, n, e2, hF, rfl, hoko, hro, hset, hv⟩
   refine ⟨_, rfl, dV hv (fK rfl fN) ?_⟩
   simp only [zP, po]
   refine dM (.tuple #[.slice oa out.length oc, vI n, vI e2]) rfl (dG (.slice oa out.length oc) rfl (ex_extract rfl rfl rfl) ?_)
   refine dG (vI n) rfl (ex_extract rfl rfl rfl) ?_
   simp only [zP, po]
   refine dG (vI e2) rfl (ex_extract rfl rfl rfl) (dA (.slice oa out.length oc) rfl ?_)
   refine dA (vI n) rfl ?_
   simp only [zP, po]
   refine dA (vI e2) rfl (dE fun w73 hv => ?_)
   simp only [zP, po]
   refine tK k64 (sK fun _ k74 => ?_)
   refine sK fun _ k75 => rL (uM rfl ?_)
   by_cases hb76 : e2 ≠ 0
   ·refine uG (.bool true) rfl (ex_neq rfl rfl rfl (qT hb76)) (uW k75 ?_)
    refine cT rfl (sK fun _ k77 => ?_)
    refine rL (uM rfl ?_)
    refine xC rscallable24 rfl ((viewWrong F _ _ e2 hv).mono ?_) rfl
    rintro e w79 ⟨s78, rfl, hv⟩
    refine ⟨_, rfl, ?_⟩
    simp only [zP, po]
    refine xS 3 rfl hv rssz28 rfl (by exact ⟨rfl, rfl, rfl, rfl, trivial⟩) (fun w80 hv => ?_)
    simp only [zS, zO, sp] at hv
    refine uW k77 (rR ?_)
    refine tR (bC 3 rswd28 hv rfl rfl rfl rfl ?_)
    exact ⟨F, es, M, rFault s78, rpCells 1 s78 0 (vN), ((((hK9.trans hE).trans hC).trans hP).trans hF), rfl, rpAt_leaf, hM.more ((((hK9.trans hE).trans hC).trans hP).trans hF), .inr ⟨n0, hn0, y, ec, hof, .inr ⟨hof0, .inr ⟨hgn, sum, e1, hinc, .inr ⟨by omega, out, n, e2, hset, .inl ⟨by omega, rfl, rfl⟩⟩⟩⟩⟩, (hv.kp [2, 2] 2 3)⟩
   refine uG (.bool false) rfl (ex_neq rfl rfl rfl (qF hb76)) (uW k75 ?_)
   refine cF rfl (kS ?_)
   refine tK k74 (sK fun _ k81 => ?_)
   refine rL (uL (.agg #[vP v, .slice (some ⟨ab, ao, none⟩) args.length ac]) rfl (lM 4 h8wd74 hv rfl rfl rfl rfl) ?_)
   refine uL (.agg #[vI y.stamp, .bool y.gone, vI y.expire, vI y.val.kind, vS y.val.text, .slice pa y.val.pairs.length pc, .slice sa y.val.texts.length sc, .slice za y.val.zset.length zc]) rfl (lM 0 x0wd86 hv rfl rfl rfl rfl) (uM rfl ?_)
   replace hv := hv.front 2 rfl
   simp only [eS, eZ] at hv
   replace hv := hv.front 2 rfl
   simp only [eS, eZ] at hv
   refine xC h8callable47 rfl ((chashKeep F _ _ v t m s p wb va vc sv clk es M (hM.more ((((hK9.trans hE).trans hC).trans hP).trans hF)) (some ⟨ab, ao, none⟩) ac args (hra.more ((((hK9.trans hE).trans hC).trans hP).trans hF) (fun _ h => h)) hoka (by omega) key hkey y pa pc _ _ (hyv.more (hP.trans hF)) oa oc out (hro.more (Base.Le.refl _) (fun _ h => h)) hoko (hset.elim (fun h9 => by rw [h9.2.1]; exact Nat.zero_le _) (fun h9 => by have := h9.2.2.2.1; omega)) hv).mono ?_) rfl
   rintro e w82 ⟨G, es', M', e3, hG, rfl, hM', hkp, hv⟩
   refine ⟨_, rfl, uM rfl ?_⟩
   refine xC h8callable44 rfl ((respInt G _ _ sum hv).mono ?_) rfl
   rintro e w83 ⟨rfl, hv⟩
   refine ⟨_, rfl, ?_⟩
   simp only [zP, po]
   refine xC h8callable46 rfl ((viewDone G _ _ e3 2 sum ([] : List UInt8) (vN) rfl rfl hv).mono ?_) rfl
   rintro e w84 ⟨xr, hxr, rfl, hv⟩
   refine ⟨_, rfl, ?_⟩
   rcases hxr with ⟨hec0, rfl⟩ | ⟨hec0, s85, rfl⟩
   ·simp only [zP, po]
    refine xS 3 rfl hv rssz28 rfl (by exact ⟨rfl, rfl, rfl, rfl, trivial⟩) (fun w86 hv => ?_)
    simp only [zS, zO, sp] at hv
    refine uW k81 (rR ?_)
    refine bC 3 rswd28 hv rfl rfl rfl rfl (⟨G, es', M', rInt sum, rpCells 2 [] sum (vN), (((((hK9.trans hE).trans hC).trans hP).trans hF).trans hG), rfl, rpAt_leaf, hM'.more (Base.Le.refl _), .inr ⟨n0, hn0, y, ec, hof, .inr ⟨hof0, .inr ⟨hgn, sum, e1, hinc, .inr ⟨by omega, out, n, e2, hset, .inr ⟨by omega, e3, hkp, .inl ⟨by omega, rfl⟩⟩⟩⟩⟩⟩, (hv.kp [1, 1] 2 3)⟩)
   simp only [zP, po]
   refine xS 3 rfl hv rssz28 rfl (by exact ⟨rfl, rfl, rfl, rfl, trivial⟩) (fun w87 hv => ?_)
   simp only [zS, zO, sp] at hv
   refine uW k81 (rR ?_)
   refine bC 3 rswd28 hv rfl rfl rfl rfl (⟨G, es', M', rFault s85, rpCells 1 s85 0 (vN), (((((hK9.trans hE).trans hC).trans hP).trans hF).trans hG), rfl, rpAt_leaf, hM'.more (Base.Le.refl _), .inr ⟨n0, hn0, y, ec, hof, .inr ⟨hof0, .inr ⟨hgn, sum, e1, hinc, .inr ⟨by omega, out, n, e2, hset, .inr ⟨by omega, e3, hkp, .inr ⟨by omega, rfl⟩⟩⟩⟩⟩⟩, (hv.kp [1, 1] 2 3)⟩)
  refine uM rfl (uE rfl ?_)
  refine uE rfl (uA rfl ?_)
  refine uA rfl (uW k39 ?_)
  refine sK fun _ k88 => sK fun _ k89 => rL (uM rfl ?_)
  refine uM rfl ?_
  refine uP rfl ?_
  refine uP rfl (uK rfl ?_)
  refine uW k89 (cF rfl ?_)
  refine kS (tK k88 ?_)
  refine sK fun _ k90 => ?_
  obtain ⟨ib, io, had, hrdn⟩ := int_reads hri (show [n0][0]? = some n0 from rfl)
  subst had
  have hnr : -9223372036854775808 ≤ n0 ∧ n0 ≤ 9223372036854775807 := hn0.elim (fun h => ⟨h.2.1, h.2.2.1⟩) (fun h => absurd h.1 (by decide))
  refine rL (uM rfl ?_)
  refine uG (.slice (some ⟨ib, io, none⟩) 1 ic) rfl (ex_move rfl rfl) ?_
  refine uG (.pointer (some ⟨ib, io + 0, none⟩)) rfl (ex_index rfl rfl rfl (run_idx1 (k := 0) Tryz.underlying148 s11es148 (by omega))) ?_
  refine uL _ rfl (run_load1 s2na3 (hrdn _ _ _ hC no_res hv 0 _ rfl)) ?_
  refine xC h9callable72 rfl ((strIncr C _ _ ([] : List UInt8) n0 hnr (hN.more ((hK9.trans hE).trans hC)) hv).mono ?_) rfl
  rintro e w91 ⟨sum, e1, rfl, hinc, hv⟩
  refine ⟨_, rfl, ?_⟩
  have hinc : IncrI ((getH y.val.pairs f).getD []) n0 sum e1 := by rw [hg]; exact hinc
  have hgn : getH y.val.pairs f ≠ some [] := by rw [hg]; exact fun h9 => by cases h9
  refine uM rfl (uE rfl ?_)
  refine uE rfl (uA rfl ?_)
  refine uA rfl (uW k90 ?_)
  refine sK fun _ k92 => sK fun _ k93 => rL (uM rfl ?_)
  by_cases hb94 : e1 = 10
  ·refine uG (.bool true) rfl (ex_eql rfl rfl rfl (qT hb94)) (uW k93 ?_)
   refine cT rfl (sK fun _ k95 => ?_)
   refine rL (xC rscallable24 rfl ((viewWrong C _ _ 41 hv).mono ?_) rfl)
   rintro e w97 ⟨s96, rfl, hv⟩
   refine ⟨_, rfl, ?_⟩
   simp only [zP, po]
   refine xS 3 rfl hv rssz28 rfl (by exact ⟨rfl, rfl, rfl, rfl, trivial⟩) (fun w98 hv => ?_)
   simp only [zS, zO, sp] at hv
   refine uW k95 (rR ?_)
   refine tR (bC 3 rswd28 hv rfl rfl rfl rfl ?_)
   exact ⟨C, es, M, rFault s96, rpCells 1 s96 0 (vN), ((hK9.trans hE).trans hC), rfl, rpAt_leaf, hM.more ((hK9.trans hE).trans hC), .inr ⟨n0, hn0, y, ec, hof, .inr ⟨hof0, .inr ⟨hgn, sum, e1, hinc, .inl ⟨by omega, rfl, rfl⟩⟩⟩⟩, (hv.kp [2, 2] 2 3)⟩
  refine uG (.bool false) rfl (ex_eql rfl rfl rfl (qF hb94)) (uW k93 ?_)
  refine cF rfl (kS ?_)
  refine tK k92 (sK fun _ k99 => ?_)
  refine sK fun _ k100 => rL (uM rfl ?_)
  by_cases hb101 : e1 ≠ 0
  ·refine uG (.bool true) rfl (ex_neq rfl rfl rfl (qT hb101)) (uW k100 ?_)
   refine cT rfl (sK fun _ k102 => ?_)
   refine rL (uM rfl ?_)
   refine xC rscallable24 rfl ((viewWrong C _ _ e1 hv).mono ?_) rfl
   rintro e w104 ⟨s103, rfl, hv⟩
   refine ⟨_, rfl, ?_⟩
   simp only [zP, po]
   refine xS 3 rfl hv rssz28 rfl (by exact ⟨rfl, rfl, rfl, rfl, trivial⟩) (fun w105 hv => ?_)
   simp only [zS, zO, sp] at hv
   refine uW k102 (rR ?_)
   refine tR (bC 3 rswd28 hv rfl rfl rfl rfl ?_)
   exact ⟨C, es, M, rFault s103, rpCells 1 s103 0 (vN), ((hK9.trans hE).trans hC), rfl, rpAt_leaf, hM.more ((hK9.trans hE).trans hC), .inr ⟨n0, hn0, y, ec, hof, .inr ⟨hof0, .inr ⟨hgn, sum, e1, hinc, .inl ⟨by omega, rfl, rfl⟩⟩⟩⟩, (hv.kp [2, 2] 2 3)⟩
  refine uG (.bool false) rfl (ex_neq rfl rfl rfl (qF hb101)) (uW k100 ?_)
  refine cF rfl (kS ?_)
  refine tK k99 (sK fun _ k106 => ?_)
  refine rW mixed [5, 7, 8] [0,1,2,3,4,5,6,7,8,9,10,11,12,13,14,15] 92 rfl (by kernel_rfl) hv ?_
  simp only [qm, opAt]
  refine dG (.pointer (some ⟨b20, 3, none⟩)) rfl (ex_field rfl rfl (x2fa86_3 _ _ _)) (dG (.pointer (some ⟨b20, 5, none⟩)) rfl (ex_field rfl rfl (s1fa79_2 _ _ _)) ?_)
  refine dF _ rfl (fun hv => ex_load rfl rfl (run_load1 s1na76 (hv.load 0 5 rfl rfl))) fun f107 hf107 => ?_
  simp only [zP, po]
  refine dM (vS f) rfl (dM (vI sum) rfl ?_)
  refine dS rfl fun w108 hv => ?_
  have hsf : fitsI sum := by
   rcases hinc with ⟨h9, -⟩ | ⟨-, h9, -⟩
   ·omega
   exact h9
  refine mC pzcallable70 rfl ((numPrint C _ (hN C _ ((hK9.trans hE).trans hC)).1 _ sum hsf.1 hsf.2 hv).mono ?_) rfl
  rintro e w109 ⟨rfl, hv⟩
  refine ⟨_, rfl, dV hv (fC (fun ww hv => hf107 ww (ex_load rfl rfl (run_load1 s1na76 (hv.load 0 5 rfl rfl)))) fN) ?_⟩
  simp only [zP, po]
  refine dG (.agg #[vS f, vS (Lib.itoa sum)]) rfl (ex_buildN (vs := #[(0, vS f), (1, vS (Lib.itoa sum))]) rfl (by simp only [List.map_toArray, List.map_cons, List.map_nil]; rfl) (by kernel_rfl)) (dS rfl fun w110 hv => ?_)
  refine mem_rowAgg (L := [vS f, vS (Lib.itoa sum)]) rfl rfl rfl hv h9el76 rfl (by decide) (fun b111 w112 hv => ?_)
  refine dV hv (fC (fun ww hv => hf107 ww (ex_load rfl rfl (run_load1 s1na76 (hv.load 1 5 rfl rfl)))) fN) (dS rfl fun w113 hv => ?_)
  obtain ⟨P, hP, hv, hrq, -, -⟩ := (hv.cellRow (n := 1) (c := 1) (size := 2) rfl (by decide) (by decide)).rowBy
  refine mC h8callable73 rfl ((hashSet P _ _ pa pc y.val.pairs hokp (hrp.more hP (fun _ h => h)) hyv.pm (hO.hsorted hof) _ 1 [(f, Lib.itoa sum)] hrq (Nat.le_of_ble_eq_true rfl) hv).mono ?_) rfl
  rintro e w114 ⟨F, oa, oc, out, n, e2, hF, rfl, hoko, hro, hset, hv⟩
  refine ⟨_, rfl, dV hv (fK rfl fN) ?_⟩
  simp only [zP, po]
  refine dM (.tuple #[.slice oa out.length oc, vI n, vI e2]) rfl (dG (.slice oa out.length oc) rfl (ex_extract rfl rfl rfl) ?_)
  refine dG (vI n) rfl (ex_extract rfl rfl rfl) ?_
  simp only [zP, po]
  refine dG (vI e2) rfl (ex_extract rfl rfl rfl) (dA (.slice oa out.length oc) rfl ?_)
  refine dA (vI n) rfl ?_
  simp only [zP, po]
  refine dA (vI e2) rfl (dE fun w115 hv => ?_)
  simp only [zP, po]
  refine tK k106 (sK fun _ k116 => ?_)
  refine sK fun _ k117 => rL (uM rfl ?_)
  by_cases hb118 : e2 ≠ 0
  ·refine uG (.bool true) rfl (ex_neq rfl rfl rfl (qT hb118)) (uW k117 ?_)
   refine cT rfl (sK fun _ k119 => ?_)
   refine rL (uM rfl ?_)
   refine xC rscallable24 rfl ((viewWrong F _ _ e2 hv).mono ?_) rfl
   rintro e w121 ⟨s120, rfl, hv⟩
   refine ⟨_, rfl, ?_⟩
   simp only [zP, po]
   refine xS 3 rfl hv rssz28 rfl (by exact ⟨rfl, rfl, rfl, rfl, trivial⟩) (fun w122 hv => ?_)
   simp only [zS, zO, sp] at hv
   refine uW k119 (rR ?_)
   refine tR (bC 3 rswd28 hv rfl rfl rfl rfl ?_)
   exact ⟨F, es, M, rFault s120, rpCells 1 s120 0 (vN), ((((hK9.trans hE).trans hC).trans hP).trans hF), rfl, rpAt_leaf, hM.more ((((hK9.trans hE).trans hC).trans hP).trans hF), .inr ⟨n0, hn0, y, ec, hof, .inr ⟨hof0, .inr ⟨hgn, sum, e1, hinc, .inr ⟨by omega, out, n, e2, hset, .inl ⟨by omega, rfl, rfl⟩⟩⟩⟩⟩, (hv.kp [2, 2] 2 3)⟩
  refine uG (.bool false) rfl (ex_neq rfl rfl rfl (qF hb118)) (uW k117 ?_)
  refine cF rfl (kS ?_)
  refine tK k116 (sK fun _ k123 => ?_)
  refine rL (uL (.agg #[vP v, .slice (some ⟨ab, ao, none⟩) args.length ac]) rfl (lM 4 h8wd74 hv rfl rfl rfl rfl) ?_)
  refine uL (.agg #[vI y.stamp, .bool y.gone, vI y.expire, vI y.val.kind, vS y.val.text, .slice pa y.val.pairs.length pc, .slice sa y.val.texts.length sc, .slice za y.val.zset.length zc]) rfl (lM 0 x0wd86 hv rfl rfl rfl rfl) (uM rfl ?_)
  replace hv := hv.front 2 rfl
  simp only [eS, eZ] at hv
  replace hv := hv.front 2 rfl
  simp only [eS, eZ] at hv
  refine xC h8callable47 rfl ((chashKeep F _ _ v t m s p wb va vc sv clk es M (hM.more ((((hK9.trans hE).trans hC).trans hP).trans hF)) (some ⟨ab, ao, none⟩) ac args (hra.more ((((hK9.trans hE).trans hC).trans hP).trans hF) (fun _ h => h)) hoka (by omega) key hkey y pa pc _ _ (hyv.more (hP.trans hF)) oa oc out (hro.more (Base.Le.refl _) (fun _ h => h)) hoko (hset.elim (fun h9 => by rw [h9.2.1]; exact Nat.zero_le _) (fun h9 => by have := h9.2.2.2.1; omega)) hv).mono ?_) rfl
  rintro e w124 ⟨G, es', M', e3, hG, rfl, hM', hkp, hv⟩
  refine ⟨_, rfl, uM rfl ?_⟩
  refine xC h8callable44 rfl ((respInt G _ _ sum hv).mono ?_) rfl
  rintro e w125 ⟨rfl, hv⟩
  refine ⟨_, rfl, ?_⟩
  simp only [zP, po]
  refine xC h8callable46 rfl ((viewDone G _ _ e3 2 sum ([] : List UInt8) (vN) rfl rfl hv).mono ?_) rfl
  rintro e w126 ⟨xr, hxr, rfl, hv⟩
  refine ⟨_, rfl, ?_⟩
  rcases hxr with ⟨hec0, rfl⟩ | ⟨hec0, s127, rfl⟩
  ·simp only [zP, po]
   refine xS 3 rfl hv rssz28 rfl (by exact ⟨rfl, rfl, rfl, rfl, trivial⟩) (fun w128 hv => ?_)
   simp only [zS, zO, sp] at hv
   refine uW k123 (rR ?_)
   refine bC 3 rswd28 hv rfl rfl rfl rfl (⟨G, es', M', rInt sum, rpCells 2 [] sum (vN), (((((hK9.trans hE).trans hC).trans hP).trans hF).trans hG), rfl, rpAt_leaf, hM'.more (Base.Le.refl _), .inr ⟨n0, hn0, y, ec, hof, .inr ⟨hof0, .inr ⟨hgn, sum, e1, hinc, .inr ⟨by omega, out, n, e2, hset, .inr ⟨by omega, e3, hkp, .inl ⟨by omega, rfl⟩⟩⟩⟩⟩⟩, (hv.kp [1, 1] 2 3)⟩)
  simp only [zP, po]
  refine xS 3 rfl hv rssz28 rfl (by exact ⟨rfl, rfl, rfl, rfl, trivial⟩) (fun w129 hv => ?_)
  simp only [zS, zO, sp] at hv
  refine uW k123 (rR ?_)
  refine bC 3 rswd28 hv rfl rfl rfl rfl (⟨G, es', M', rFault s127, rpCells 1 s127 0 (vN), (((((hK9.trans hE).trans hC).trans hP).trans hF).trans hG), rfl, rpAt_leaf, hM'.more (Base.Le.refl _), .inr ⟨n0, hn0, y, ec, hof, .inr ⟨hof0, .inr ⟨hgn, sum, e1, hinc, .inr ⟨by omega, out, n, e2, hset, .inr ⟨by omega, e3, hkp, .inr ⟨by omega, rfl⟩⟩⟩⟩⟩⟩, (hv.kp [1, 1] 2 3)⟩)
 refine uM rfl (uE rfl ?_)
 refine uE rfl (uA rfl ?_)
 refine uA rfl (uW k6 ?_)
 refine sK fun _ k130 => sK fun _ k131 => rL (uM rfl ?_)
 refine uG (.bool true) rfl (ex_neq rfl rfl rfl (by decide)) (uW k131 ?_)
 refine cT rfl (sK fun _ k132 => ?_)
 refine rL (uM rfl ?_)
 refine xC rscallable24 rfl ((viewWrong E _ _ 41 hv).mono ?_) rfl
 rintro e w134 ⟨s133, rfl, hv⟩
 refine ⟨_, rfl, ?_⟩
 simp only [zP, po]
 refine xS 0 rfl hv rssz28 rfl (by exact ⟨rfl, rfl, rfl, rfl, trivial⟩) (fun w135 hv => ?_)
 simp only [zO, sp] at hv
 refine uW k132 (rR ?_)
 refine tR (bC 0 rswd28 hv rfl rfl rfl rfl ?_)
 exact ⟨E, es, M, rFault s133, rpCells 1 s133 0 (vN), (hK9.trans hE), rfl, rpAt_leaf, hM.more (hK9.trans hE), .inl ⟨hn0, rfl, rfl⟩, (hv.kp [3, 3] 2 2)⟩
def DoH (M : List (List UInt8 × Ver)) (clk : Int) (name : List UInt8) (args : List (List UInt8)) (M' : List (List UInt8 × Ver)) (r : Rp) : Prop :=
 (name = ([72, 83, 69, 84] : List UInt8) → ∃ k, args[0]? = some k ∧ HSetR M clk k (prsF (args.drop 1)) M' r) ∧ (name = ([72, 71, 69, 84, 65, 76, 76] : List UInt8) → ∃ k, args[0]? = some k ∧ HAllR M clk k M' r) ∧ (name = ([72, 68, 69, 76] : List UInt8) → ∃ k, args[0]? = some k ∧ HDelR M clk k (args.drop 1) M' r) ∧ (name = ([72, 73, 78, 67, 82, 66, 89] : List UInt8) → ∃ k f b, args[0]? = some k ∧ args[1]? = some f ∧ args[2]? = some b ∧ HIncR M clk k f b M' r)
theorem hAal28 : AL Tryz.prog 28 [vI 0, vS [], vI 0, vN] := fun w => by kernel_rfl
theorem hAcallable39 : Callable Tryz.prog 39 := cb Tryz.func39 (by kernel_rfl)
theorem hAcallable40 : Callable Tryz.prog 40 := cb Tryz.func40 (by kernel_rfl)
theorem hAal86 : AL Tryz.prog 86 [vI 0, .bool false, vI 0, vI 0, vS [], vN, vN, vN] := fun w => by kernel_rfl
theorem hAcallable42 : Callable Tryz.prog 42 := cb Tryz.func42 (by kernel_rfl)
theorem hAcallable45 : Callable Tryz.prog 45 := cb Tryz.func45 (by kernel_rfl)
theorem hAmk28 : (Tryz.prog.info? 28).map (fun i => (i.zero, i.size, i.bytes)) = some (some (.agg #[vI 0, vS [], vI 0, vN]), 4, 56) := by kernel_rfl
theorem hAel26 : Elem Tryz.prog 26 28 (.agg #[vI 0, vS [], vI 0, vN]) 4 56 := elem_of Tryz.underlying26 hAmk28 (by rfl) (by decide)
theorem hAcallable48 : Callable Tryz.prog 48 := cb Tryz.func48 (by kernel_rfl)
theorem hAcallable52 : Callable Tryz.prog 52 := cb Tryz.func52 (by kernel_rfl)
theorem hAcallable53 : Callable Tryz.prog 53 := cb Tryz.func53 (by kernel_rfl)
theorem chashDoAll (B : Base) (H : List Res) (w : World) (v t m s p wb : Nat) (va : Option Addr) (vc : Nat) (sv : Value) (clk : Int) (es : List (List UInt8 × Value)) (M : List (List UInt8 × Ver)) (hM : VM B es M) (hO : OkM M) (aa : Option Addr) (ac : Nat) (args : List (List UInt8)) (hra : RdV B [] aa (textCells args)) (hoka : SliceOk aa args.length ac) (hma : args.length ≤ 1000) (name : List UInt8) (hal : 1 ≤ args.length) (hc2 : name = ([72, 83, 69, 84, 78, 88] : List UInt8) ∨ name = ([72, 71, 69, 84] : List UInt8) ∨ name = ([72, 69, 88, 73, 83, 84, 83] : List UInt8) ∨ name = ([72, 83, 84, 82, 76, 69, 78] : List UInt8) → 2 ≤ args.length) (hc3 : name = ([72, 73, 78, 67, 82, 66, 89] : List UInt8) → 3 ≤ args.length) (hxl : ∀ x ∈ args, x.length ≤ 9223372036854775807) (hsm : (∀ x ∈ args, x.length ≤ 1000000) ∨ M = []) (hN : NumB B) (hv : Inv B (Res.cell v [.iface 63 (vP t)] 40 :: txR t m s p wb va vc sv clk es :: H) w) :
  Calls Tryz.prog 26 #[.agg #[vP v, .slice aa args.length ac], vS name] w fun e w' => ∃ C es' M' r cs, B.Le C ∧ e = .returned (.agg cs.toArray) ∧ RpAt C r cs ∧ VM C es' M' ∧ CmdR M M' r ∧ DoH M clk name args M' r ∧ Inv C (Res.cell v [.iface 63 (vP t)] 40 :: txR t m s p wb va vc sv clk es' :: H) w' := by
 obtain ⟨key, hkey⟩ : ∃ k, args[0]? = some k := ⟨_, List.getElem?_eq_getElem (show 0 < args.length by omega)⟩
 have hd1 : (args.drop 1).length = args.length - 1 := List.length_drop
 obtain ⟨a3, c3, ha3, ok3, hr3⟩ := sliced_fromV 1 hoka hra (textCells_len args) (show 1 ≤ args.length by omega) (by decide)
 rw [Nat.mul_one, tx_drop] at hr3
 rw [← hd1] at ok3
 have hxd : ∀ x ∈ args.drop 1, x.length ≤ 9223372036854775807 := fun x hx => hxl x (List.mem_of_mem_drop hx)
 refine cW Tryz.func26 rfl Tryz.ntmps26 ?_
 simp only [al]
 refine sK fun _ k1 => rL (sl_box (L := [vP v, .slice aa args.length ac]) tV (wn rfl) rfl rfl hv (fun w => by kernel_rfl) (fun b2 w3 hv => ?_))
 simp only [zP, po]
 refine sl_alloc tV (wn rfl) rfl hv hAal28 (fun b4 w5 hv => ?_)
 refine uW k1 (sK fun _ k6 => ?_)
 refine sK fun _ k7 => rL (uM rfl ?_)
 refine uW k7 (bB ?_)
 refine sK fun _ k8 => rL ?_
 by_cases hb9 : name = ([72, 83, 67, 65, 78] : List UInt8)
 ·refine uG (.bool true) rfl (ex_seql rfl rfl rfl (qT hb9)) (uA rfl ?_)
  refine uW k8 (cT rfl ?_)
  refine sK fun _ k10 => rW mixed [4, 5] [0,1,2,3,4,5] 172 rfl (by kernel_rfl) hv ?_
  simp only [qm, opAt]
  refine dL (.agg #[vP v, .slice aa args.length ac]) rfl (fun hv => ex_load rfl rfl (lM 1 h8wd74 hv rfl rfl rfl rfl)) (dG (.pointer (some ⟨b2, 1, none⟩)) rfl (ex_field rfl rfl (h8fa74_1 _ _ _)) ?_)
  refine dL _ rfl (fun hv => ex_load rfl rfl (run_load1 s1na22 (hv.load 1 1 rfl rfl))) ?_
  simp only [zP, po]
  refine dG (.slice a3 ((args.drop 1).length) c3) rfl (ex_slice (lo' := some (vI ((1 : Nat) : Int))) rfl rfl (congrArg some rfl) rfl rfl ((run_fromAny Tryz.underlying22 s9es22 (by omega)).trans (by rw [ha3, hd1]))) (dS rfl fun w11 hv => ?_)
  replace hv := hv.front 3 rfl
  simp only [eS, eZ] at hv
  replace hv := hv.front 3 rfl
  simp only [eS, eZ] at hv
  refine mC hAcallable39 rfl ((chashScan B _ _ v t m s p wb va vc sv clk es M hM hO aa ac args hra hoka (by omega) key hkey a3 c3 (args.drop 1) ok3 hr3 (by omega) hxd (hsm.imp (fun h9 x hx => h9 x (List.mem_of_mem_drop hx)) id) hN hv).mono ?_) rfl
  rintro e w12 ⟨D, es', M', r, cs, hD, rfl, hrpl, hM', hrel, hv⟩
  have hcmd : CmdR M M' r := hrel
  obtain ⟨rk, rs, rn, rv, rfl⟩ := rp_parts hrpl
  refine ⟨_, rfl, dW hv ?_⟩
  refine dS rfl fun w13 hv => mS 2 rfl hv rssz28 rfl (by exact ⟨rfl, rfl, rfl, hrpl.lv.2, trivial⟩) (fun w14 hv => ?_)
  simp only [zS, zO, sp] at hv
  refine dW hv (dE fun w15 hv => ?_)
  simp only [zP, po]
  refine tK k10 (rR ?_)
  refine bZ (tR ?_)
  refine bC 2 rswd28 hv rfl rfl rfl rfl (⟨D, es', M', r, _, hD, rfl, hrpl, hM', hcmd, ⟨fun h9 => by rw [hb9] at h9; exact absurd h9 (by decide), fun h9 => by rw [hb9] at h9; exact absurd h9 (by decide), fun h9 => by rw [hb9] at h9; exact absurd h9 (by decide), fun h9 => by rw [hb9] at h9; exact absurd h9 (by decide)⟩, (hv.kp [1, 1] 2 2)⟩)
 refine uG (.bool false) rfl (ex_seql rfl rfl rfl (qF hb9)) (uA rfl ?_)
 refine uW k8 (cF rfl ?_)
 refine sK fun _ k16 => rL ?_
 by_cases hb17 : name = ([72, 73, 78, 67, 82, 66, 89] : List UInt8)
 ·refine uG (.bool true) rfl (ex_seql rfl rfl rfl (qT hb17)) (uA rfl ?_)
  refine uW k16 (cT rfl ?_)
  refine sK fun _ k18 => ?_
  have hal3 := hc3 hb17
  obtain ⟨k1, hk1⟩ : ∃ x, args[1]? = some x := ⟨_, List.getElem?_eq_getElem (show 1 < args.length by omega)⟩
  obtain ⟨ab, ao, had, hrdk1⟩ := text_reads hra hk1
  subst had
  obtain ⟨k2, hk2⟩ : ∃ x, args[2]? = some x := ⟨_, List.getElem?_eq_getElem (show 2 < args.length by omega)⟩
  obtain ⟨b9, o9, had9, hrdk2⟩ := text_reads hra hk2
  cases had9
  refine rW mixed [9, 10] [0,1,2,3,4,5,6,7,8,9,10] 172 rfl (by kernel_rfl) hv ?_
  simp only [qm, opAt]
  refine dL (.agg #[vP v, .slice (some ⟨ab, ao, none⟩) args.length ac]) rfl (fun hv => ex_load rfl rfl (lM 1 h8wd74 hv rfl rfl rfl rfl)) (dG (.pointer (some ⟨b2, 1, none⟩)) rfl (ex_field rfl rfl (h8fa74_1 _ _ _)) ?_)
  refine dL _ rfl (fun hv => ex_load rfl rfl (run_load1 s1na22 (hv.load 1 1 rfl rfl))) ?_
  simp only [zP, po]
  refine dG (.pointer (some ⟨ab, ao + 1, none⟩)) rfl (ex_index rfl rfl rfl (run_idx1 (k := 1) Tryz.underlying22 s9es22 (by omega))) (dL _ rfl (fun hv => ex_load rfl rfl (run_load1 s9na9 (hrdk1 _ _ _ (Base.Le.refl _) no_res hv 0 _ rfl))) ?_)
  refine dG (.pointer (some ⟨b2, 1, none⟩)) rfl (ex_field rfl rfl (h8fa74_1 _ _ _)) ?_
  simp only [zP, po]
  refine dL _ rfl (fun hv => ex_load rfl rfl (run_load1 s1na22 (hv.load 1 1 rfl rfl))) (dG (.pointer (some ⟨ab, ao + 2, none⟩)) rfl (ex_index rfl rfl rfl (run_idx1 (k := 2) Tryz.underlying22 s9es22 (by omega))) ?_)
  refine dL _ rfl (fun hv => ex_load rfl rfl (run_load1 s9na9 (hrdk2 _ _ _ (Base.Le.refl _) no_res hv 0 _ rfl))) ?_
  simp only [zP, po]
  refine dS rfl fun w19 hv => ?_
  replace hv := hv.front 3 rfl
  simp only [eS, eZ] at hv
  replace hv := hv.front 3 rfl
  simp only [eS, eZ] at hv
  refine mC hAcallable40 rfl ((chashCount B _ _ v t m s p wb va vc sv clk es M hM hO (some ⟨ab, ao, none⟩) ac args hra hoka (by omega) key hkey k1 k2 hN hv).mono ?_) rfl
  rintro e w20 ⟨D, es', M', r, cs, hD, rfl, hrpl, hM', hrel, hv⟩
  have hcmd : CmdR M M' r := hrel.cmd hO
  obtain ⟨rk, rs, rn, rv, rfl⟩ := rp_parts hrpl
  refine ⟨_, rfl, dW hv ?_⟩
  refine dS rfl fun w21 hv => mS 2 rfl hv rssz28 rfl (by exact ⟨rfl, rfl, rfl, hrpl.lv.2, trivial⟩) (fun w22 hv => ?_)
  simp only [zS, zO, sp] at hv
  refine dW hv (dE fun w23 hv => ?_)
  simp only [zP, po]
  refine tK k18 (rR ?_)
  refine bZ (tR ?_)
  refine bC 2 rswd28 hv rfl rfl rfl rfl (⟨D, es', M', r, _, hD, rfl, hrpl, hM', hcmd, ⟨fun h9 => by rw [hb17] at h9; exact absurd h9 (by decide), fun h9 => by rw [hb17] at h9; exact absurd h9 (by decide), fun h9 => by rw [hb17] at h9; exact absurd h9 (by decide), fun _ => ⟨key, k1, k2, hkey, hk1, hk2, hrel⟩⟩, (hv.kp [1, 1] 2 2)⟩)
 refine uG (.bool false) rfl (ex_seql rfl rfl rfl (qF hb17)) (uA rfl ?_)
 refine uW k16 (cF rfl ?_)
 refine kS (bN ?_)
 refine tK k6 (sK fun _ k24 => ?_)
 have hal := (List.getElem?_eq_some_iff.1 hkey).1
 obtain ⟨ab, ao, had, hrdkey⟩ := text_reads hra hkey
 subst had
 refine rT mixed (fun az wz => ∃ (C : Base) (y : Ver) (yp yt yz : Value) (ec : Int) (b31 : Nat), (B.Le C) ∧ (ValAt C y.val yp yt yz) ∧ (OfI M clk key 2 y ec) ∧ az = { tmps := List.toArray (.agg #[vP v, .slice (some ⟨ab, ao, none⟩) args.length ac] :: vS name :: vP b2 :: undef :: vP b4 :: vP b31 :: vI ec :: undef :: undef :: undef :: undef :: undef :: undef :: undef :: undef :: undef :: undef :: undef :: undef :: undef :: vS name :: .bool false :: .bool false :: undef :: undef :: undef :: undef :: undef :: .bool false :: .bool false :: undef :: undef :: undef :: undef :: undef :: undef :: undef :: undef :: undef :: undef :: .tuple #[.agg #[vI y.stamp, .bool y.gone, vI y.expire, vI y.val.kind, vS y.val.text, yp, yt, yz], vI ec] :: vP b2 :: vP v :: .pointer (some ⟨b2, 1, none⟩) :: .slice (some ⟨ab, ao, none⟩) args.length ac :: .pointer (some ⟨ab, ao + 0, none⟩) :: vS key :: .tuple #[.agg #[vI y.stamp, .bool y.gone, vI y.expire, vI y.val.kind, vS y.val.text, yp, yt, yz], vI ec] :: .agg #[vI y.stamp, .bool y.gone, vI y.expire, vI y.val.kind, vS y.val.text, yp, yt, yz] :: vI ec :: undef :: undef :: undef :: undef :: undef :: undef :: undef :: undef :: undef :: undef :: undef :: undef :: undef :: undef :: undef :: undef :: undef :: undef :: undef :: undef :: undef :: undef :: undef :: undef :: undef :: undef :: undef :: undef :: undef :: undef :: undef :: undef :: undef :: undef :: undef :: undef :: undef :: undef :: undef :: undef :: undef :: undef :: undef :: undef :: undef :: undef :: undef :: undef :: undef :: undef :: undef :: undef :: undef :: undef :: undef :: undef :: undef :: undef :: undef :: undef :: undef :: undef :: undef :: undef :: undef :: undef :: undef :: undef :: undef :: undef :: undef :: undef :: undef :: undef :: undef :: undef :: undef :: undef :: undef :: undef :: undef :: undef :: undef :: undef :: undef :: undef :: undef :: undef :: undef :: undef :: undef :: undef :: undef :: undef :: undef :: undef :: undef :: undef :: undef :: undef :: undef :: undef :: undef :: undef :: undef :: undef :: undef :: undef :: undef :: undef :: undef :: undef :: undef :: undef :: undef :: undef :: undef :: undef :: undef :: undef :: undef :: undef :: []), defers := [] } ∧ Inv C (Res.cell b31 [vI y.stamp, .bool y.gone, vI y.expire, vI y.val.kind, vS y.val.text, yp, yt, yz] 86 :: Res.cell v [.iface 63 (vP t)] 40 :: txR t m s p wb va vc sv clk es :: Res.cell b4 [vI 0, vS [], vI 0, vN] 28 :: Res.cell b2 [vP v, .slice (some ⟨ab, ao, none⟩) args.length ac] 74 :: H) wz) [6, 10, 11] [0,1,2,3,4,5] [7,8,9,10,11,12] [6,7,8,9,11,12] 6 10 172 rfl (by kernel_rfl) hv ?_ ?_
 ·intro R2 l1 l2 hR2 hl1 hl2
  simp only [qm, opAt]
  refine tG (vP b2) rfl (ex_field rfl rfl (h8fa74_0 _ _ _)) (tF (vP v) rfl (fun hv => ex_load rfl rfl (run_load1 h8na24 (hv.load 1 0 rfl rfl))) fun f25 hf25 => ?_)
  simp only [zP, po]
  refine tG (.pointer (some ⟨b2, 1, none⟩)) rfl (ex_field rfl rfl (h8fa74_1 _ _ _)) (tF (.slice (some ⟨ab, ao, none⟩) args.length ac) rfl (fun hv => ex_load rfl rfl (run_load1 s1na22 (hv.load 1 1 rfl rfl))) fun f26 hf26 => ?_)
  simp only [zP, po]
  refine tG (.pointer (some ⟨ab, ao + 0, none⟩)) rfl (ex_index rfl rfl rfl (run_idx1 (k := 0) Tryz.underlying22 s9es22 (by omega))) (tF (vS key) rfl (fun hv => ex_load rfl rfl (run_load1 s9na9 (hrdkey _ _ _ (Base.Le.refl _) no_res hv 0 _ rfl))) fun f27 hf27 => ?_)
  simp only [zP, po]
  refine tB ?_ ?_
  ·rw [hl1]; clear hl1 hl2
   simp only [qm, opAt]
   refine dS rfl fun w28 hv => ?_
   replace hv := hv.front 3 rfl
   simp only [eS, eZ] at hv
   replace hv := hv.front 3 rfl
   simp only [eS, eZ] at hv
   refine mC h9callable41 rfl ((viewOf B _ _ v t m s p wb va vc sv clk es M key 2 (hM.more (Base.Le.refl _)) hv).mono ?_) rfl
   rintro e w29 ⟨C, y, yp, yt, yz, ec, hC, rfl, hyv, hof, hv⟩
   refine ⟨_, rfl, dV hv (fK rfl (fK rfl (fK rfl fN))) ?_⟩
   refine dM (.tuple #[.agg #[vI y.stamp, .bool y.gone, vI y.expire, vI y.val.kind, vS y.val.text, yp, yt, yz], vI ec]) rfl (dG (.agg #[vI y.stamp, .bool y.gone, vI y.expire, vI y.val.kind, vS y.val.text, yp, yt, yz]) rfl (ex_extract rfl rfl rfl) ?_)
   simp only [zP, po]
   refine dG (vI ec) rfl (ex_extract rfl rfl rfl) (dS rfl fun w30 hv => ?_)
   refine mem_alloc rfl rfl hv hAal86 (fun b31 w32 hv => ?_)
   refine dV hv (fC (fun ww hv => hf27 ww (ex_load rfl rfl (run_load1 s9na9 (hrdkey _ _ _ hC no_res hv 0 _ rfl)))) (fC (fun ww hv => hf26 ww (ex_load rfl rfl (run_load1 s1na22 (hv.load 4 1 rfl rfl)))) (fC (fun ww hv => hf25 ww (ex_load rfl rfl (run_load1 h8na24 (hv.load 4 0 rfl rfl)))) fN))) (dS rfl fun w33 hv => ?_)
   refine mS 0 rfl hv x0sz86 rfl (by exact ⟨rfl, rfl, rfl, rfl, rfl, hyv.p.one, hyv.t.one, hyv.z.one, trivial⟩) (fun w34 hv => ?_)
   simp only [zO, sp] at hv
   refine dV hv (fK rfl (fK rfl (fK rfl fN))) ?_
   simp only [zP, po]
   refine dA (vI ec) rfl (dE fun wz hv => ?_)
   simp only [zP, po]
   exact hR2 _ _ ⟨C, y, yp, yt, yz, ec, b31, hC, hyv, hof, rfl, (((((hv.front 4 rfl).front 4 rfl).front 4 rfl).front 4 rfl).front 4 rfl)⟩
  rw [hl2]; clear hl1 hl2
  simp only [qm, opAt]
  refine dS rfl fun w35 hv => mem_alloc rfl rfl hv hAal86 (fun b36 w37 hv => ?_)
  refine dV hv (fC (fun ww hv => hf27 ww (ex_load rfl rfl (run_load1 s9na9 (hrdkey _ _ _ (Base.Le.refl _) no_res hv 0 _ rfl)))) (fC (fun ww hv => hf26 ww (ex_load rfl rfl (run_load1 s1na22 (hv.load 2 1 rfl rfl)))) (fC (fun ww hv => hf25 ww (ex_load rfl rfl (run_load1 h8na24 (hv.load 2 0 rfl rfl)))) fN))) (dS rfl fun w38 hv => ?_)
  replace hv := hv.front 4 rfl
  simp only [eS, eZ] at hv
  replace hv := hv.front 4 rfl
  simp only [eS, eZ] at hv
  refine mC h9callable41 rfl ((viewOf B _ _ v t m s p wb va vc sv clk es M key 2 (hM.more (Base.Le.refl _)) hv).mono ?_) rfl
  rintro e w39 ⟨C, y, yp, yt, yz, ec, hC, rfl, hyv, hof, hv⟩
  refine ⟨_, rfl, dV hv (fK rfl (fK rfl (fK rfl fN))) ?_⟩
  refine dM (.tuple #[.agg #[vI y.stamp, .bool y.gone, vI y.expire, vI y.val.kind, vS y.val.text, yp, yt, yz], vI ec]) rfl ?_
  simp only [zP, po]
  refine dG (.agg #[vI y.stamp, .bool y.gone, vI y.expire, vI y.val.kind, vS y.val.text, yp, yt, yz]) rfl (ex_extract rfl rfl rfl) (dG (vI ec) rfl (ex_extract rfl rfl rfl) ?_)
  refine dS rfl fun w40 hv => mS 2 rfl hv x0sz86 rfl (by exact ⟨rfl, rfl, rfl, rfl, rfl, hyv.p.one, hyv.t.one, hyv.z.one, trivial⟩) (fun w41 hv => ?_)
  simp only [zS, zO, sp] at hv
  refine dV hv (fK rfl (fK rfl (fK rfl fN))) ?_
  simp only [zP, po]
  refine dA (vI ec) rfl (dE fun wz hv => ?_)
  simp only [zP, po]
  exact hR2 _ _ ⟨C, y, yp, yt, yz, ec, b36, hC, hyv, hof, rfl, (((((hv.front 4 rfl).front 4 rfl).front 3 rfl).front 3 rfl).front 4 rfl)⟩
 rintro _ w42 ⟨C, y, yp, yt, yz, ec, b31, hC, hyv, hof, rfl, hv⟩
 obtain ⟨pa, pc, sa, sc, za, zc, rfl, rfl, rfl, hokp, hrp, hoks, hrs, hokz, hrz⟩ := valAt_open hyv
 refine tK k24 (sK fun _ k43 => ?_)
 refine sK fun _ k44 => rL (uM rfl ?_)
 by_cases hb45 : ec ≠ 0
 ·refine uG (.bool true) rfl (ex_neq rfl rfl rfl (qT hb45)) (uW k44 ?_)
  refine cT rfl (sK fun _ k46 => ?_)
  refine rL (uM rfl ?_)
  refine xC rscallable24 rfl ((viewWrong C _ _ ec hv).mono ?_) rfl
  rintro e w48 ⟨s47, rfl, hv⟩
  refine ⟨_, rfl, ?_⟩
  simp only [zP, po]
  refine xS 3 rfl hv rssz28 rfl (by exact ⟨rfl, rfl, rfl, rfl, trivial⟩) (fun w49 hv => ?_)
  simp only [zS, zO, sp] at hv
  refine uW k46 (rR ?_)
  refine tR (bC 3 rswd28 hv rfl rfl rfl rfl ?_)
  exact ⟨C, es, M, (.mk 1 s47 0 []), _, hC, rfl, rpAt_leaf, hM.more hC, ⟨hO, fun _ => rfl⟩, ⟨fun _ => ⟨key, hkey, y, ec, hof, .inl ⟨hb45, rfl, rfl⟩⟩, fun _ => ⟨key, hkey, rfl, y, ec, hof, .inl ⟨hb45, rfl⟩⟩, fun _ => ⟨key, hkey, y, ec, hof, .inl ⟨hb45, rfl, rfl⟩⟩, fun h9 => absurd h9 hb17⟩, (hv.kp [2, 2] 2 3)⟩
 refine uG (.bool false) rfl (ex_neq rfl rfl rfl (qF hb45)) (uW k44 ?_)
 refine cF rfl (kS ?_)
 refine tK k43 (sK fun _ k50 => ?_)
 refine rW mixed [] [0,1,2,3,4,5,6,7] 172 rfl (by kernel_rfl) hv ?_
 simp only [qm, opAt]
 refine dG (.pointer (some ⟨b31, 3, none⟩)) rfl (ex_field rfl rfl (x2fa86_3 _ _ _)) (dG (.pointer (some ⟨b31, 5, none⟩)) rfl (ex_field rfl rfl (s1fa79_2 _ _ _)) ?_)
 refine dL _ rfl (fun hv => ex_load rfl rfl (run_load1 s1na76 (hv.load 0 5 rfl rfl))) ?_
 simp only [zP, po]
 refine dG (.pointer (some ⟨b2, 1, none⟩)) rfl (ex_field rfl rfl (h8fa74_1 _ _ _)) (dL _ rfl (fun hv => ex_load rfl rfl (run_load1 s1na22 (hv.load 4 1 rfl rfl))) ?_)
 refine dG (.slice a3 ((args.drop 1).length) c3) rfl (ex_slice (lo' := some (vI ((1 : Nat) : Int))) rfl rfl (congrArg some rfl) rfl rfl ((run_fromAny Tryz.underlying22 s9es22 (by omega)).trans (by rw [ha3, hd1]))) ?_
 simp only [zP, po]
 refine dA (.slice pa y.val.pairs.length pc) rfl (dA (.slice a3 ((args.drop 1).length) c3) rfl ?_)
 refine dE fun w51 hv => ?_
 simp only [zP, po]
 refine tK k50 (sK fun _ k52 => ?_)
 refine sK fun _ k53 => rL (uM rfl ?_)
 refine uW k53 (bB ?_)
 refine sK fun _ k54 => rL ?_
 by_cases hb55 : name = ([72, 83, 69, 84] : List UInt8)
 ·refine uG (.bool true) rfl (ex_seql rfl rfl rfl (qT hb55)) (uA rfl ?_)
  refine uW k54 (cT rfl ?_)
  refine sK fun _ k56 => rL (uL (.agg #[vP v, .slice (some ⟨ab, ao, none⟩) args.length ac]) rfl (lM 4 h8wd74 hv rfl rfl rfl rfl) ?_)
  refine uL (.agg #[vI y.stamp, .bool y.gone, vI y.expire, vI y.val.kind, vS y.val.text, .slice pa y.val.pairs.length pc, .slice sa y.val.texts.length sc, .slice za y.val.zset.length zc]) rfl (lM 0 x0wd86 hv rfl rfl rfl rfl) (uM rfl ?_)
  replace hv := hv.front 2 rfl
  simp only [eS, eZ] at hv
  replace hv := hv.front 2 rfl
  simp only [eS, eZ] at hv
  refine xC hAcallable42 rfl ((chashSet C _ _ v t m s p wb va vc sv clk es M (hM.more hC) (some ⟨ab, ao, none⟩) ac args (hra.more hC (fun _ h => h)) hoka (by omega) key hkey y pa pc _ _ hyv hokp hrp (hO.hsorted hof) a3 c3 (args.drop 1) (hr3.more hC (fun _ h => h)) (by omega) hv).mono ?_) rfl
  rintro e w57 ⟨D, es', M', r, cs, hD, rfl, hrpl, hM', hrel, hv⟩
  refine ⟨_, rfl, ?_⟩
  have hcmd : CmdR M M' r := hrel.cmd hO
  obtain ⟨rk, rs, rn, rv, rfl⟩ := rp_parts hrpl
  simp only [zP, po]
  refine xS 3 rfl hv rssz28 rfl (by exact ⟨rfl, rfl, rfl, hrpl.lv.2, trivial⟩) (fun w58 hv => ?_)
  simp only [zS, zO, sp] at hv
  refine uW k56 (rR ?_)
  refine bZ (tR ?_)
  refine bC 3 rswd28 hv rfl rfl rfl rfl (⟨D, es', M', r, _, (hC.trans hD), rfl, hrpl, hM', hcmd, ⟨fun _ => ⟨key, hkey, y, ec, hof, .inr ⟨by omega, hrel⟩⟩, fun h9 => by rw [hb55] at h9; exact absurd h9 (by decide), fun h9 => by rw [hb55] at h9; exact absurd h9 (by decide), fun h9 => by rw [hb55] at h9; exact absurd h9 (by decide)⟩, (hv.kp [1, 1] 2 3)⟩)
 refine uG (.bool false) rfl (ex_seql rfl rfl rfl (qF hb55)) (uA rfl ?_)
 refine uW k54 (cF rfl ?_)
 refine sK fun _ k59 => rL ?_
 by_cases hb60 : name = ([72, 83, 69, 84, 78, 88] : List UInt8)
 ·refine uG (.bool true) rfl (ex_seql rfl rfl rfl (qT hb60)) (uA rfl ?_)
  refine uW k59 (cT rfl ?_)
  refine sK fun _ k61 => sK fun _ k62 => ?_
  have hal2 := hc2 (.inl hb60)
  obtain ⟨x, hx⟩ : ∃ x, (args.drop 1)[0]? = some x := ⟨_, List.getElem?_eq_getElem (show 0 < (args.drop 1).length by omega)⟩
  obtain ⟨xb, xo, had, hrdx⟩ := text_reads hr3 hx
  subst had
  refine rL (uM rfl ?_)
  refine uM rfl ?_
  refine uG (.pointer (some ⟨xb, xo + 0, none⟩)) rfl (ex_index rfl rfl rfl (run_idx1 (k := 0) Tryz.underlying22 s9es22 (by omega))) ?_
  refine uL _ rfl (run_load1 s9na9 (hrdx _ _ _ hC no_res hv 0 _ rfl)) ?_
  refine xC h7callable43 rfl ((hashGet C _ _ pa pc y.val.pairs x [] (fun r9 h9 => absurd h9 List.not_mem_nil) (hrp.rdW []) (hO.hsorted hof) hyv.pm hv).mono ?_) rfl
  rintro e w63 ⟨rfl, hv⟩
  refine ⟨_, rfl, uM rfl ?_⟩
  refine uE rfl (uE rfl ?_)
  refine uA rfl (uA rfl ?_)
  refine uW k62 (sK fun _ k64 => ?_)
  refine rL (uM rfl ?_)
  refine uW k64 (wpIn_cond_split (t := ((getH y.val.pairs x).isSome)) rfl (fun hc65 => ?_) (fun hc65 => ?_))
  ·refine sK fun _ k66 => rL (xC h8callable44 rfl ((respInt C _ _ 0 hv).mono ?_) rfl)
   rintro e w67 ⟨rfl, hv⟩
   refine ⟨_, rfl, ?_⟩
   simp only [zP, po]
   refine xS 3 rfl hv rssz28 rfl (by exact ⟨rfl, rfl, rfl, rfl, trivial⟩) (fun w68 hv => ?_)
   simp only [zS, zO, sp] at hv
   refine uW k66 (rR ?_)
   refine tR (bZ ?_)
   refine tR (bC 3 rswd28 hv rfl rfl rfl rfl ?_)
   exact ⟨C, es, M, (.mk 2 ([] : List UInt8) 0 []), _, hC, rfl, rpAt_leaf, hM.more hC, ⟨hO, fun _ => rfl⟩, ⟨fun h9 => by rw [hb60] at h9; exact absurd h9 (by decide), fun h9 => by rw [hb60] at h9; exact absurd h9 (by decide), fun h9 => by rw [hb60] at h9; exact absurd h9 (by decide), fun h9 => by rw [hb60] at h9; exact absurd h9 (by decide)⟩, (hv.kp [2, 2] 2 3)⟩
  refine kS (tK k61 ?_)
  refine sK fun _ k69 => rL (uL (.agg #[vP v, .slice (some ⟨ab, ao, none⟩) args.length ac]) rfl (lM 4 h8wd74 hv rfl rfl rfl rfl) ?_)
  refine uL (.agg #[vI y.stamp, .bool y.gone, vI y.expire, vI y.val.kind, vS y.val.text, .slice pa y.val.pairs.length pc, .slice sa y.val.texts.length sc, .slice za y.val.zset.length zc]) rfl (lM 0 x0wd86 hv rfl rfl rfl rfl) (uM rfl ?_)
  replace hv := hv.front 2 rfl
  simp only [eS, eZ] at hv
  replace hv := hv.front 2 rfl
  simp only [eS, eZ] at hv
  refine xC hAcallable42 rfl ((chashSet C _ _ v t m s p wb va vc sv clk es M (hM.more hC) (some ⟨ab, ao, none⟩) ac args (hra.more hC (fun _ h => h)) hoka (by omega) key hkey y pa pc _ _ hyv hokp hrp (hO.hsorted hof) (some ⟨xb, xo, none⟩) c3 (args.drop 1) (hr3.more hC (fun _ h => h)) (by omega) hv).mono ?_) rfl
  rintro e w70 ⟨D, es', M', r, cs, hD, rfl, hrpl, hM', hrel, hv⟩
  refine ⟨_, rfl, ?_⟩
  have hcmd : CmdR M M' r := hrel.cmd hO
  obtain ⟨rk, rs, rn, rv, rfl⟩ := rp_parts hrpl
  simp only [zP, po]
  refine xS 3 rfl hv rssz28 rfl (by exact ⟨rfl, rfl, rfl, hrpl.lv.2, trivial⟩) (fun w71 hv => ?_)
  simp only [zS, zO, sp] at hv
  refine uW k69 (rR ?_)
  refine bZ (tR ?_)
  refine bC 3 rswd28 hv rfl rfl rfl rfl (⟨D, es', M', r, _, (hC.trans hD), rfl, hrpl, hM', hcmd, ⟨fun h9 => by rw [hb60] at h9; exact absurd h9 (by decide), fun h9 => by rw [hb60] at h9; exact absurd h9 (by decide), fun h9 => by rw [hb60] at h9; exact absurd h9 (by decide), fun h9 => by rw [hb60] at h9; exact absurd h9 (by decide)⟩, (hv.kp [1, 1] 2 3)⟩)
 refine uG (.bool false) rfl (ex_seql rfl rfl rfl (qF hb60)) (uA rfl ?_)
 refine uW k59 (cF rfl ?_)
 refine sK fun _ k72 => rL ?_
 by_cases hb73 : name = ([72, 68, 69, 76] : List UInt8)
 ·refine uG (.bool true) rfl (ex_seql rfl rfl rfl (qT hb73)) (uA rfl ?_)
  refine uW k72 (cT rfl ?_)
  refine sK fun _ k74 => rL (uM rfl ?_)
  refine uM rfl ?_
  refine xC hAcallable45 rfl ((hashDel C _ _ pa pc y.val.pairs hrp hyv.pm (hO.hsorted hof) a3 c3 (args.drop 1) (hr3.more hC (fun _ h => h)) (by omega) hv).mono ?_) rfl
  rintro e w75 ⟨D, oa, oc, out, hD, rfl, hoko, hro, hout, hv⟩
  refine ⟨_, rfl, uM rfl ?_⟩
  refine uE rfl (uE rfl ?_)
  refine uA rfl (uA rfl ?_)
  refine uW k74 (sK fun _ k76 => ?_)
  refine sK fun _ k77 => rL (uM rfl ?_)
  by_cases hb78 : ((y.val.pairs.length : Int) - (out.length : Int)) = 0
  ·refine uG (.bool true) rfl (ex_eql rfl rfl rfl (qT hb78)) (uW k77 ?_)
   refine cT rfl (sK fun _ k79 => ?_)
   refine rL (xC h8callable44 rfl ((respInt D _ _ 0 hv).mono ?_) rfl)
   rintro e w80 ⟨rfl, hv⟩
   refine ⟨_, rfl, ?_⟩
   simp only [zP, po]
   refine xS 3 rfl hv rssz28 rfl (by exact ⟨rfl, rfl, rfl, rfl, trivial⟩) (fun w81 hv => ?_)
   simp only [zS, zO, sp] at hv
   refine uW k79 (rR ?_)
   refine tR (bZ ?_)
   refine tR (bC 3 rswd28 hv rfl rfl rfl rfl ?_)
   exact ⟨D, es, M, (.mk 2 ([] : List UInt8) 0 []), _, (hC.trans hD), rfl, rpAt_leaf, hM.more (hC.trans hD), ⟨hO, fun _ => rfl⟩, ⟨fun h9 => by rw [hb73] at h9; exact absurd h9 (by decide), fun h9 => by rw [hb73] at h9; exact absurd h9 (by decide), fun _ => ⟨key, hkey, y, ec, hof, .inr ⟨by omega, _, rfl, .inl ⟨by rw [← hout]; exact hb78, rfl, rfl⟩⟩⟩, fun h9 => by rw [hb73] at h9; exact absurd h9 (by decide)⟩, (hv.kp [2, 2] 2 3)⟩
  refine uG (.bool false) rfl (ex_eql rfl rfl rfl (qF hb78)) (uW k77 ?_)
  refine cF rfl (kS ?_)
  refine tK k76 (sK fun _ k82 => ?_)
  refine rL (uL (.agg #[vP v, .slice (some ⟨ab, ao, none⟩) args.length ac]) rfl (lM 4 h8wd74 hv rfl rfl rfl rfl) ?_)
  refine uL (.agg #[vI y.stamp, .bool y.gone, vI y.expire, vI y.val.kind, vS y.val.text, .slice pa y.val.pairs.length pc, .slice sa y.val.texts.length sc, .slice za y.val.zset.length zc]) rfl (lM 0 x0wd86 hv rfl rfl rfl rfl) (uM rfl ?_)
  replace hv := hv.front 2 rfl
  simp only [eS, eZ] at hv
  replace hv := hv.front 2 rfl
  simp only [eS, eZ] at hv
  refine xC h8callable47 rfl ((chashKeep D _ _ v t m s p wb va vc sv clk es M (hM.more (hC.trans hD)) (some ⟨ab, ao, none⟩) ac args (hra.more (hC.trans hD) (fun _ h => h)) hoka (by omega) key hkey y pa pc _ _ (hyv.more hD) oa oc out (hro.more (Base.Le.refl _) (fun _ h => h)) hoko (by rw [hout]; exact Nat.le_trans delH_len hyv.pm) hv).mono ?_) rfl
  rintro e w83 ⟨G, es', M', e3, hG, rfl, hM', hkp, hv⟩
  refine ⟨_, rfl, uM rfl ?_⟩
  refine xC h8callable44 rfl ((respInt G _ _ ((y.val.pairs.length : Int) - (out.length : Int)) hv).mono ?_) rfl
  rintro e w84 ⟨rfl, hv⟩
  refine ⟨_, rfl, ?_⟩
  simp only [zP, po]
  refine xC h8callable46 rfl ((viewDone G _ _ e3 2 ((y.val.pairs.length : Int) - (out.length : Int)) ([] : List UInt8) (vN) rfl rfl hv).mono ?_) rfl
  rintro e w85 ⟨xr, hxr, rfl, hv⟩
  refine ⟨_, rfl, ?_⟩
  rcases hxr with ⟨hec0, rfl⟩ | ⟨hec0, s86, rfl⟩
  ·simp only [zP, po]
   refine xS 3 rfl hv rssz28 rfl (by exact ⟨rfl, rfl, rfl, rfl, trivial⟩) (fun w87 hv => ?_)
   simp only [zS, zO, sp] at hv
   refine uW k82 (rR ?_)
   refine bZ (tR ?_)
   refine bC 3 rswd28 hv rfl rfl rfl rfl (⟨G, es', M', (.mk 2 ([] : List UInt8) ((y.val.pairs.length : Int) - (out.length : Int)) []), _, ((hC.trans hD).trans hG), rfl, rpAt_leaf, hM'.more (Base.Le.refl _), DoneR.keep (r0 := rInt ((y.val.pairs.length : Int) - (out.length : Int))) hO hkp (.inl ⟨by omega, rfl⟩) isF_int, ⟨fun h9 => by rw [hb73] at h9; exact absurd h9 (by decide), fun h9 => by rw [hb73] at h9; exact absurd h9 (by decide), fun _ => ⟨key, hkey, y, ec, hof, .inr ⟨by omega, ((y.val.pairs.length : Int) - (out.length : Int)), by rw [hout], .inr ⟨hb78, e3, by rw [← hout]; exact hkp, .inl ⟨by omega, rfl⟩⟩⟩⟩, fun h9 => by rw [hb73] at h9; exact absurd h9 (by decide)⟩, (hv.kp [1, 1] 2 3)⟩)
  simp only [zP, po]
  refine xS 3 rfl hv rssz28 rfl (by exact ⟨rfl, rfl, rfl, rfl, trivial⟩) (fun w88 hv => ?_)
  simp only [zS, zO, sp] at hv
  refine uW k82 (rR ?_)
  refine bZ (tR ?_)
  refine bC 3 rswd28 hv rfl rfl rfl rfl (⟨G, es', M', (.mk 1 s86 0 []), _, ((hC.trans hD).trans hG), rfl, rpAt_leaf, hM'.more (Base.Le.refl _), DoneR.keep (r0 := rInt ((y.val.pairs.length : Int) - (out.length : Int))) hO hkp (.inr ⟨by omega, rfl⟩) isF_int, ⟨fun h9 => by rw [hb73] at h9; exact absurd h9 (by decide), fun h9 => by rw [hb73] at h9; exact absurd h9 (by decide), fun _ => ⟨key, hkey, y, ec, hof, .inr ⟨by omega, ((y.val.pairs.length : Int) - (out.length : Int)), by rw [hout], .inr ⟨hb78, e3, by rw [← hout]; exact hkp, .inr ⟨by omega, rfl⟩⟩⟩⟩, fun h9 => by rw [hb73] at h9; exact absurd h9 (by decide)⟩, (hv.kp [1, 1] 2 3)⟩)
 refine uG (.bool false) rfl (ex_seql rfl rfl rfl (qF hb73)) (uA rfl ?_)
 refine uW k72 (cF rfl ?_)
 refine sK fun _ k89 => rL ?_
 by_cases hb90 : name = ([72, 77, 71, 69, 84] : List UInt8)
 ·refine uG (.bool true) rfl (ex_seql rfl rfl rfl (qT hb90)) (uA rfl ?_)
  refine uW k89 (cT rfl ?_)
  refine sK fun _ k91 => rL (uM rfl ?_)
  refine uG (vI (((args.drop 1).length) : Int)) rfl (ex_len0 Tryz.underlying22 rfl rfl) ?_
  refine sl_makeRow (cap := ((args.drop 1).length)) tV (wn rfl) rfl rfl rfl hAel26 (by unfold maxLen; omega) (by omega) hv (fun b92 w93 hv => ?_)
  refine uA rfl (uW k91 ?_)
  refine sK fun _ k94 => sK fun _ k95 => rL (uM rfl ?_)
  refine uG (vI (((args.drop 1).length) : Int)) rfl (ex_len0 Tryz.underlying22 rfl rfl) (uM rfl ?_)
  refine uW k95 (bB ?_)
  gi_loopw [108, 13] (fun x108 x13 wr => ∃ (i : Nat) (ls : List Leaf) (ra : Option Addr) (rc : Nat), x108 = vI i ∧ x13 = .slice ra ls.length rc ∧ i ≤ (args.drop 1).length ∧ ls.length = i ∧ Inv C (Res.row 28 4 (.slice ra ls.length rc) ls.length (ls.flatMap leafN) :: Res.cell b31 [vI y.stamp, .bool y.gone, vI y.expire, vI y.val.kind, vS y.val.text, .slice pa y.val.pairs.length pc, .slice sa y.val.texts.length sc, .slice za y.val.zset.length zc] 86 :: Res.cell v [.iface 63 (vP t)] 40 :: txR t m s p wb va vc sv clk es :: Res.cell b4 [vI 0, vS [], vI 0, vN] 28 :: Res.cell b2 [vP v, .slice (some ⟨ab, ao, none⟩) args.length ac] 74 :: H) wr) (fun x108 x13 _ => (args.drop 1).length - (intOf x108).toNat)
  case atStart => exact ⟨0, [], _, _, rfl, rfl, Nat.zero_le _, rfl, ((((((hv.front 5 rfl).front 5 rfl).front 5 rfl).front 5 rfl).front 5 rfl).front 5 rfl)⟩
  case round =>
   obtain ⟨i, ls, ra, rc, rfl, rfl, hi, hll, hv⟩ := hrel
   refine sK fun _ k97 => rL ?_
   by_cases hb98 : (i : Int) < (((args.drop 1).length) : Int)
   ·refine uG (.bool true) rfl (ex_lss rfl rfl rfl (qT hb98)) (uW k97 ?_)
    refine sK fun _ k99 => cT rfl (kS ?_)
    refine tK k99 (sK fun _ k100 => ?_)
    refine bB (sK fun _ k101 => ?_)
    obtain ⟨x, hx⟩ : ∃ x, (args.drop 1)[i]? = some x := ⟨_, List.getElem?_eq_getElem (show i < (args.drop 1).length by omega)⟩
    obtain ⟨xb, xo, had, hrdx⟩ := text_reads hr3 hx
    subst had
    refine rL (uG (.pointer (some ⟨xb, xo + i, none⟩)) rfl (ex_index rfl rfl rfl (run_idx1 (k := i) Tryz.underlying22 s9es22 (by omega))) ?_)
    refine uL _ rfl (run_load1 s9na9 (hrdx _ _ _ hC no_res hv 0 _ rfl)) (uA rfl ?_)
    refine uW k101 (rL ?_)
    refine uM rfl (uM rfl ?_)
    refine uM rfl ?_
    refine xC hAcallable48 rfl ((chashText C _ _ pa pc y.val.pairs hrp hyv.pm (hO.hsorted hof) x hv).mono ?_) rfl
    rintro e w102 ⟨lf, rfl, hv⟩
    refine ⟨_, rfl, ?_⟩
    simp only [zP, po]
    refine sl_rowAgg (L := [vI lf.k, vS lf.s, vI lf.n, vN]) tV (wn rfl) rfl rfl hv hAel26 rfl (by decide) (fun b103 w104 hv => ?_)
    simp only [zP, po]
    replace hv := hv.front 1 rfl
    simp only [eS, eZ] at hv
    refine sl_append (news := [vI lf.k, vS lf.s, vI lf.n, vN]) tV (wn rfl) rfl rfl rfl hAel26 hv (ok_full (by omega)) rfl (rd_all (hv.get 1 rfl)) (by intro u hu; simp only [List.mem_cons, List.not_mem_nil, or_false] at hu; rcases hu with rfl | rfl | rfl | rfl <;> rfl) (by unfold maxLen; omega) (by omega) (fun rv105 w108 hv => ?_)
    obtain ⟨ra106, rc107, rfl⟩ := row_slice hv.head
    refine uA rfl (uZ ?_)
    refine bN (tK k100 ?_)
    refine rL (uG (vI ((i + 1 : Nat) : Int)) rfl (ex_add rfl rfl rfl (by rw [i64_in (by omega)]; omega)) ?_)
    refine uM rfl (uZ ?_)
    refine then_normal ?_
    simp only [vP, vI, vS, vN]
    go_roundw
    case rel => exact ⟨i + 1, ls ++ [lf], _, _, rfl, by rw [List.length_append, List.length_singleton], by omega, by rw [List.length_append, List.length_singleton, hll], by rw [List.length_append, List.length_singleton, List.flatMap_append]; exact (hv.kp [6, 6, 6, 6, 6, 5] 6 1)⟩
    case measure => show (args.drop 1).length - (((i + 1 : Nat) : Int)).toNat < (args.drop 1).length - ((i : Int)).toNat; omega
   refine uG (.bool false) rfl (ex_lss rfl rfl rfl (qF hb98)) (uW k97 ?_)
   refine sK fun _ k109 => cF rfl (xE ?_)
   refine tX (tX ?_)
   refine bH (tK k94 ?_)
   refine sK fun _ k110 => rL (uM rfl ?_)
   obtain ⟨E, hE, hv, hre, hoke, -⟩ := hv.rowBy
   refine xC h9callable49 rfl ((respList E _ _ ra ls.length rc _ (rList (ls.map leafR)) hoke hre (.inl ⟨ls, rfl, rfl, rfl⟩) (by omega) hv).mono ?_) rfl
   rintro e w114 ⟨J111, lw112, hJ111, rfl, hrw113, hv⟩
   refine ⟨_, rfl, ?_⟩
   simp only [zP, po]
   refine xS 3 rfl hv rssz28 rfl (by exact ⟨rfl, rfl, rfl, hrw113.lv.2, trivial⟩) (fun w115 hv => ?_)
   simp only [zS, zO, sp] at hv
   refine uW k110 (rR ?_)
   refine bZ (tR ?_)
   refine bC 3 rswd28 hv rfl rfl rfl rfl (⟨J111, es, M, rList (ls.map leafR), _, ((hC.trans hE).trans hJ111), rfl, (hrw113.more (Base.Le.refl _)), hM.more ((hC.trans hE).trans hJ111), ⟨hO, fun _ => rfl⟩, ⟨fun h9 => by rw [hb90] at h9; exact absurd h9 (by decide), fun h9 => by rw [hb90] at h9; exact absurd h9 (by decide), fun h9 => by rw [hb90] at h9; exact absurd h9 (by decide), fun h9 => by rw [hb90] at h9; exact absurd h9 (by decide)⟩, (hv.kp [2, 2] 2 3)⟩)
 refine uG (.bool false) rfl (ex_seql rfl rfl rfl (qF hb90)) (uA rfl ?_)
 refine uW k89 (cF rfl ?_)
 refine sK fun _ k116 => rL ?_
 by_cases hb117 : name = ([72, 71, 69, 84] : List UInt8)
 ·refine uG (.bool true) rfl (ex_seql rfl rfl rfl (qT hb117)) (uA rfl ?_)
  refine uW k116 (cT rfl ?_)
  refine sK fun _ k118 => ?_
  have hal2 := hc2 (.inr (.inl hb117))
  obtain ⟨x, hx⟩ : ∃ x, (args.drop 1)[0]? = some x := ⟨_, List.getElem?_eq_getElem (show 0 < (args.drop 1).length by omega)⟩
  obtain ⟨xb, xo, had, hrdx⟩ := text_reads hr3 hx
  subst had
  refine rL (uM rfl ?_)
  refine uM rfl ?_
  refine uG (.pointer (some ⟨xb, xo + 0, none⟩)) rfl (ex_index rfl rfl rfl (run_idx1 (k := 0) Tryz.underlying22 s9es22 (by omega))) ?_
  refine uL _ rfl (run_load1 s9na9 (hrdx _ _ _ hC no_res hv 0 _ rfl)) ?_
  refine xC hAcallable48 rfl ((chashText C _ _ pa pc y.val.pairs hrp hyv.pm (hO.hsorted hof) x hv).mono ?_) rfl
  rintro e w119 ⟨lf, rfl, hv⟩
  refine ⟨_, rfl, ?_⟩
  simp only [zP, po]
  refine xS 3 rfl hv rssz28 rfl (by exact ⟨rfl, rfl, rfl, rfl, trivial⟩) (fun w120 hv => ?_)
  simp only [zS, zO, sp] at hv
  refine uW k118 (rR ?_)
  refine bZ (tR ?_)
  refine bC 3 rswd28 hv rfl rfl rfl rfl (⟨C, es, M, (.mk lf.k lf.s lf.n []), _, hC, rfl, rpAt_leaf, hM.more hC, ⟨hO, fun _ => rfl⟩, ⟨fun h9 => by rw [hb117] at h9; exact absurd h9 (by decide), fun h9 => by rw [hb117] at h9; exact absurd h9 (by decide), fun h9 => by rw [hb117] at h9; exact absurd h9 (by decide), fun h9 => by rw [hb117] at h9; exact absurd h9 (by decide)⟩, (hv.kp [2, 2] 2 3)⟩)
 refine uG (.bool false) rfl (ex_seql rfl rfl rfl (qF hb117)) (uA rfl ?_)
 refine uW k116 (cF rfl ?_)
 refine sK fun _ k121 => rL ?_
 by_cases hb122 : name = ([72, 69, 88, 73, 83, 84, 83] : List UInt8)
 ·refine uG (.bool true) rfl (ex_seql rfl rfl rfl (qT hb122)) (uA rfl ?_)
  refine uW k121 (cT rfl ?_)
  refine sK fun _ k123 => sK fun _ k124 => ?_
  have hal2 := hc2 (.inr (.inr (.inl hb122)))
  obtain ⟨x, hx⟩ : ∃ x, (args.drop 1)[0]? = some x := ⟨_, List.getElem?_eq_getElem (show 0 < (args.drop 1).length by omega)⟩
  obtain ⟨xb, xo, had, hrdx⟩ := text_reads hr3 hx
  subst had
  refine rL (uM rfl ?_)
  refine uM rfl ?_
  refine uG (.pointer (some ⟨xb, xo + 0, none⟩)) rfl (ex_index rfl rfl rfl (run_idx1 (k := 0) Tryz.underlying22 s9es22 (by omega))) ?_
  refine uL _ rfl (run_load1 s9na9 (hrdx _ _ _ hC no_res hv 0 _ rfl)) ?_
  refine xC h7callable43 rfl ((hashGet C _ _ pa pc y.val.pairs x [] (fun r9 h9 => absurd h9 List.not_mem_nil) (hrp.rdW []) (hO.hsorted hof) hyv.pm hv).mono ?_) rfl
  rintro e w125 ⟨rfl, hv⟩
  refine ⟨_, rfl, uM rfl ?_⟩
  refine uE rfl (uE rfl ?_)
  refine uA rfl (uA rfl ?_)
  refine uW k124 (sK fun _ k126 => ?_)
  refine rL (uM rfl ?_)
  refine uW k126 (wpIn_cond_split (t := ((getH y.val.pairs x).isSome)) rfl (fun hc127 => ?_) (fun hc127 => ?_))
  ·refine sK fun _ k128 => rL (xC h8callable44 rfl ((respInt C _ _ 1 hv).mono ?_) rfl)
   rintro e w129 ⟨rfl, hv⟩
   refine ⟨_, rfl, ?_⟩
   simp only [zP, po]
   refine xS 3 rfl hv rssz28 rfl (by exact ⟨rfl, rfl, rfl, rfl, trivial⟩) (fun w130 hv => ?_)
   simp only [zS, zO, sp] at hv
   refine uW k128 (rR ?_)
   refine tR (bZ ?_)
   refine tR (bC 3 rswd28 hv rfl rfl rfl rfl ?_)
   exact ⟨C, es, M, (.mk 2 ([] : List UInt8) 1 []), _, hC, rfl, rpAt_leaf, hM.more hC, ⟨hO, fun _ => rfl⟩, ⟨fun h9 => by rw [hb122] at h9; exact absurd h9 (by decide), fun h9 => by rw [hb122] at h9; exact absurd h9 (by decide), fun h9 => by rw [hb122] at h9; exact absurd h9 (by decide), fun h9 => by rw [hb122] at h9; exact absurd h9 (by decide)⟩, (hv.kp [2, 2] 2 3)⟩
  refine kS (tK k123 ?_)
  refine sK fun _ k131 => rL (xC h8callable44 rfl ((respInt C _ _ 0 hv).mono ?_) rfl)
  rintro e w132 ⟨rfl, hv⟩
  refine ⟨_, rfl, ?_⟩
  simp only [zP, po]
  refine xS 3 rfl hv rssz28 rfl (by exact ⟨rfl, rfl, rfl, rfl, trivial⟩) (fun w133 hv => ?_)
  simp only [zS, zO, sp] at hv
  refine uW k131 (rR ?_)
  refine bZ (tR ?_)
  refine bC 3 rswd28 hv rfl rfl rfl rfl (⟨C, es, M, (.mk 2 ([] : List UInt8) 0 []), _, hC, rfl, rpAt_leaf, hM.more hC, ⟨hO, fun _ => rfl⟩, ⟨fun h9 => by rw [hb122] at h9; exact absurd h9 (by decide), fun h9 => by rw [hb122] at h9; exact absurd h9 (by decide), fun h9 => by rw [hb122] at h9; exact absurd h9 (by decide), fun h9 => by rw [hb122] at h9; exact absurd h9 (by decide)⟩, (hv.kp [2, 2] 2 3)⟩)
 refine uG (.bool false) rfl (ex_seql rfl rfl rfl (qF hb122)) (uA rfl ?_)
 refine uW k121 (cF rfl ?_)
 refine sK fun _ k134 => rL ?_
 by_cases hb135 : name = ([72, 83, 84, 82, 76, 69, 78] : List UInt8)
 ·refine uG (.bool true) rfl (ex_seql rfl rfl rfl (qT hb135)) (uA rfl ?_)
  refine uW k134 (cT rfl ?_)
  refine sK fun _ k136 => ?_
  have hal2 := hc2 (.inr (.inr (.inr (hb135))))
  obtain ⟨x, hx⟩ : ∃ x, (args.drop 1)[0]? = some x := ⟨_, List.getElem?_eq_getElem (show 0 < (args.drop 1).length by omega)⟩
  obtain ⟨xb, xo, had, hrdx⟩ := text_reads hr3 hx
  subst had
  refine rL (uM rfl ?_)
  refine uM rfl ?_
  refine uG (.pointer (some ⟨xb, xo + 0, none⟩)) rfl (ex_index rfl rfl rfl (run_idx1 (k := 0) Tryz.underlying22 s9es22 (by omega))) ?_
  refine uL _ rfl (run_load1 s9na9 (hrdx _ _ _ hC no_res hv 0 _ rfl)) ?_
  refine xC h7callable43 rfl ((hashGet C _ _ pa pc y.val.pairs x [] (fun r9 h9 => absurd h9 List.not_mem_nil) (hrp.rdW []) (hO.hsorted hof) hyv.pm hv).mono ?_) rfl
  rintro e w137 ⟨rfl, hv⟩
  refine ⟨_, rfl, uM rfl ?_⟩
  refine uE rfl (uE rfl ?_)
  refine uA rfl (uA rfl ?_)
  refine uW k136 (sK fun _ k138 => ?_)
  refine rL (uM rfl ?_)
  refine uG (vI (((getH y.val.pairs x).getD []).length : Int)) rfl (ex_lenStr Tryz.underlying9 rfl rfl) ?_
  refine xC h8callable44 rfl ((respInt C _ _ (((getH y.val.pairs x).getD []).length : Int) hv).mono ?_) rfl
  rintro e w139 ⟨rfl, hv⟩
  refine ⟨_, rfl, ?_⟩
  simp only [zP, po]
  refine xS 3 rfl hv rssz28 rfl (by exact ⟨rfl, rfl, rfl, rfl, trivial⟩) (fun w140 hv => ?_)
  simp only [zS, zO, sp] at hv
  refine uW k138 (rR ?_)
  refine bZ (tR ?_)
  refine bC 3 rswd28 hv rfl rfl rfl rfl (⟨C, es, M, (.mk 2 ([] : List UInt8) (((getH y.val.pairs x).getD []).length : Int) []), _, hC, rfl, rpAt_leaf, hM.more hC, ⟨hO, fun _ => rfl⟩, ⟨fun h9 => by rw [hb135] at h9; exact absurd h9 (by decide), fun h9 => by rw [hb135] at h9; exact absurd h9 (by decide), fun h9 => by rw [hb135] at h9; exact absurd h9 (by decide), fun h9 => by rw [hb135] at h9; exact absurd h9 (by decide)⟩, (hv.kp [2, 2] 2 3)⟩)
 refine uG (.bool false) rfl (ex_seql rfl rfl rfl (qF hb135)) (uA rfl ?_)
 refine uW k134 (cF rfl ?_)
 refine sK fun _ k141 => rL ?_
 by_cases hb142 : name = ([72, 71, 69, 84, 65, 76, 76] : List UInt8)
 ·refine uG (.bool true) rfl (ex_seql rfl rfl rfl (qT hb142)) (uA rfl ?_)
  refine uW k141 (cT rfl ?_)
  refine sK fun _ k143 => rL (uM rfl ?_)
  refine xC h9callable51 rfl ((chashFlat C _ _ pa pc y.val.pairs hrp hyv.pm hv).mono ?_) rfl
  rintro e w144 ⟨F, oa, oc, out, hF, rfl, hoko, hro, hout, hv⟩
  refine ⟨_, rfl, ?_⟩
  have hol : out.length ≤ 1000000 := by rw [hout, flatH_len]; have := (hashOk_iff.1 (hO.hash hof)).1; omega
  simp only [zP, po]
  refine xC h9callable50 rfl ((respStrsR F _ _ oa oc out (hro.more (Base.Le.refl _) (fun _ h => h)) (hol) hv).mono ?_) rfl
  rintro e w149 ⟨D145, da146, dc147, hD145, rfl, hrp148o, hrp148, hv⟩
  refine ⟨_, rfl, ?_⟩
  simp only [zP, po]
  refine xS 3 rfl hv rssz28 rfl (by exact ⟨rfl, rfl, rfl, rfl, trivial⟩) (fun w150 hv => ?_)
  simp only [zS, zO, sp] at hv
  refine uW k143 (rR ?_)
  refine bZ (tR ?_)
  refine bC 3 rswd28 hv rfl rfl rfl rfl (⟨D145, es, M, (rStrs out), _, ((hC.trans hF).trans hD145), rfl, (rpAt_strs hrp148o (hrp148.more (Base.Le.refl _) (fun _ h => h))), hM.more ((hC.trans hF).trans hD145), ⟨hO, fun _ => rfl⟩, ⟨fun h9 => by rw [hb142] at h9; exact absurd h9 (by decide), fun _ => ⟨key, hkey, rfl, y, ec, hof, .inr ⟨by omega, by rw [hout]⟩⟩, fun h9 => by rw [hb142] at h9; exact absurd h9 (by decide), fun h9 => by rw [hb142] at h9; exact absurd h9 (by decide)⟩, (hv.kp [2, 2] 2 3)⟩)
 refine uG (.bool false) rfl (ex_seql rfl rfl rfl (qF hb142)) (uA rfl ?_)
 refine uW k141 (cF rfl ?_)
 refine sK fun _ k151 => rL ?_
 by_cases hb152 : name = ([72, 75, 69, 89, 83] : List UInt8)
 ·refine uG (.bool true) rfl (ex_seql rfl rfl rfl (qT hb152)) (uA rfl ?_)
  refine uW k151 (cT rfl ?_)
  refine sK fun _ k153 => rL (uM rfl ?_)
  refine xC hAcallable52 rfl ((hashFields C _ _ pa pc y.val.pairs hrp hyv.pm hv).mono ?_) rfl
  rintro e w154 ⟨F, oa, oc, out, hF, rfl, hoko, hro, hout, hv⟩
  refine ⟨_, rfl, ?_⟩
  have hol : out.length ≤ 1000000 := by rw [hout, List.length_map]; have := (hashOk_iff.1 (hO.hash hof)).1; omega
  simp only [zP, po]
  refine xC h9callable50 rfl ((respStrsR F _ _ oa oc out (hro.more (Base.Le.refl _) (fun _ h => h)) (hol) hv).mono ?_) rfl
  rintro e w159 ⟨D155, da156, dc157, hD155, rfl, hrp158o, hrp158, hv⟩
  refine ⟨_, rfl, ?_⟩
  simp only [zP, po]
  refine xS 3 rfl hv rssz28 rfl (by exact ⟨rfl, rfl, rfl, rfl, trivial⟩) (fun w160 hv => ?_)
  simp only [zS, zO, sp] at hv
  refine uW k153 (rR ?_)
  refine bZ (tR ?_)
  refine bC 3 rswd28 hv rfl rfl rfl rfl (⟨D155, es, M, (rStrs out), _, ((hC.trans hF).trans hD155), rfl, (rpAt_strs hrp158o (hrp158.more (Base.Le.refl _) (fun _ h => h))), hM.more ((hC.trans hF).trans hD155), ⟨hO, fun _ => rfl⟩, ⟨fun h9 => by rw [hb152] at h9; exact absurd h9 (by decide), fun h9 => by rw [hb152] at h9; exact absurd h9 (by decide), fun h9 => by rw [hb152] at h9; exact absurd h9 (by decide), fun h9 => by rw [hb152] at h9; exact absurd h9 (by decide)⟩, (hv.kp [2, 2] 2 3)⟩)
 refine uG (.bool false) rfl (ex_seql rfl rfl rfl (qF hb152)) (uA rfl ?_)
 refine uW k151 (cF rfl ?_)
 refine sK fun _ k161 => rL ?_
 by_cases hb162 : name = ([72, 86, 65, 76, 83] : List UInt8)
 ·refine uG (.bool true) rfl (ex_seql rfl rfl rfl (qT hb162)) (uA rfl ?_)
  refine uW k161 (cT rfl ?_)
  refine sK fun _ k163 => rL (uM rfl ?_)
  refine xC hAcallable53 rfl ((hashTexts C _ _ pa pc y.val.pairs hrp hyv.pm hv).mono ?_) rfl
  rintro e w164 ⟨F, oa, oc, out, hF, rfl, hoko, hro, hout, hv⟩
  refine ⟨_, rfl, ?_⟩
  have hol : out.length ≤ 1000000 := by rw [hout, List.length_map]; have := (hashOk_iff.1 (hO.hash hof)).1; omega
  simp only [zP, po]
  refine xC h9callable50 rfl ((respStrsR F _ _ oa oc out (hro.more (Base.Le.refl _) (fun _ h => h)) (hol) hv).mono ?_) rfl
  rintro e w169 ⟨D165, da166, dc167, hD165, rfl, hrp168o, hrp168, hv⟩
  refine ⟨_, rfl, ?_⟩
  simp only [zP, po]
  refine xS 3 rfl hv rssz28 rfl (by exact ⟨rfl, rfl, rfl, rfl, trivial⟩) (fun w170 hv => ?_)
  simp only [zS, zO, sp] at hv
  refine uW k163 (rR ?_)
  refine bZ (tR ?_)
  refine bC 3 rswd28 hv rfl rfl rfl rfl (⟨D165, es, M, (rStrs out), _, ((hC.trans hF).trans hD165), rfl, (rpAt_strs hrp168o (hrp168.more (Base.Le.refl _) (fun _ h => h))), hM.more ((hC.trans hF).trans hD165), ⟨hO, fun _ => rfl⟩, ⟨fun h9 => by rw [hb162] at h9; exact absurd h9 (by decide), fun h9 => by rw [hb162] at h9; exact absurd h9 (by decide), fun h9 => by rw [hb162] at h9; exact absurd h9 (by decide), fun h9 => by rw [hb162] at h9; exact absurd h9 (by decide)⟩, (hv.kp [2, 2] 2 3)⟩)
 refine uG (.bool false) rfl (ex_seql rfl rfl rfl (qF hb162)) (uA rfl ?_)
 refine uW k161 (cF rfl ?_)
 refine kS (bN ?_)
 refine tK k52 (sK fun _ k171 => ?_)
 refine rL (uM rfl ?_)
 refine uG (vI (y.val.pairs.length : Int)) rfl (ex_len0 Tryz.underlying76 rfl rfl) ?_
 refine xC h8callable44 rfl ((respInt C _ _ (y.val.pairs.length : Int) hv).mono ?_) rfl
 rintro e w172 ⟨rfl, hv⟩
 refine ⟨_, rfl, ?_⟩
 simp only [zP, po]
 refine xS 3 rfl hv rssz28 rfl (by exact ⟨rfl, rfl, rfl, rfl, trivial⟩) (fun w173 hv => ?_)
 simp only [zS, zO, sp] at hv
 refine uW k171 (rR ?_)
 refine bC 3 rswd28 hv rfl rfl rfl rfl (⟨C, es, M, (.mk 2 ([] : List UInt8) (y.val.pairs.length : Int) []), _, hC, rfl, rpAt_leaf, hM.more hC, ⟨hO, fun _ => rfl⟩, ⟨fun h9 => absurd h9 hb55, fun h9 => absurd h9 hb142, fun h9 => absurd h9 hb73, fun h9 => absurd h9 hb17⟩, (hv.kp [2, 2] 2 3)⟩)
end Go.Proofs.YtffnhfkkochnhaaGreatDoor
