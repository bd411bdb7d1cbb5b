/- ckey: what LIMIT leaves. -/
import Derived.Test.YtngpmolbphinnaaGreatDoorCkSrtB
import Derived.Test.YtngpmolbphinnaaGreatDoorCkSrtH
import Derived.Test.YtngpmolbphinnaaGreatDoorRows
import Derived.Test.YtngpmolbphinnaaGreatDoorCkSrtI
import Derived.Test.YtngpmolbphinnaaGreatDoorCkSrtE
import Derived.Shelf.Slices.ReverseS
import Derived.Ground.Names2Prog
import Derived.Sort.Walk0
import Derived.Sort.KeysCollected
import Derived.Lib.SlicesCompact
import Derived.Test.YtngpmolbphinnaaGreatDoorCkSrtA
import Derived.Test.YtngpmolbphinnaaGreatDoorCkSrtD
import Derived.Lib.LaidTab
import Derived.LaidSub
import Derived.Lib.ItoaNum
import Derived.Deep.LoopGhost
import Derived.Lib.ParseIntBTie
set_option maxRecDepth 100000
set_option maxHeartbeats 16000000
set_option synthInstance.maxSize 4096
set_option synthInstance.maxHeartbeats 400000
namespace Go.Proofs.YtngpmolbphinnaaGreatDoor
open Go.RowKit Go.Pm
def LimR (gl : Bool) (om mo : Int) (xs out : List (List UInt8)) : Prop := (gl = false ∧ out = xs) ∨ (gl = true ∧ om < 0 ∧ out = []) ∨ (gl = true ∧ 0 ≤ om ∧ ∃ j : Nat, (if (xs.length : Int) < om then (xs.length : Int) else om) = (j : Int) ∧ ((mo < 0 ∧ out = xs.drop j) ∨ (0 ≤ mo ∧ ∃ q : Nat, (if ((xs.drop j).length : Int) < mo then ((xs.drop j).length : Int) else mo) = (q : Int) ∧ out = (xs.drop j).take q)))
theorem kGfa157_0 : FA Tryz.prog 157 0 0 := fun w b o => by kernel_rfl
theorem kGea155 (w : World) : (sizeOf 4).run Tryz.prog w = .ok 1 w := by kernel_rfl
theorem kGua155 : Tryz.prog.underlying 155 = some (.array 5 4) := by kernel_rfl
theorem kGfa157_1 : FA Tryz.prog 157 1 5 := fun w b o => by kernel_rfl
theorem kGfa157_2 : FA Tryz.prog 157 2 6 := fun w b o => by kernel_rfl
theorem ckLimited (B : Base) (H : List Res) (w : World) (g0 g1 g2 g3 g4 : Bool) (om mo : Int) (tg : List UInt8) (xa : Option Addr) (xc : Nat) (xs : List (List UInt8)) (hokx : SliceOk xa xs.length xc) (hrx : RdV B [] xa (textCells xs)) (hmx : xs.length ≤ 1000000) (hv : Inv B H w) :
  Calls Tryz.prog 94 #[.agg #[.bool g0, .bool g1, .bool g2, .bool g3, .bool g4, vI om, vI mo, vS tg], .slice xa xs.length xc] w fun e w' => ∃ oa oc out, e = .returned (.slice oa out.length oc) ∧ LimR g3 om mo xs out ∧ out.length ≤ 1000000 ∧ SliceOk oa out.length oc ∧ RdV B [] oa (textCells out) ∧ Inv B H w' := by
 refine cW Tryz.func94 rfl Tryz.ntmps94 ?_
 simp only [al]
 refine sK fun _ k1 => rL (sl_box (L := [.bool g0, .bool g1, .bool g2, .bool g3, .bool g4, vI om, vI mo, vS tg]) tV (wn rfl) rfl rfl hv (fun w => by kernel_rfl) (fun b2 w3 hv => ?_))
 refine uA rfl (uW k1 ?_)
 refine sK fun _ k4 => sK fun _ k5 => rL (uF (vP b2) rfl (kGfa157_0 _ _ _) ?_)
 refine uG (.pointer (some ⟨b2, 3, none⟩)) rfl (ex_index rfl rfl rfl (run_idxA1 (k := 3) kGua155 kGea155 (by omega))) ?_
 refine uL _ rfl (run_load1 s2na4 (hv.load 0 3 rfl rfl)) ?_
 refine uG (.bool (!g3)) rfl (ex_not rfl rfl rfl) (uW k5 ?_)
 refine wpIn_cond_split (t := !g3) rfl (fun hc6 => ?_) (fun hc6 => ?_)
 ·refine sK fun _ k7 => rL (uM rfl ?_)
  refine uA rfl (uW k7 ?_)
  refine rR (tR ?_)
  refine bR rfl rfl (⟨_, _, xs, rfl, .inl ⟨(by cases g3 <;> simp_all), rfl⟩, by omega, hokx, hrx, (hv.kp [] 0 1)⟩)
 refine kS (tK k4 ?_)
 refine sK fun _ k8 => sK fun _ k9 => rL (uF (.pointer (some ⟨b2, 5, none⟩)) rfl (kGfa157_1 _ _ _) ?_)
 refine uL _ rfl (run_load1 s2na3 (hv.load 0 5 rfl rfl)) ?_
 by_cases hb10 : om < 0
 ·refine uG (.bool true) rfl (ex_lss rfl rfl rfl (qT hb10)) (uW k9 ?_)
  refine cT rfl (sK fun _ k11 => ?_)
  refine rL (uA rfl ?_)
  refine uW k11 (rR ?_)
  refine tR (bR rfl rfl ?_)
  exact ⟨none, 0, [], rfl, .inr (.inl ⟨(by cases g3 <;> simp_all), by omega, rfl⟩), Nat.zero_le _, ⟨Nat.le_refl _, Nat.zero_le _, fun _ => rfl⟩, rdV_nil, (hv.kp [] 0 1)⟩
 refine uG (.bool false) rfl (ex_lss rfl rfl rfl (qF hb10)) (uW k9 ?_)
 refine cF rfl (kS ?_)
 refine tK k8 (sK fun _ k12 => ?_)
 obtain ⟨j, hj⟩ : ∃ j : Nat, (if (xs.length : Int) < om then (xs.length : Int) else om) = (j : Int) := ⟨_, (Int.toNat_of_nonneg (by split <;> omega)).symm⟩
 have hjl : j ≤ xs.length := by split at hj <;> omega
 obtain ⟨a4, c4, ha4, ok4, hr4⟩ := sliced_fromV 1 hokx hrx (textCells_len _) hjl (by decide)
 rw [Nat.mul_one, tx_drop] at hr4
 have hdl : (xs.drop j).length = xs.length - j := List.length_drop
 rw [← hdl] at ok4
 refine rL (uM rfl ?_)
 refine uF (.pointer (some ⟨b2, 5, none⟩)) rfl (kGfa157_1 _ _ _) ?_
 refine uL _ rfl (run_load1 s2na3 (hv.load 0 5 rfl rfl)) (uM rfl ?_)
 refine uG (vI (xs.length : Int)) rfl (ex_len0 Tryz.underlying26 rfl rfl) ?_
 refine uG (vI j) rfl (ex_min2 (m := om) (n := (xs.length : Int)) rfl rfl rfl hj) ?_
 refine uG (.slice a4 ((xs.drop j).length) c4) rfl (ex_slice (lo' := some (vI j)) rfl rfl (congrArg some rfl) rfl rfl ((run_fromAny Tryz.underlying26 s9es26 hjl).trans (by rw [ha4, hdl]))) (uA rfl ?_)
 refine uW k12 (sK fun _ k13 => ?_)
 refine sK fun _ k14 => rL (uF (.pointer (some ⟨b2, 6, none⟩)) rfl (kGfa157_2 _ _ _) ?_)
 refine uL _ rfl (run_load1 s2na3 (hv.load 0 6 rfl rfl)) ?_
 by_cases hb15 : mo ≥ 0
 ·refine uG (.bool true) rfl (ex_geq rfl rfl rfl (qT hb15)) (uW k14 ?_)
  refine cT rfl ?_
  obtain ⟨q, hq⟩ : ∃ q : Nat, (if ((xs.drop j).length : Int) < mo then ((xs.drop j).length : Int) else mo) = (q : Int) := ⟨_, (Int.toNat_of_nonneg (by split <;> omega)).symm⟩
  have hql : q ≤ (xs.drop j).length := by split at hq <;> omega
  obtain ⟨a3, ha3, ok3, hr3⟩ := sliced_hiV 1 ok4 hr4 (textCells_len _) hql
  rw [Nat.mul_one, tx_take] at hr3
  have htl : ((xs.drop j).take q).length = q := by rw [List.length_take]; omega
  rw [← htl] at ok3
  refine rL (uM rfl ?_)
  refine uF (.pointer (some ⟨b2, 6, none⟩)) rfl (kGfa157_2 _ _ _) ?_
  refine uL _ rfl (run_load1 s2na3 (hv.load 0 6 rfl rfl)) (uM rfl ?_)
  refine uG (vI (((xs.drop j).length) : Int)) rfl (ex_len0 Tryz.underlying26 rfl rfl) ?_
  refine uG (vI q) rfl (ex_min2 (m := mo) (n := ((xs.drop j).length : Int)) rfl rfl rfl hq) ?_
  refine uG (.slice a3 (((xs.drop j).take q).length) c4) rfl (ex_slice (hi' := some (vI q)) rfl rfl rfl (congrArg some rfl) rfl ((run_hiAny (h := q) Tryz.underlying26 s9es26 (by have := ok4.le; omega)).trans (by rw [ha3, htl]))) (uA rfl ?_)
  refine uW k13 (sK fun _ k16 => ?_)
  refine rL (uM rfl ?_)
  refine uA rfl (uW k16 ?_)
  refine rR (bR rfl rfl ?_)
  exact ⟨_, _, (xs.drop j).take q, rfl, .inr (.inr ⟨(by cases g3 <;> simp_all), by omega, j, hj, .inr ⟨by omega, q, hq, rfl⟩⟩), by omega, ok3, hr3, (hv.kp [] 0 1)⟩
 refine uG (.bool false) rfl (ex_geq rfl rfl rfl (qF hb15)) (uW k14 ?_)
 refine cF rfl (kS ?_)
 refine tK k13 (sK fun _ k17 => ?_)
 refine rL (uM rfl ?_)
 refine uA rfl (uW k17 ?_)
 refine rR (bR rfl rfl ?_)
 exact ⟨_, _, xs.drop j, rfl, .inr (.inr ⟨(by cases g3 <;> simp_all), by omega, j, hj, .inl ⟨by omega, rfl⟩⟩), by omega, ok4, hr4, (hv.kp [] 0 1)⟩
open Go.Sort
def SortR (bw : Bool) (xs out : List (List UInt8)) (ec : Int) : Prop := (bw = true → ec = 0 ∧ out = xs.mergeSort leB) ∧ out.length ≤ xs.length
def SortedOk (bw : Bool) : Prop := ∀ (B : Base) (H : List Res) (w : World) (xa : Option Addr) (xc : Nat) (xs : List (List UInt8)), SliceOk xa xs.length xc → RdV B [] xa (textCells xs) → xs.length ≤ 1000000 → NumB B → Pm.Inv B H w →
 Calls Tryz.prog 92 #[.bool bw, .slice xa xs.length xc] w fun e w' => ∃ C oa oc out ec, B.Le C ∧ e = .returned (.tuple #[.slice oa out.length oc, vI ec]) ∧ SortR bw xs out ec ∧ Pm.Inv C (Res.row keyT 1 (.slice oa out.length oc) out.length (textCells out) :: H) w'
def SrtR (M : List (List UInt8 × Ver)) (clk : Int) (k : List UInt8) (ws : List (List UInt8)) (M' : List (List UInt8 × Ver)) (r : Rp) : Prop :=
 (wishF ws wish0 = none ∧ M' = M ∧ IsF r) ∨ ∃ s, wishF ws wish0 = some s ∧ (((∃ t ∈ s.ns, NumP t 0 false) ∧ M' = M ∧ IsF r) ∨ ∃ xs ex, ThingsR M clk k xs ex ∧ ((ex ≠ 0 ∧ M' = M ∧ IsF r) ∨ (ex = 0 ∧ ∃ ys ey, SortR s.g0 xs ys ey ∧ ((ey ≠ 0 ∧ M' = M ∧ IsF r) ∨ (ey = 0 ∧ ∃ om mo out, (s.g3 = true → ∃ p q, s.ns = [p, q] ∧ NumP p om true ∧ NumP q mo true) ∧ LimR s.g3 om mo (if s.g2 = true then ys.reverse else ys) out ∧
  ((s.g4 = false ∧ M' = M ∧ r = rStrs out) ∨ (s.g4 = true ∧ ∃ e1, KeepI M clk s.tg ⟨3, [], [], out, []⟩ 0 e1 M' ∧ DoneR e1 (rInt (out.length : Int)) r)))))))
end Go.Proofs.YtngpmolbphinnaaGreatDoor
namespace Go.Proofs
open Go.Shelf
def Tryz.laysRev_ren : Go.Shelf.Ren := ⟨fun | 17 => 93 | n => n, fun | 24 => 26 | 9 => 9 | 3 => 3 | 4 => 4 | 0 => 0 | n => n, fun | n => n⟩
theorem Tryz.laysRev : Go.Proofs.Lays2.n17 Tryz.prog Tryz.laysRev_ren := {
 mixed := by kernel_rfl
 f17 := Tryz.func93.trans (congrArg some (by kernel_rfl))
 t0 := Tryz.underlying0
 a0 := Tryz.isAgg0
 z0 := Tryz.sizeOf0
 v0 := Tryz.zeroValue0
 t3 := Tryz.underlying3
 a3 := Tryz.isAgg3
 z3 := Tryz.sizeOf3
 v3 := Tryz.zeroValue3
 t4 := Tryz.underlying4
 a4 := Tryz.isAgg4
 z4 := Tryz.sizeOf4
 v4 := Tryz.zeroValue4
 t9 := Tryz.underlying9
 a9 := Tryz.isAgg9
 z9 := Tryz.sizeOf9
 v9 := Tryz.zeroValue9
 t24 := Tryz.underlying26
 a24 := Tryz.isAgg26
 z24 := Tryz.sizeOf26
 v24 := Tryz.zeroValue26 }
end Go.Proofs
namespace Go.Proofs.YtngpmolbphinnaaGreatDoor
open Go.RowKit Go.Pm Go.Sort Go.Shelf
theorem reverseTexts (B : Base) (H : List Res) (w : World) (v : Value) (l : List (List UInt8)) (hm : l.length ≤ 1000000) (hv : Pm.Inv B (Res.row keyT 1 v l.length (textCells l) :: H) w) :
  Calls Tryz.prog 93 #[v] w fun e w' => e = .returned (.tuple #[]) ∧ Pm.Inv B (Res.row keyT 1 v l.length (textCells l.reverse) :: H) w' := by
 rcases (hv.head : w.ownsRow 0 keyT 1 v l.length (textCells l)).2 with ⟨rfl, hz⟩ | ⟨g, cap, cur, rfl, h0, hgb, r1, r2, r3, r4⟩
 ·have hl : l = [] := List.eq_nil_of_length_eq_zero hz
  subst hl
  refine (Any.slices_Reverse_string_empty Tryz.laysRev none 0 w).mono ?_
  rintro e w' ⟨rfl, rfl⟩
  exact ⟨rfl, by simpa using hv⟩
 have hH : Holds encStr w g 0 l.toArray := holds_of_block hgb (by rw [Nat.mul_one] at r4; exact r4)
 have hc := Any.slices_Reverse_string_arr Tryz.laysRev g 0 cap l.toArray w hH (by simp; omega)
 rw [show l.toArray.size = l.length by simp, show l.toArray.reverse = l.reverse.toArray by simp] at hc
 refine hc.mono ?_
 rintro e w' ⟨rfl, n, rfl⟩
 rw [← grow_empty (putRow encStr (Sort.ahead w n) g 0 l.reverse.toArray)]
 have hgr := grownBy_sorted (w := w) (g := g) (n := n) (os := #[]) l.reverse.toArray
 have hr := ownsRow_sorted (n := n) (os := #[]) (ss := l) (ts := l.reverse) (by simp) h0 hgb r1 r2 r3
 refine ⟨rfl, hv.upd _ ⟨hgr.os, hgr.tape, hgr.output, hgr.size, fun k hk hn => hgr.block k hk (fun e => hn (by cases e; simp [Value.ownBlock]))⟩ hr (fun b hb => .inl hb) (fun b hb => Nat.lt_of_lt_of_le (hv.headLt b hb) hgr.size) (by simp [Value.ownBlock])⟩
theorem kJal34 : AL Tryz.prog 34 [vI 0, vS [], vI 0, vN] := fun w => by kernel_rfl
theorem kJcallable90 : Callable Tryz.prog 90 := cb Tryz.func90 (by kernel_rfl)
theorem kJal157 : AL Tryz.prog 157 [.bool false, .bool false, .bool false, .bool false, .bool false, vI 0, vI 0, vS []] := fun w => by kernel_rfl
theorem kJwd80 : Wide Tryz.prog 80 2 := wide_of (fun w => by kernel_rfl) (by kernel_rfl)
theorem kJcallable91 : Callable Tryz.prog 91 := cb Tryz.func91 (by kernel_rfl)
theorem kJea155 (w : World) : (sizeOf 4).run Tryz.prog w = .ok 1 w := by kernel_rfl
theorem kJua155 : Tryz.prog.underlying 155 = some (.array 5 4) := by kernel_rfl
theorem kJcallable92 : Callable Tryz.prog 92 := cb Tryz.func92 (by kernel_rfl)
theorem kJcallable94 : Callable Tryz.prog 94 := cb Tryz.func94 (by kernel_rfl)
theorem kJcallable16 : Callable Tryz.prog 16 := cb Tryz.func16 (by kernel_rfl)
theorem kJcallable54 : Callable Tryz.prog 54 := cb Tryz.func54 (by kernel_rfl)
theorem kJcallable56 : Callable Tryz.prog 56 := cb Tryz.func56 (by kernel_rfl)
theorem kJcallable93 : Callable Tryz.prog 93 := cb Tryz.func93 (by kernel_rfl)
theorem ckSort (B : Base) (H : List Res) (w : World) (v t m s p wb : Nat) (va : Option Addr) (vc : Nat) (sv : Value) (clk : Int) (es : List (List UInt8 × Value)) (M : List (List UInt8 × Ver)) (hM : VM B es M) (aa : Option Addr) (an ac : Nat) (k : List UInt8) (wa : Option Addr) (wc : Nat) (ws : List (List UInt8)) (hokw : SliceOk wa ws.length wc) (hrw : RdV B [] wa (textCells ws)) (hmw : ws.length ≤ 1000000) (hxl : ∀ x ∈ ws, x.length ≤ 9223372036854775807) (hN : NumB B) (hsrt : ∀ s, wishF ws wish0 = some s → SortedOk s.g0) (hv : Inv B (Res.cell v [.iface 100 (vP t)] 56 :: txR t m s p wb va vc sv clk es :: H) w) :
  Calls Tryz.prog 64 #[.agg #[vP v, .slice aa an ac], vS k, .slice wa ws.length wc] w fun e w' => ∃ C es' M' r cs, B.Le C ∧ e = .returned (.agg cs.toArray) ∧ RpAt C r cs ∧ VM C es' M' ∧ SrtR M clk k ws M' r ∧ Inv C (Res.cell v [.iface 100 (vP t)] 56 :: txR t m s p wb va vc sv clk es' :: H) w' := by
 refine cW Tryz.func64 rfl Tryz.ntmps64 ?_
 simp only [al]
 refine sK fun _ k1 => rL (sl_box (L := [vP v, .slice aa an ac]) tV (wn rfl) rfl rfl hv (fun w => by kernel_rfl) (fun b2 w3 hv => ?_))
 refine sl_alloc tV (wn rfl) rfl hv kJal34 (fun b4 w5 hv => ?_)
 refine uW k1 (sK fun _ k6 => ?_)
 refine rL (uM rfl ?_)
 refine xC kJcallable90 rfl ((ckWishes B _ _ wa wc ws hokw hrw hmw hxl hN hv).mono ?_) rfl
 rintro e w7 ⟨g0, g1, g2, g3, g4, om, mo, tg, ec, rfl, hws, hv⟩
 refine ⟨_, rfl, uM rfl ?_⟩
 refine uE rfl (uE rfl ?_)
 refine sl_alloc tV (wn rfl) rfl hv kJal157 (fun b8 w9 hv => ?_)
 simp only [zP, po]
 refine xS 0 rfl hv kIsz157 rfl (by exact ⟨rfl, rfl, rfl, rfl, rfl, rfl, rfl, rfl, trivial⟩) (fun w10 hv => ?_)
 simp only [zO, sp] at hv
 refine uA rfl (uW k6 ?_)
 refine sK fun _ k11 => sK fun _ k12 => rL (uM rfl ?_)
 by_cases hb13 : ec ≠ 0
 ·refine uG (.bool true) rfl (ex_neq rfl rfl rfl (qT hb13)) (uW k12 ?_)
  refine cT rfl (sK fun _ k14 => ?_)
  refine rL (uM rfl ?_)
  refine xC rscallable29 rfl ((viewWrong B _ _ ec hv).mono ?_) rfl
  rintro e w16 ⟨s15, rfl, hv⟩
  refine ⟨_, rfl, ?_⟩
  refine xS 1 rfl hv rssz34 rfl (by exact ⟨rfl, rfl, rfl, rfl, trivial⟩) (fun w17 hv => ?_)
  simp only [zS, zO, sp] at hv
  refine uW k14 (rR ?_)
  refine tR (bC 1 rswd34 hv rfl rfl rfl rfl ?_)
  exact ⟨B, es, M, (.mk 1 s15 0 []), _, (Base.Le.refl _), rfl, rpAt_leaf, hM.more (Base.Le.refl _), (hws.elim (fun h => .inl ⟨h.2, rfl, rfl⟩) fun ⟨s, hs, h⟩ => .inr ⟨s, hs, h.elim (fun h => .inl ⟨h.2, rfl, rfl⟩) fun h => absurd h.1 hb13⟩), (hv.kp [4, 4] 2 3)⟩
 refine uG (.bool false) rfl (ex_neq rfl rfl rfl (qF hb13)) (uW k12 ?_)
 refine cF rfl (kS ?_)
 refine tK k11 (sK fun _ k18 => ?_)
 obtain ⟨s9, hw9, rfl, rfl, rfl, rfl, rfl, rfl, hnum⟩ : ∃ s, wishF ws wish0 = some s ∧ s.g0 = g0 ∧ s.g1 = g1 ∧ s.g2 = g2 ∧ s.g3 = g3 ∧ s.g4 = g4 ∧ s.tg = tg ∧ (g3 = true → ∃ p q, s.ns = [p, q] ∧ NumP p om true ∧ NumP q mo true) := by
  rcases hws with ⟨h, -⟩ | ⟨s, hs, ⟨h, -⟩ | ⟨-, h1, h2, h3, h4, h5, h6, h7⟩⟩
  ·omega
  ·omega
  exact ⟨s, hs, h1, h2, h3, h4, h5, h6, h7⟩
 refine rL (uL (.agg #[vP v, .slice aa an ac]) rfl (lM 2 kJwd80 hv rfl rfl rfl rfl) ?_)
 refine uM rfl ?_
 replace hv := hv.front 4 rfl
 simp only [eS, eZ] at hv
 replace hv := hv.front 4 rfl
 simp only [eS, eZ] at hv
 refine xC kJcallable91 rfl ((ckThings B _ _ v t m s p wb va vc sv clk es M hM aa an ac k hv).mono ?_) rfl
 rintro e w19 ⟨T, ta, tc, xs, ex, hT, rfl, hth, htl, hot, hrt, hv⟩
 refine ⟨_, rfl, uM rfl ?_⟩
 refine uE rfl (uE rfl ?_)
 refine uA rfl (uA rfl ?_)
 refine uW k18 (sK fun _ k20 => ?_)
 refine sK fun _ k21 => rL (uM rfl ?_)
 by_cases hb22 : ex ≠ 0
 ·refine uG (.bool true) rfl (ex_neq rfl rfl rfl (qT hb22)) (uW k21 ?_)
  refine cT rfl (sK fun _ k23 => ?_)
  refine rL (uM rfl ?_)
  refine xC rscallable29 rfl ((viewWrong T _ _ ex hv).mono ?_) rfl
  rintro e w25 ⟨s24, rfl, hv⟩
  refine ⟨_, rfl, ?_⟩
  refine xS 3 rfl hv rssz34 rfl (by exact ⟨rfl, rfl, rfl, rfl, trivial⟩) (fun w26 hv => ?_)
  simp only [zS, zO, sp] at hv
  refine uW k23 (rR ?_)
  refine tR (bC 3 rswd34 hv rfl rfl rfl rfl ?_)
  exact ⟨T, es, M, (.mk 1 s24 0 []), _, hT, rfl, rpAt_leaf, hM.more hT, .inr ⟨s9, hw9, .inr ⟨xs, ex, hth, .inl ⟨hb22, rfl, rfl⟩⟩⟩, (hv.kp [1, 1] 2 3)⟩
 refine uG (.bool false) rfl (ex_neq rfl rfl rfl (qF hb22)) (uW k21 ?_)
 refine cF rfl (kS ?_)
 refine tK k20 (sK fun _ k27 => ?_)
 refine rL (uF (vP b8) rfl (kIfa157_0 _ _ _) ?_)
 refine uG (vP b8) rfl (ex_index rfl rfl rfl (run_idxA1 (k := 0) kJua155 kJea155 (by omega))) ?_
 refine uL _ rfl (run_load1 s2na4 (hv.load 2 0 rfl rfl)) (uM rfl ?_)
 refine xC kJcallable92 rfl ((hsrt s9 hw9 T _ _ ta tc xs hot hrt htl (hN.more hT) hv).mono ?_) rfl
 rintro e w28 ⟨S, oa, oc, ys, ey, hS, rfl, hsr, hv⟩
 refine ⟨_, rfl, ?_⟩
 have hyl : ys.length ≤ 1000000 := Nat.le_trans hsr.2 htl
 refine uM rfl (uE rfl ?_)
 refine uE rfl (uA rfl ?_)
 refine uA rfl (uW k27 ?_)
 refine sK fun _ k29 => sK fun _ k30 => rL (uM rfl ?_)
 by_cases hb31 : ey ≠ 0
 ·refine uG (.bool true) rfl (ex_neq rfl rfl rfl (qT hb31)) (uW k30 ?_)
  refine cT rfl (sK fun _ k32 => ?_)
  refine rL (uM rfl ?_)
  refine xC rscallable29 rfl ((viewWrong S _ _ ey hv).mono ?_) rfl
  rintro e w34 ⟨s33, rfl, hv⟩
  refine ⟨_, rfl, ?_⟩
  refine xS 4 rfl hv rssz34 rfl (by exact ⟨rfl, rfl, rfl, rfl, trivial⟩) (fun w35 hv => ?_)
  simp only [zS, zO, sp] at hv
  refine uW k32 (rR ?_)
  refine tR (bC 4 rswd34 hv rfl rfl rfl rfl ?_)
  exact ⟨S, es, M, (.mk 1 s33 0 []), _, (hT.trans hS), rfl, rpAt_leaf, hM.more (hT.trans hS), .inr ⟨s9, hw9, .inr ⟨xs, ex, hth, .inr ⟨by omega, ys, ey, hsr, .inl ⟨hb31, rfl, rfl⟩⟩⟩⟩, (hv.kp [2, 2] 2 4)⟩
 refine uG (.bool false) rfl (ex_neq rfl rfl rfl (qF hb31)) (uW k30 ?_)
 refine cF rfl (kS ?_)
 refine tK k29 (sK fun K36 k36 => ?_)
 have hJ36 : ∀ (zs : List (List UInt8)) (j41 j42 j43 j44 j45 : Value) (w37 : World), (zs = if s9.g2 = true then ys.reverse else ys) → (zs.length = ys.length) → Inv S (Res.row 9 1 (.slice oa ys.length oc) ys.length (textCells zs) :: Res.cell v [.iface 100 (vP t)] 56 :: txR t m s p wb va vc sv clk es :: Res.cell b8 [.bool s9.g0, .bool s9.g1, .bool s9.g2, .bool s9.g3, .bool s9.g4, vI om, vI mo, vS s9.tg] 157 :: Res.cell b4 [vI 0, vS [], vI 0, vN] 34 :: Res.cell b2 [vP v, .slice aa an ac] 80 :: H) w37 → K36 { tmps := List.toArray (.agg #[vP v, .slice aa an ac] :: vS k :: .slice wa ws.length wc :: vP b2 :: undef :: undef :: vP b4 :: vP b8 :: vI ey :: .slice oa ys.length oc :: .tuple #[.agg #[.bool s9.g0, .bool s9.g1, .bool s9.g2, .bool s9.g3, .bool s9.g4, vI om, vI mo, vS s9.tg], vI ec] :: .slice wa ws.length wc :: .tuple #[.agg #[.bool s9.g0, .bool s9.g1, .bool s9.g2, .bool s9.g3, .bool s9.g4, vI om, vI mo, vS s9.tg], vI ec] :: .agg #[.bool s9.g0, .bool s9.g1, .bool s9.g2, .bool s9.g3, .bool s9.g4, vI om, vI mo, vS s9.tg] :: vI ec :: vI ec :: .bool false :: undef :: undef :: .tuple #[.slice ta xs.length tc, vI ex] :: .agg #[vP v, .slice aa an ac] :: vS k :: .tuple #[.slice ta xs.length tc, vI ex] :: .slice ta xs.length tc :: vI ex :: vI ex :: .bool false :: undef :: undef :: .tuple #[.slice oa ys.length oc, vI ey] :: vP b8 :: vP b8 :: .bool s9.g0 :: .slice ta xs.length tc :: .tuple #[.slice oa ys.length oc, vI ey] :: .slice oa ys.length oc :: vI ey :: vI ey :: .bool false :: undef :: undef :: j41 :: j42 :: j43 :: j44 :: j45 :: undef :: undef :: undef :: undef :: undef :: undef :: undef :: undef :: undef :: undef :: undef :: undef :: undef :: undef :: undef :: undef :: undef :: undef :: undef :: undef :: undef :: []), defers := [] } w37 := by
  intro zs j41 j42 j43 j44 j45 w37 hzs hzl hv
  refine k36 _ _ ?_
  rw [← hzl] at hv ⊢
  refine sK fun _ k38 => ?_
  obtain ⟨E, hE, hv, hrz, hoz, -⟩ := hv.rowBy
  refine rL (uL (.agg #[.bool s9.g0, .bool s9.g1, .bool s9.g2, .bool s9.g3, .bool s9.g4, vI om, vI mo, vS s9.tg]) rfl (lM 2 kIwd157 hv rfl rfl rfl rfl) ?_)
  refine uM rfl ?_
  refine xC kJcallable94 rfl ((ckLimited E _ _ s9.g0 s9.g1 s9.g2 s9.g3 s9.g4 om mo s9.tg oa oc zs hoz hrz (by omega) hv).mono ?_) rfl
  rintro e w39 ⟨la, lc, out, rfl, hlim, hol, hoo, hro, hv⟩
  refine ⟨_, rfl, uA rfl ?_⟩
  refine uW k38 (sK fun _ k40 => ?_)
  refine sK fun _ k41 => rL (uF (vP b8) rfl (kIfa157_0 _ _ _) ?_)
  refine uG (.pointer (some ⟨b8, 4, none⟩)) rfl (ex_index rfl rfl rfl (run_idxA1 (k := 4) kJua155 kJea155 (by omega))) ?_
  refine uL _ rfl (run_load1 s2na4 (hv.load 2 4 rfl rfl)) ?_
  refine uG (.bool (!s9.g4)) rfl (ex_not rfl rfl rfl) (uW k41 ?_)
  refine wpIn_cond_split (t := !s9.g4) rfl (fun hc42 => ?_) (fun hc42 => ?_)
  ·refine sK fun _ k43 => rL (uM rfl ?_)
   refine xC k1callable59 rfl ((respStrsR E _ _ la lc out (hro.more (Base.Le.refl _) (fun _ h => h)) (hol) hv).mono ?_) rfl
   rintro e w48 ⟨D44, da45, dc46, hD44, rfl, hrp47o, hrp47, hv⟩
   refine ⟨_, rfl, ?_⟩
   refine xS 3 rfl hv rssz34 rfl (by exact ⟨rfl, rfl, rfl, rfl, trivial⟩) (fun w49 hv => ?_)
   simp only [zS, zO, sp] at hv
   refine uW k43 (rR ?_)
   refine tR (bC 3 rswd34 hv rfl rfl rfl rfl ?_)
   exact ⟨D44, es, M, (rStrs out), _, (((hT.trans hS).trans hE).trans hD44), rfl, (rpAt_strs hrp47o (hrp47.more (Base.Le.refl _) (fun _ h => h))), hM.more (((hT.trans hS).trans hE).trans hD44), .inr ⟨s9, hw9, .inr ⟨xs, ex, hth, .inr ⟨by omega, ys, ey, hsr, .inr ⟨by omega, om, mo, out, hnum, hzs ▸ hlim, .inl ⟨by simpa using hc42, rfl, rfl⟩⟩⟩⟩⟩, (hv.kp [1, 1] 2 3)⟩
  refine kS (tK k40 ?_)
  refine sK fun _ k50 => rL (uF (vP b2) rfl (k1fa80_0 _ _ _) ?_)
  refine uL _ rfl (run_load1 k1na24 (hv.load 4 0 rfl rfl)) ?_
  refine uF (.pointer (some ⟨b8, 7, none⟩)) rfl (kIfa157_3 _ _ _) ?_
  refine uL _ rfl (run_load1 s9na9 (hv.load 2 7 rfl rfl)) (uM rfl ?_)
  refine uG (.agg #[vI 3, vS [], vN, .slice la out.length lc, vN]) rfl (ex_buildN (vs := #[(0, vI 3), (3, .slice la out.length lc)]) rfl (by simp only [List.map_toArray, List.map_cons, List.map_nil]; rfl) (by kernel_rfl)) ?_
  replace hv := hv.front 1 rfl
  simp only [eS, eZ] at hv
  replace hv := hv.front 1 rfl
  simp only [eS, eZ] at hv
  refine xC kJcallable16 rfl ((viewKeep E _ _ v t m s p wb va vc sv clk es M s9.tg ⟨3, [], [], out, []⟩ (vN) (.slice la out.length lc) (vN) 0 (hM.more ((hT.trans hS).trans hE)) ⟨⟨none, 0, rfl, ⟨Nat.le_refl _, Nat.zero_le _, fun _ => rfl⟩, rdV_nil⟩, ⟨la, lc, rfl, hoo, hro⟩, ⟨none, 0, rfl, ⟨Nat.le_refl _, Nat.zero_le _, fun _ => rfl⟩, rdV_nil⟩, Nat.zero_le _, hol, Nat.zero_le _⟩ hv).mono ?_) rfl
  rintro e w51 ⟨D, es1, M1, e1, hD, rfl, hM1, hkp, hv⟩
  refine ⟨_, rfl, uA rfl ?_⟩
  refine uW k50 (sK fun _ k52 => ?_)
  refine rL (uM rfl ?_)
  refine uM rfl ?_
  refine uG (vI (out.length : Int)) rfl (ex_len0 Tryz.underlying26 rfl rfl) ?_
  refine xC kJcallable54 rfl ((respInt D _ _ (out.length : Int) hv).mono ?_) rfl
  rintro e w53 ⟨rfl, hv⟩
  refine ⟨_, rfl, ?_⟩
  refine xC kJcallable56 rfl ((viewDone D _ _ e1 2 (out.length : Int) ([] : List UInt8) (vN) rfl rfl hv).mono ?_) rfl
  rintro e w54 ⟨xr, hxr, rfl, hv⟩
  refine ⟨_, rfl, ?_⟩
  rcases hxr with ⟨hec0, rfl⟩ | ⟨hec0, s55, rfl⟩
  ·refine xS 3 rfl hv rssz34 rfl (by exact ⟨rfl, rfl, rfl, rfl, trivial⟩) (fun w56 hv => ?_)
   simp only [zS, zO, sp] at hv
   refine uW k52 (rR ?_)
   refine bC 3 rswd34 hv rfl rfl rfl rfl (⟨D, es1, M1, (.mk 2 ([] : List UInt8) (out.length : Int) []), _, (((hT.trans hS).trans hE).trans hD), rfl, rpAt_leaf, hM1.more (Base.Le.refl _), .inr ⟨s9, hw9, .inr ⟨xs, ex, hth, .inr ⟨by omega, ys, ey, hsr, .inr ⟨by omega, om, mo, out, hnum, hzs ▸ hlim, .inr ⟨by simpa using hc42, e1, hkp, .inl ⟨by omega, rfl⟩⟩⟩⟩⟩⟩, (hv.kp [1, 1] 2 3)⟩)
  refine xS 3 rfl hv rssz34 rfl (by exact ⟨rfl, rfl, rfl, rfl, trivial⟩) (fun w57 hv => ?_)
  simp only [zS, zO, sp] at hv
  refine uW k52 (rR ?_)
  refine bC 3 rswd34 hv rfl rfl rfl rfl (⟨D, es1, M1, (.mk 1 s55 0 []), _, (((hT.trans hS).trans hE).trans hD), rfl, rpAt_leaf, hM1.more (Base.Le.refl _), .inr ⟨s9, hw9, .inr ⟨xs, ex, hth, .inr ⟨by omega, ys, ey, hsr, .inr ⟨by omega, om, mo, out, hnum, hzs ▸ hlim, .inr ⟨by simpa using hc42, e1, hkp, .inr ⟨by omega, rfl⟩⟩⟩⟩⟩⟩, (hv.kp [1, 1] 2 3)⟩)
 refine sK fun _ k58 => rL (uF (vP b8) rfl (kIfa157_0 _ _ _) ?_)
 refine uG (.pointer (some ⟨b8, 2, none⟩)) rfl (ex_index rfl rfl rfl (run_idxA1 (k := 2) kJua155 kJea155 (by omega))) ?_
 refine uL _ rfl (run_load1 s2na4 (hv.load 3 2 rfl rfl)) (uW k58 ?_)
 refine wpIn_cond_split (t := s9.g2) rfl (fun hc59 => ?_) (fun hc59 => ?_)
 ·refine rL (uM rfl ?_)
  refine xC kJcallable93 rfl ((reverseTexts S _ _ _ ys hyl hv).mono ?_) rfl
  rintro e w60 ⟨rfl, hv⟩
  refine ⟨_, rfl, uZ ?_⟩
  exact then_normal (hJ36 ys.reverse _ _ _ _ _ _ ((if_pos hc59).symm) (by simp) ((((((hv.front 5 rfl).front 5 rfl).front 5 rfl).front 5 rfl).front 5 rfl).front 5 rfl))
 refine kS (then_normal (hJ36 ys _ _ _ _ _ _ ((if_neg (by rw [hc59]; decide)).symm) rfl ((((((hv.front 5 rfl).front 5 rfl).front 5 rfl).front 5 rfl).front 5 rfl).front 5 rfl)))
theorem kKal34 : AL Tryz.prog 34 [vI 0, vS [], vI 0, vN] := fun w => by kernel_rfl
theorem kKfa80_1 : FA Tryz.prog 80 1 1 := fun w b o => by kernel_rfl
theorem kKcallable64 : Callable Tryz.prog 64 := cb Tryz.func64 (by kernel_rfl)
theorem ckDoSort (B : Base) (H : List Res) (w : World) (v t m s p wb : Nat) (va : Option Addr) (vc : Nat) (sv : Value) (clk : Int) (es : List (List UInt8 × Value)) (M : List (List UInt8 × Ver)) (hM : VM B es M) (aa : Option Addr) (ac : Nat) (args : List (List UInt8)) (hra : RdV B [] aa (textCells args)) (hoka : SliceOk aa args.length ac) (hma : args.length ≤ 1000) (k : List UInt8) (hk : args[0]? = some k) (hxl : ∀ x ∈ args, x.length ≤ 9223372036854775807) (hN : NumB B) (hsrt : ∀ s, wishF (args.drop 1) wish0 = some s → SortedOk s.g0) (hv : Inv B (Res.cell v [.iface 100 (vP t)] 56 :: txR t m s p wb va vc sv clk es :: H) w) :
  Calls Tryz.prog 31 #[.agg #[vP v, .slice aa args.length ac], vS [83, 79, 82, 84]] w fun e w' => ∃ C es' M' r cs, B.Le C ∧ e = .returned (.agg cs.toArray) ∧ RpAt C r cs ∧ VM C es' M' ∧ SrtR M clk k (args.drop 1) M' r ∧ Inv C (Res.cell v [.iface 100 (vP t)] 56 :: txR t m s p wb va vc sv clk es' :: H) w' := by
 refine cW Tryz.func31 rfl Tryz.ntmps31 ?_
 simp only [al]
 refine sK fun _ k1 => rL (sl_box (L := [vP v, .slice aa args.length ac]) tV (wn rfl) rfl rfl hv (fun w => by kernel_rfl) (fun b2 w3 hv => ?_))
 simp only [zP, po]
 refine sl_alloc tV (wn rfl) rfl hv kKal34 (fun b4 w5 hv => ?_)
 refine uW k1 (sK fun _ k6 => ?_)
 refine rL (uF (.pointer (some ⟨b2, 1, none⟩)) rfl (kKfa80_1 _ _ _) ?_)
 refine uL _ rfl (run_load1 s1na26 (hv.load 1 1 rfl rfl)) (uA rfl ?_)
 refine uW k6 (sK fun _ k7 => ?_)
 refine sK fun _ k8 => rL (uM rfl ?_)
 refine uW k8 (bB ?_)
 refine sK fun _ k9 => rL (uG (.bool false) rfl (ex_seql rfl rfl rfl (qF (by decide))) ?_)
 refine uA rfl (uW k9 ?_)
 refine cF rfl (sK fun _ k10 => ?_)
 refine rL (uG (.bool false) rfl (ex_seql rfl rfl rfl (qF (by decide))) ?_)
 refine uA rfl (uW k10 ?_)
 refine cF rfl (sK fun _ k11 => ?_)
 refine rL (uG (.bool false) rfl (ex_seql rfl rfl rfl (qF (by decide))) ?_)
 refine uA rfl (uW k11 ?_)
 refine cF rfl (sK fun _ k12 => ?_)
 refine rL (uG (.bool false) rfl (ex_seql rfl rfl rfl (qF (by decide))) ?_)
 refine uA rfl (uW k12 ?_)
 refine cF rfl (sK fun _ k13 => ?_)
 refine sK fun _ k14 => rL (uG (.bool false) rfl (ex_seql rfl rfl rfl (qF (by decide))) ?_)
 refine uA rfl (uW k14 ?_)
 refine cF rfl (rL ?_)
 refine uG (.bool false) rfl (ex_seql rfl rfl rfl (qF (by decide))) (uA rfl ?_)
 refine uW k13 (cF rfl ?_)
 refine sK fun _ k15 => rL (uG (.bool false) rfl (ex_seql rfl rfl rfl (qF (by decide))) ?_)
 refine uA rfl (uW k15 ?_)
 refine cF rfl (sK fun _ k16 => ?_)
 refine rL (uG (.bool false) rfl (ex_seql rfl rfl rfl (qF (by decide))) ?_)
 refine uA rfl (uW k16 ?_)
 refine cF rfl (sK fun _ k17 => ?_)
 refine rL (uG (.bool false) rfl (ex_seql rfl rfl rfl (qF (by decide))) ?_)
 refine uA rfl (uW k17 ?_)
 refine cF rfl (sK fun _ k18 => ?_)
 refine rL (uG (.bool false) rfl (ex_seql rfl rfl rfl (qF (by decide))) ?_)
 refine uA rfl (uW k18 ?_)
 refine cF rfl (sK fun _ k19 => ?_)
 refine rL (uG (.bool false) rfl (ex_seql rfl rfl rfl (qF (by decide))) ?_)
 refine uA rfl (uW k19 ?_)
 refine cF rfl (sK fun _ k20 => ?_)
 refine rL (uG (.bool true) rfl (ex_seql rfl rfl rfl (qT (by decide))) ?_)
 refine uA rfl (uW k20 ?_)
 refine cT rfl (sK fun _ k21 => ?_)
 have hal := (List.getElem?_eq_some_iff.1 hk).1
 have hd1 : (args.drop 1).length = args.length - 1 := List.length_drop
 obtain ⟨a3, c3, ha3, ok3, hr3⟩ := sliced_fromV 1 hoka hra (textCells_len args) (show 1 ≤ args.length by omega) (by decide)
 rw [Nat.mul_one, tx_drop] at hr3
 rw [← hd1] at ok3
 obtain ⟨ab, ao, had, hrdk⟩ := text_reads hra hk
 subst had
 refine rW mixed [6, 7] [0,1,2,3,4,5,6,7] 178 rfl (by kernel_rfl) hv ?_
 simp only [qm, opAt]
 refine dL (.agg #[vP v, .slice (some ⟨ab, ao, none⟩) args.length ac]) rfl (fun hv => ex_load rfl rfl (lM 1 kJwd80 hv rfl rfl rfl rfl)) (dM (.slice (some ⟨ab, ao, none⟩) args.length ac) rfl ?_)
 refine dG (.pointer (some ⟨ab, ao + 0, none⟩)) rfl (ex_index rfl rfl rfl (run_idx1 (k := 0) Tryz.underlying26 s9es26 (by omega))) ?_
 simp only [zP, po]
 refine dL _ rfl (fun hv => ex_load rfl rfl (run_load1 s9na9 (hrdk _ _ _ (Base.Le.refl _) no_res hv 0 _ rfl))) (dM (.slice (some ⟨ab, ao, none⟩) args.length ac) rfl ?_)
 refine dG (.slice a3 ((args.drop 1).length) c3) rfl (ex_slice (lo' := some (vI ((1 : Nat) : Int))) rfl rfl (congrArg some rfl) rfl rfl ((run_fromAny Tryz.underlying26 s9es26 (by omega)).trans (by rw [ha3, hd1]))) ?_
 simp only [zP, po]
 refine dS rfl fun w22 hv => ?_
 replace hv := hv.front 3 rfl
 simp only [eS, eZ] at hv
 replace hv := hv.front 3 rfl
 simp only [eS, eZ] at hv
 refine mC kKcallable64 rfl ((ckSort B _ _ v t m s p wb va vc sv clk es M (hM.more (Base.Le.refl _)) (some ⟨ab, ao, none⟩) args.length ac k a3 c3 (args.drop 1) ok3 hr3 (by omega) (fun x hx => hxl x (List.mem_of_mem_drop hx)) hN hsrt hv).mono ?_) rfl
 rintro e w23 ⟨D, es1, M1, r1, cs, hD, rfl, hrp, hM1, hrel, hv⟩
 obtain ⟨rk, rs, rn, rv, rfl⟩ := rp_parts hrp
 refine ⟨_, rfl, dW hv ?_⟩
 refine dS rfl fun w24 hv => mS 2 rfl hv rssz34 rfl (by exact ⟨rfl, rfl, rfl, hrp.lv.2, trivial⟩) (fun w25 hv => ?_)
 simp only [zS, zO, sp] at hv
 refine dW hv (dE fun w26 hv => ?_)
 simp only [zP, po]
 refine tK k21 (rR ?_)
 refine bZ (tR ?_)
 refine bC 2 rswd34 hv rfl rfl rfl rfl (⟨D, es1, M1, r1, _, hD, rfl, (hrp.more (Base.Le.refl _)), hM1.more (Base.Le.refl _), hrel, (hv.kp [1, 1] 2 2)⟩)
section
variable {x : Val} {now till e : Int} {M M' : List (List UInt8 × Ver)} {r : Rp} {k : List UInt8}
theorem keep_is (hf : FullV x) (hp : ∀ k : List UInt8, k.length ≤ 256 → PutOk k x till) (hk : k.length ≤ 256) (h : KeepI M now k x till e M') : e = 0 ∧ M' = updA M k ⟨0, false, till, x⟩ := by
 obtain ⟨h1, ⟨-, h2⟩ | ⟨h2, -⟩ | ⟨h2, -⟩⟩ := keep_ok hk (fun _ => hp k hk) h
 ·exact ⟨h1, h2⟩
 ·exact absurd hf h2
 exact absurd hf h2
theorem got_is {y : Ver} (hl : lookA M k = some y) (ha : aliveB y now = true) : gotM M now k = some y := by
 unfold gotM; rw [hl]; exact if_pos ha
end
end Go.Proofs.YtngpmolbphinnaaGreatDoor
namespace Go.Pm
open Go.RowKit Go.Sort
theorem leB_lt (a b : List UInt8) : leB a b = !Op.bytesLess b a := by
 rw [Go.Proofs.bytesLess_eq, leB, ← decide_not]
 exact decide_eq_decide.2 List.not_lt.symm
section
variable {s fresh out : List (List UInt8)} {i j : Nat} {x z : List UInt8}
end
end Go.Pm
namespace Go.Proofs.YtngpmolbphinnaaGreatDoor
open Go.RowKit Go.Pm Go.Sort
section
variable {xs out ws : List (List UInt8)} {M M' : List (List UInt8 × Ver)} {clk e : Int} {r : Rp} {k : List UInt8} {s : WishS}
abbrev lsV (xs : List (List UInt8)) : Val := ⟨3, [], [], xs, []⟩
theorem ls_put (h0 : 0 < xs.length) (h1 : xs.length ≤ 30) (h2 : ∀ x ∈ xs, x.length ≤ 300) (hk : k.length ≤ 256) : PutOk k (lsV xs) 0 :=
 ⟨hk, .inr (.inr (.inl ⟨rfl, h0, by unfold listRight; simp only [Bool.and_eq_true, decide_eq_true_eq, Bool.not_eq_true', List.any_eq_false]; exact ⟨by omega, fun x hx => by have := h2 x hx; omega⟩, rfl, rfl, rfl⟩)), by omega, by omega⟩
theorem ls_keep (h0 : 0 < xs.length) (h1 : xs.length ≤ 30) (h2 : ∀ x ∈ xs, x.length ≤ 300) (h : KeepI [] 0 [108] (lsV xs) 0 e M') : M' = [([108], ⟨0, false, 0, lsV xs⟩)] :=
 (keep_is (.inr (by show 0 < 0 + xs.length + 0; omega)) (fun _ hk => ls_put h0 h1 h2 hk) (by decide) h).2
theorem srt_is (hw : wishF ws wish0 = some s) (h0 : s.g0 = true) (h4 : s.g4 = false) (hns : ∀ t ∈ s.ns, ¬ NumP t 0 false) (h : SrtR [([108], ⟨0, false, 0, lsV xs⟩)] 0 [108] ws M' r) :
  M' = [([108], ⟨0, false, 0, lsV xs⟩)] ∧ ∃ om mo out, r = rStrs out ∧ (s.g3 = true → ∃ p q, s.ns = [p, q] ∧ NumP p om true ∧ NumP q mo true) ∧ LimR s.g3 om mo (if s.g2 = true then (xs.mergeSort leB).reverse else xs.mergeSort leB) out := by
 rcases h with ⟨h, -⟩ | ⟨s', h, h9⟩
 ·rw [hw] at h; cases h
 rw [hw] at h; cases h
 rcases h9 with ⟨⟨t, ht, h9⟩, -⟩ | ⟨zs, ex, hth, h9⟩
 ·exact absurd h9 (hns t ht)
 have hg : gotM [([108], (⟨0, false, 0, lsV xs⟩ : Ver))] 0 [108] = some ⟨0, false, 0, lsV xs⟩ := got_is rfl rfl
 obtain ⟨rfl, rfl⟩ : ex = 0 ∧ zs = xs := by
  rcases hth with ⟨h1, -⟩ | ⟨y, h1, h2⟩
  ·rw [hg] at h1; cases h1
  rw [hg] at h1; cases h1
  rcases h2 with ⟨-, h3, h4⟩ | ⟨h3, -⟩
  ·exact ⟨h3, h4⟩
  exact absurd rfl h3
 rcases h9 with ⟨h9, -⟩ | ⟨-, ys, ey, hs, h9⟩
 ·exact absurd rfl h9
 obtain ⟨rfl, rfl⟩ := hs.1 h0
 rcases h9 with ⟨h9, -⟩ | ⟨-, om, mo, out, hn, hl, h9⟩
 ·exact absurd rfl h9
 rcases h9 with ⟨-, h1, h2⟩ | ⟨h1, -⟩
 ·exact ⟨h1, om, mo, out, h2, hn, hl⟩
 rw [h4] at h1; cases h1
theorem wish_a : wishF [wrdA] wish0 = some ⟨true, false, false, false, false, [], []⟩ := by rfl
theorem wish_d : wishF [wrdA, wrdD] wish0 = some ⟨true, false, true, false, false, [], []⟩ := by rfl
theorem wish_l (p q : List UInt8) : wishF [wrdA, wrdL, p, q] wish0 = some ⟨true, false, false, true, false, [p, q], []⟩ := by rfl
theorem srt_a (h : SrtR [([108], ⟨0, false, 0, lsV xs⟩)] 0 [108] [wrdA] M' r) : M' = [([108], ⟨0, false, 0, lsV xs⟩)] ∧ r = rStrs (xs.mergeSort leB) := by
 obtain ⟨h1, om, mo, out, h2, -, h3⟩ := srt_is wish_a rfl rfl (fun t h => by cases h) h
 refine ⟨h1, ?_⟩
 rcases h3 with ⟨-, h3⟩ | ⟨h3, -⟩ | ⟨h3, -⟩
 ·rw [h2, h3]; rfl
 ·cases h3
 cases h3
theorem srt_d (h : SrtR [([108], ⟨0, false, 0, lsV xs⟩)] 0 [108] [wrdA, wrdD] M' r) : M' = [([108], ⟨0, false, 0, lsV xs⟩)] ∧ r = rStrs (xs.mergeSort leB).reverse := by
 obtain ⟨h1, om, mo, out, h2, -, h3⟩ := srt_is wish_d rfl rfl (fun t h => by cases h) h
 refine ⟨h1, ?_⟩
 rcases h3 with ⟨-, h3⟩ | ⟨h3, -⟩ | ⟨h3, -⟩
 ·rw [h2, h3]; rfl
 ·cases h3
 cases h3
theorem srt_l {o q : Nat} (ho : o ≤ 29) (hq : q ≤ 29) (h : SrtR [([108], ⟨0, false, 0, lsV xs⟩)] 0 [108] [wrdA, wrdL, Lib.itoa (o : Int), Lib.itoa (q : Int)] M' r) :
  M' = [([108], ⟨0, false, 0, lsV xs⟩)] ∧ ∃ out, r = rStrs out ∧ out.length = min q (xs.length - o) ∧ ∀ i x, out[i]? = some x → (xs.mergeSort leB)[o + i]? = some x := by
 have num : ∀ n : Nat, n ≤ 29 → NumP (Lib.itoa (n : Int)) (n : Int) true := fun n hn => .inl ⟨rfl, by omega, by omega, rfl⟩
 obtain ⟨h1, om, mo, out, h2, hn, h3⟩ := srt_is (wish_l _ _) rfl rfl (fun t ht h9 => by
  simp only [List.mem_cons, List.not_mem_nil, or_false] at ht
  rcases ht with rfl | rfl
  ·exact absurd ((num o ho).uniq h9).2 (by decide)
  exact absurd ((num q hq).uniq h9).2 (by decide)) h
 obtain ⟨p', q', he, hp, hq'⟩ := hn rfl
 cases he
 obtain ⟨rfl, -⟩ := hp.uniq (num o ho)
 obtain ⟨rfl, -⟩ := hq'.uniq (num q hq)
 have hl : (xs.mergeSort leB).length = xs.length := List.length_mergeSort _
 refine ⟨h1, out, h2, ?_⟩
 rcases h3 with ⟨h3, -⟩ | ⟨-, h3, -⟩ | ⟨-, -, j, hj, ⟨h3, -⟩ | ⟨-, u, hu, h3⟩⟩
 ·cases h3
 ·omega
 ·omega
 simp only [Bool.false_eq_true, if_false] at hj hu h3
 rw [List.length_drop, hl] at hu
 rw [hl] at hj
 have hj2 : j = min o xs.length := by split at hj <;> omega
 have hu2 : u = min q (xs.length - o) := by split at hu <;> omega
 rw [h3]
 refine ⟨by rw [List.length_take, List.length_drop, hl]; omega, fun i x hx => ?_⟩
 rw [List.getElem?_take] at hx
 split at hx
 ·rw [List.getElem?_drop] at hx
  have := (List.getElem?_eq_some_iff.1 hx).1
  rw [hl] at this
  rw [show o + i = j + i by omega]; exact hx
 cases hx
theorem srt_le {i : Nat} {x y : List UInt8} (hi : 0 < i) (hx : (xs.mergeSort leB)[i]? = some x) (hy : (xs.mergeSort leB)[i - 1]? = some y) : Op.bytesLess x y = false := by
 have tr : ∀ a b c : List UInt8, leB a b = true → leB b c = true → leB a c = true := fun a b c h1 h2 => by simp only [leB, decide_eq_true_eq] at *; exact List.le_trans h1 h2
 have to : ∀ a b : List UInt8, (leB a b || leB b a) = true := fun a b => by simp only [leB, Bool.or_eq_true, decide_eq_true_eq]; exact List.le_total a b
 obtain ⟨h1, rfl⟩ := List.getElem?_eq_some_iff.1 hx
 obtain ⟨h2, rfl⟩ := List.getElem?_eq_some_iff.1 hy
 have h3 := List.pairwise_iff_getElem.1 (List.pairwise_mergeSort tr to xs) (i - 1) i h2 h1 (by omega)
 rw [leB_lt] at h3
 simpa using h3
theorem srt_back {i : Nat} {x : List UInt8} (hx : (xs.mergeSort leB)[i]? = some x) : (xs.mergeSort leB).reverse[xs.length - 1 - i]? = some x := by
 have hl : (xs.mergeSort leB).length = xs.length := List.length_mergeSort _
 have h1 := (List.getElem?_eq_some_iff.1 hx).1
 rw [List.getElem?_reverse (by omega), hl, show xs.length - 1 - (xs.length - 1 - i) = i by omega]
 exact hx
theorem srt_count (x : List UInt8) : (xs.mergeSort leB).count x = xs.count x := (List.mergeSort_perm xs leB).count_eq x
theorem count_next {l : List (List UInt8)} {i : Nat} {x y : List UInt8} (hx : l[i]? = some x) : (l.take (i + 1)).count y = (l.take i).count y + if x = y then 1 else 0 := by
 rw [take_next hx, List.count_append, List.count_singleton]
 congr 1
 by_cases h : x = y <;> simp [h]
theorem rp_one {B : Base} {l : List (List UInt8)} {cs : List Value} (h : RpAt B (rStrs l) cs) : ∃ la lc, cs = [vI 5, vS [], vI 0, .slice la l.length lc] ∧ (∀ (i : Nat) x, l[i]? = some x → ∃ b2 off2 v2, la = some ⟨b2, off2, none⟩ ∧ v2.cells = #[v2] ∧ v2.oneCell' = true ∧ Reads B [] b2 (off2 + i * 4) (rpCells 3 x 0 v2)) := by
 simp only [rStrs] at h
 obtain ⟨v, xs, rfl, ⟨ra, rc, rfl, hok, hr⟩, hs⟩ := h
 refine ⟨ra, rc, by rw [List.length_map], fun i x hx => ?_⟩
 obtain ⟨b2, off2, v2, y2, e2, h2, -, hr2⟩ := hs.reads (i := i) hr (show (l.map rStr)[i]? = some (Rp.mk 3 x 0 []) by rw [List.getElem?_map, hx]; rfl)
 exact ⟨b2, off2, v2, e2, h2.cells, h2.one, hr2⟩
theorem wrap30 (z : Int) : ∃ (r : Int) (n : Nat), z.tmod 30 = r ∧ -30 < r ∧ r < 30 ∧ (r + 30).tmod 30 = (n : Int) ∧ n ≤ 29 := by
 have h1 := Int.tmod_lt_of_pos z (show (0 : Int) < 30 by decide)
 have h2 : -30 < z.tmod 30 := by
  have := Int.tmod_lt_of_pos (-z) (show (0 : Int) < 30 by decide)
  rw [Int.neg_tmod] at this
  omega
 refine ⟨_, ((z.tmod 30 + 30) % 30).toNat, rfl, h2, h1, ?_, by omega⟩
 rw [Int.tmod_eq_emod_of_nonneg (by omega)]
 omega
end
theorem u64_mod (n : Int) : IntKind.u64.wrap n = n % 18446744073709551616 := by simp [IntKind.wrap, IntKind.signed, IntKind.bits]
theorem u64_neg (n : Int) (h0 : -9223372036854775808 ≤ n) (h1 : n < 0) : IntKind.u64.wrap (-(n % 18446744073709551616)) = (n.natAbs : Int) := by
 rw [u64_mod]; omega
theorem ex_neg64 {P : Program} {o : Oper} {a : Act} {w : World} {t : TypeId} {x : Operand} {m s : Int} (ho : o.op = .unOp .neg t x) (hx : a.eval x = .int .u64 m) (hs : IntKind.u64.wrap (-m) = s) : Ex P a o w (.int .u64 s) w := by
 subst hs; unfold Ex; simp [execOp, ho, hx, Op.unary, Op.intArith]
theorem rem10 (u : Nat) : ((u : Int)).tmod 10 = ((u % 10 : Nat) : Int) := by rw [Int.tmod_eq_emod_of_nonneg (by omega)]; omega
theorem quo10 (u : Nat) (h : u ≤ 9223372036854775808) : IntKind.u64.wrap ((u : Int).tdiv 10) = ((u / 10 : Nat) : Int) := by
 rw [Int.tdiv_eq_ediv_of_nonneg (by omega), u64_in (by omega)]; omega
theorem dec_big (u : Nat) (h : ¬ u < 10) : Lib.decDigits u = Lib.decDigits (u / 10) ++ [UInt8.ofNat (48 + u % 10)] := by rw [Lib.decDigits, dif_neg h]
theorem dec_small (u : Nat) (h : u < 10) : Lib.decDigits u = [UInt8.ofNat (48 + u % 10)] := by rw [Lib.decDigits, dif_pos h, Nat.mod_eq_of_lt h]
theorem dec_len (u : Nat) (h : u ≤ 9223372036854775808) : (Lib.decDigits u).length ≤ 19 := by
 have hp : (10 : Nat) ^ 19 = 10000000000000000000 := by decide
 rw [Lib.decDigits_length]
 exact nDigits_le 18 u (by rw [hp]; omega)
theorem u8_dig (u : Nat) : IntKind.u8.wrap ((48 + u % 10 : Nat) : Int) = ((UInt8.ofNat (48 + u % 10)).toNat : Int) := by
 rw [dig_toNat (Nat.mod_lt _ (by decide)), u8_in (by omega)]
theorem prmk5 : (Tryz.prog.info? 5).map (fun i => (i.zero, i.size, i.bytes)) = some (some (.int .u8 0), 1, 1) := by kernel_rfl
theorem prel31 : Elem Tryz.prog 31 5 (.int .u8 0) 1 1 := elem_of Tryz.underlying31 prmk5 (by rfl) (by decide)
theorem refPrint (B : Base) (H : List Res) (w : World) (n : Int) (h0 : -9223372036854775808 ≤ n) (h1 : n ≤ 9223372036854775807) (hv : Inv B H w) :
  Calls Tryz.prog 19 #[vI n] w fun e w' => e = .returned (vS (Lib.itoa n)) ∧ Inv B H w' := by
 refine cW Tryz.func19 rfl Tryz.ntmps19 ?_
 simp only [al]
 refine sK fun _ k1 => rL (uA rfl ?_)
 refine uW k1 (sK fun _ k2 => ?_)
 refine rL (uM rfl ?_)
 refine uG (.int .u64 (n % 18446744073709551616)) rfl (ex_int Tryz.underlying3 Tryz.underlying110 rfl rfl (u64_mod n)) (uA rfl ?_)
 refine uW k2 (sK fun _ k3 => ?_)
 refine rL (uA rfl ?_)
 refine uW k3 (sK fun _ k4 => ?_)
 refine sK fun _ k5 => rL (uM rfl ?_)
 by_cases hb6 : n < 0
 ·refine uG (.bool true) rfl (ex_lss rfl rfl rfl (qT hb6)) (uW k5 ?_)
  refine cT rfl (sK fun _ k7 => ?_)
  refine rL (uM rfl ?_)
  refine uG (.int .u64 (n.natAbs : Int)) rfl (ex_neg64 (m := (n % 18446744073709551616)) rfl rfl (u64_neg n h0 (by assumption))) (uA rfl ?_)
  refine uW k7 (rL ?_)
  refine uA rfl (uW k4 ?_)
  refine sK fun _ k8 => rL (uA rfl ?_)
  refine uW k8 (bB ?_)
  gi_loopw [3, 5] (fun x3 x5 wr => ∃ (u : Nat) (s : List UInt8), x3 = .int .u64 (u : Int) ∧ x5 = vS s ∧ Lib.decDigits n.natAbs = Lib.decDigits u ++ s ∧ u ≤ 9223372036854775808 ∧ Inv B H wr) (fun x3 x5 _ => (intOf x3).toNat)
  case atStart => exact ⟨n.natAbs, [], congrArg (Value.int .u64) (by omega), rfl, by simp, by omega, hv⟩
  case round =>
   obtain ⟨u, s, rfl, rfl, hd, hu, hv⟩ := hrel
   have hsl : s.length ≤ 19 := by have h9 := dec_len n.natAbs (by omega); rw [hd, List.length_append] at h9; omega
   refine bB (sK fun _ k10 => ?_)
   refine rL (uM rfl ?_)
   refine uG (.int .u64 ((u % 10 : Nat) : Int)) rfl (ex_rem (m := (u : Int)) (n := 10) rfl rfl rfl (by decide) (rem10 u)) ?_
   refine uG (.int .u64 ((48 + u % 10 : Nat) : Int)) rfl (ex_add rfl rfl rfl (by rw [u64_in (by omega)]; omega)) ?_
   refine uG (.int .u8 ((UInt8.ofNat (48 + u % 10)).toNat : Int)) rfl (ex_int Tryz.underlying110 Tryz.underlying5 rfl rfl (u8_dig u)) ?_
   refine sl_rowOne (v := .int .u8 ((UInt8.ofNat (48 + u % 10)).toNat : Int)) tV (wn rfl) rfl rfl hv prel31 rfl (fun b11 w12 hv => ?_)
   refine uG (.string ⟨[UInt8.ofNat (48 + u % 10)].toArray⟩) rfl (ex_str Tryz.underlying31 Tryz.underlying5 Tryz.underlying9 rfl rfl (bytes_all (l := [UInt8.ofNat (48 + u % 10)]) (hv.get 0 rfl)) (rfl)) (uM rfl ?_)
   refine uG (vS ([UInt8.ofNat (48 + u % 10)] ++ s)) rfl (ex_cat rfl rfl rfl (by simp only [List.length_cons, List.length_nil]; omega)) (uA rfl ?_)
   refine uW k10 (sK fun _ k13 => ?_)
   refine rL (uM rfl ?_)
   refine uG (.int .u64 ((u / 10 : Nat) : Int)) rfl (ex_quo (m := (u : Int)) (n := 10) rfl rfl rfl (by decide) (quo10 u hu)) (uA rfl ?_)
   refine uW k13 (sK fun _ k14 => ?_)
   refine rL (uM rfl ?_)
   by_cases hb15 : ((u / 10 : Nat) : Int) = 0
   ·refine uG (.bool true) rfl (ex_eql rfl rfl rfl (qT hb15)) (uW k14 ?_)
    refine cT rfl (sK fun _ k16 => ?_)
    refine rL (uM rfl ?_)
    refine uM rfl ?_
    refine uG (vS (([45] : List UInt8) ++ ([UInt8.ofNat (48 + u % 10)] ++ s))) rfl (ex_cat rfl rfl rfl (by simp only [List.length_append, List.length_cons, List.length_nil]; omega)) (uA rfl ?_)
    refine uW k16 (rR ?_)
    refine bZ (tR ?_)
    refine bZ (bR rfl rfl ?_)
    have hs : Lib.itoa n = ([45] : List UInt8) ++ ([UInt8.ofNat (48 + u % 10)] ++ s) := by
      unfold Lib.itoa
      rw [if_pos (by assumption)]
      rw [hd, dec_small u (by omega)]; simp
    rw [hs]; exact ⟨rfl, hv.drop⟩
   refine uG (.bool false) rfl (ex_eql rfl rfl rfl (qF hb15)) (uW k14 ?_)
   refine cF rfl (kS ?_)
   refine bN (then_normal ?_)
   go_roundw
   case rel => exact ⟨u / 10, [UInt8.ofNat (48 + u % 10)] ++ s, rfl, rfl, by rw [hd, dec_big u (by omega)]; simp, by omega, hv.drop⟩
   case measure => show (((u / 10 : Nat) : Int)).toNat < ((u : Int)).toNat; omega
 refine uG (.bool false) rfl (ex_lss rfl rfl rfl (qF hb6)) (uW k5 ?_)
 refine cF rfl (kS ?_)
 refine tK k4 (sK fun _ k17 => ?_)
 refine rL (uA rfl ?_)
 refine uW k17 (bB ?_)
 gi_loopw [3, 5] (fun x3 x5 wr => ∃ (u : Nat) (s : List UInt8), x3 = .int .u64 (u : Int) ∧ x5 = vS s ∧ Lib.decDigits n.natAbs = Lib.decDigits u ++ s ∧ u ≤ 9223372036854775808 ∧ Inv B H wr) (fun x3 x5 _ => (intOf x3).toNat)
 case atStart => exact ⟨n.natAbs, [], congrArg (Value.int .u64) (by omega), rfl, by simp, by omega, hv⟩
 case round =>
  obtain ⟨u, s, rfl, rfl, hd, hu, hv⟩ := hrel
  have hsl : s.length ≤ 19 := by have h9 := dec_len n.natAbs (by omega); rw [hd, List.length_append] at h9; omega
  refine bB (sK fun _ k19 => ?_)
  refine rL (uM rfl ?_)
  refine uG (.int .u64 ((u % 10 : Nat) : Int)) rfl (ex_rem (m := (u : Int)) (n := 10) rfl rfl rfl (by decide) (rem10 u)) ?_
  refine uG (.int .u64 ((48 + u % 10 : Nat) : Int)) rfl (ex_add rfl rfl rfl (by rw [u64_in (by omega)]; omega)) ?_
  refine uG (.int .u8 ((UInt8.ofNat (48 + u % 10)).toNat : Int)) rfl (ex_int Tryz.underlying110 Tryz.underlying5 rfl rfl (u8_dig u)) ?_
  refine sl_rowOne (v := .int .u8 ((UInt8.ofNat (48 + u % 10)).toNat : Int)) tV (wn rfl) rfl rfl hv prel31 rfl (fun b20 w21 hv => ?_)
  refine uG (.string ⟨[UInt8.ofNat (48 + u % 10)].toArray⟩) rfl (ex_str Tryz.underlying31 Tryz.underlying5 Tryz.underlying9 rfl rfl (bytes_all (l := [UInt8.ofNat (48 + u % 10)]) (hv.get 0 rfl)) (rfl)) (uM rfl ?_)
  refine uG (vS ([UInt8.ofNat (48 + u % 10)] ++ s)) rfl (ex_cat rfl rfl rfl (by simp only [List.length_cons, List.length_nil]; omega)) (uA rfl ?_)
  refine uW k19 (sK fun _ k22 => ?_)
  refine rL (uM rfl ?_)
  refine uG (.int .u64 ((u / 10 : Nat) : Int)) rfl (ex_quo (m := (u : Int)) (n := 10) rfl rfl rfl (by decide) (quo10 u hu)) (uA rfl ?_)
  refine uW k22 (sK fun _ k23 => ?_)
  refine rL (uM rfl ?_)
  by_cases hb24 : ((u / 10 : Nat) : Int) = 0
  ·refine uG (.bool true) rfl (ex_eql rfl rfl rfl (qT hb24)) (uW k23 ?_)
   refine cT rfl (sK fun _ k25 => ?_)
   refine rL (uM rfl ?_)
   refine uM rfl ?_
   refine uG (vS (([] : List UInt8) ++ ([UInt8.ofNat (48 + u % 10)] ++ s))) rfl (ex_cat rfl rfl rfl (by simp only [List.length_append, List.length_cons, List.length_nil]; omega)) (uA rfl ?_)
   refine uW k25 (rR ?_)
   refine bZ (tR ?_)
   refine bZ (bR rfl rfl ?_)
   have hs : Lib.itoa n = ([] : List UInt8) ++ ([UInt8.ofNat (48 + u % 10)] ++ s) := by
     unfold Lib.itoa
     rw [if_neg (by assumption), show n.toNat = n.natAbs by omega]
     rw [hd, dec_small u (by omega)]; simp
   rw [hs]; exact ⟨rfl, hv.drop⟩
  refine uG (.bool false) rfl (ex_eql rfl rfl rfl (qF hb24)) (uW k23 ?_)
  refine cF rfl (kS ?_)
  refine bN (then_normal ?_)
  go_roundw
  case rel => exact ⟨u / 10, [UInt8.ofNat (48 + u % 10)] ++ s, rfl, rfl, by rw [hd, dec_big u (by omega)]; simp, by omega, hv.drop⟩
  case measure => show (((u / 10 : Nat) : Int)).toNat < ((u : Int)).toNat; omega
theorem sortedA : SortedOk true := fun B H w xa xc xs h1 h2 h3 _ hv => (ckSortedA B H w xa xc xs h1 h2 h3 hv).mono fun e w' ⟨oa, oc, he, hi⟩ => ⟨B, oa, oc, xs.mergeSort leB, 0, Base.Le.refl _, by rw [List.length_mergeSort]; exact he, ⟨fun _ => ⟨rfl, rfl⟩, by rw [List.length_mergeSort]; exact Nat.le_refl _⟩, by rw [List.length_mergeSort]; exact hi⟩
theorem kLcallable8 : Callable Tryz.prog 8 := cb Tryz.func8 (by kernel_rfl)
theorem kLcallable17 : Callable Tryz.prog 17 := cb Tryz.func17 (by kernel_rfl)
theorem kLal34 : AL Tryz.prog 34 [vI 0, vS [], vI 0, vN] := fun w => by kernel_rfl
theorem kLea59 (w : World) : (sizeOf 3).run Tryz.prog w = .ok 1 w := by kernel_rfl
theorem kLua59 : Tryz.prog.underlying 59 = some (.array 2 3) := by kernel_rfl
theorem kLcallable19 : Callable Tryz.prog 19 := cb Tryz.func19 (by kernel_rfl)
theorem ckSortsMain (B : Base) (H : List Res) (w : World) (xa : Option Addr) (xc : Nat) (xs : List (List UInt8)) (hokx : SliceOk xa xs.length xc) (hrx : RdV B [] xa (textCells xs)) (n0 n1 : Int) (hN : NumB B) (hv : Inv B H w) :
  Calls Tryz.prog 5 #[.slice xa xs.length xc, .agg #[vI n0, vI n1]] w fun e w' => e = .returned (.bool true) ∧ Inv B H w' := by
 obtain ⟨q1, u1, hq11, hq12, hq13, hrn1, hu1⟩ := wrap30 n0
 obtain ⟨q2, u2, hq21, hq22, hq23, hrn2, hu2⟩ := wrap30 n1
 refine cW Tryz.func5 rfl Tryz.ntmps5 ?_
 simp only [al]
 refine sK fun _ k1 => rL (sl_box (L := [vI n0, vI n1]) tV (wn rfl) rfl rfl hv (fun w => by kernel_rfl) (fun b2 w3 hv => ?_))
 refine uA rfl (uW k1 ?_)
 refine sK fun _ k4 => sK fun _ k5 => rL (xC kLcallable8 rfl ((lawAwake26 B _ _ (hN.more (Base.Le.refl _)) hv).mono ?_) rfl)
 rintro e w6 ⟨rfl, hv⟩
 refine ⟨_, rfl, uG (.bool false) rfl (ex_not rfl rfl rfl) ?_⟩
 refine uM rfl ?_
 refine uM rfl ?_
 refine uG (vI (xs.length : Int)) rfl (ex_len0 Tryz.underlying26 rfl rfl) ?_
 by_cases hb7 : (xs.length : Int) = 0
 ·refine uG (.bool true) rfl (ex_eql rfl rfl rfl (qT hb7)) (uK rfl ?_)
  refine uM rfl ?_
  iterate 3 refine uP rfl ?_
  refine uK rfl (uW k5 ?_)
  refine cT rfl (sK fun _ k8 => ?_)
  refine rL (xC kLcallable8 rfl ((lawAwake26 B _ _ (hN.more (Base.Le.refl _)) hv).mono ?_) rfl)
  rintro e w9 ⟨rfl, hv⟩
  refine ⟨_, rfl, uA rfl ?_⟩
  refine uW k8 (rR ?_)
  refine tR (bR rfl rfl ?_)
  exact ⟨rfl, ((hv.kp [] 0 1)).weak (Base.Le.refl _)⟩
 refine uG (.bool false) rfl (ex_eql rfl rfl rfl (qF hb7)) (uK rfl ?_)
 refine uM rfl ?_
 refine uM rfl ?_
 refine uG (vI (xs.length : Int)) rfl (ex_len0 Tryz.underlying26 rfl rfl) ?_
 by_cases hb10 : (xs.length : Int) > 30
 ·refine uG (.bool true) rfl (ex_gtr rfl rfl rfl (qT hb10)) (uK rfl ?_)
  refine uW k5 (cT rfl ?_)
  refine sK fun _ k11 => rL (xC kLcallable8 rfl ((lawAwake26 B _ _ (hN.more (Base.Le.refl _)) hv).mono ?_) rfl)
  rintro e w12 ⟨rfl, hv⟩
  refine ⟨_, rfl, uA rfl ?_⟩
  refine uW k11 (rR ?_)
  refine tR (bR rfl rfl ?_)
  exact ⟨rfl, ((hv.kp [] 0 1)).weak (Base.Le.refl _)⟩
 refine uG (.bool false) rfl (ex_gtr rfl rfl rfl (qF hb10)) (uK rfl ?_)
 refine uW k5 (cF rfl ?_)
 refine kS (tK k4 ?_)
 refine sK fun _ k13 => sK fun _ k14 => rL (uA rfl ?_)
 refine uW k14 (bB ?_)
 gi_loopw [5] (fun x5 wr => ∃ (i0 : Nat), x5 = vI i0 ∧ i0 ≤ xs.length ∧ (∀ x ∈ xs.take i0, x.length ≤ 300) ∧ Inv B (Res.cell b2 [vI n0, vI n1] 59 :: H) wr) (fun x5 _ => xs.length - (intOf x5).toNat)
 case atStart => exact ⟨0, rfl, Nat.zero_le _, fun x h => (by cases h), hv⟩
 case round =>
  obtain ⟨i0, rfl, hi, hall, hv⟩ := hrel
  refine sK fun _ k16 => sK fun _ k17 => rL (uM rfl ?_)
  refine uM rfl ?_
  refine uG (vI (xs.length : Int)) rfl (ex_len0 Tryz.underlying26 rfl rfl) ?_
  by_cases hb18 : (i0 : Int) < (xs.length : Int)
  ·refine uG (.bool true) rfl (ex_lss rfl rfl rfl (qT hb18)) (uW k17 ?_)
   refine cT rfl (kS ?_)
   refine tK k16 (sK fun _ k19 => ?_)
   refine bB (sK fun _ k20 => ?_)
   obtain ⟨x, hx⟩ : ∃ x, xs[i0]? = some x := ⟨_, List.getElem?_eq_getElem (show i0 < xs.length by omega)⟩
   obtain ⟨xb, xo, had, hrdx⟩ := text_reads hrx hx
   subst had
   refine rL (uM rfl ?_)
   refine uM rfl ?_
   refine uG (.pointer (some ⟨xb, xo + i0, none⟩)) rfl (ex_index rfl rfl rfl (run_idx1 (k := i0) Tryz.underlying26 s9es26 (by omega))) ?_
   refine uL _ rfl (run_load1 s9na9 (hrdx _ _ _ (Base.Le.refl _) no_res hv 0 _ rfl)) ?_
   refine uG (vI (x.length : Int)) rfl (ex_lenStr Tryz.underlying9 rfl rfl) ?_
   by_cases hb21 : (x.length : Int) > 300
   ·refine uG (.bool true) rfl (ex_gtr rfl rfl rfl (qT hb21)) (uW k20 ?_)
    refine cT rfl (sK fun _ k22 => ?_)
    refine rL (uA rfl ?_)
    refine uW k22 (rR ?_)
    refine bZ (tR ?_)
    refine tR (bZ ?_)
    refine tR (bR rfl rfl ?_)
    exact ⟨rfl, ((hv.kp [] 0 1)).weak (Base.Le.refl _)⟩
   refine uG (.bool false) rfl (ex_gtr rfl rfl rfl (qF hb21)) (uW k20 ?_)
   refine cF rfl (kS ?_)
   refine bN (tK k19 ?_)
   refine rL (uM rfl ?_)
   refine uG (vI ((i0 + 1 : Nat) : Int)) rfl (ex_add rfl rfl rfl (by rw [i64_in (by omega)]; omega)) (uA rfl ?_)
   refine uZ (then_normal ?_)
   simp only [vI]
   go_roundw
   case rel => exact ⟨i0 + 1, rfl, by omega, fun y hy => (by rw [take_next hx] at hy; rcases List.mem_append.1 hy with h9 | h9; exact hall y h9; rw [List.mem_singleton.1 h9]; omega), hv⟩
   case measure => show xs.length - (((i0 + 1 : Nat) : Int)).toNat < xs.length - ((i0 : Int)).toNat; omega
  refine uG (.bool false) rfl (ex_lss rfl rfl rfl (qF hb18)) (uW k17 ?_)
  refine cF rfl (xE ?_)
  refine tX (tX ?_)
  refine bH (tK k13 ?_)
  refine sK fun _ k23 => rL ?_
  obtain rfl : i0 = xs.length := by omega
  rw [List.take_length] at hall
  refine xC k3callable15 rfl ((lawOpened26 B _ _ 0 (by omega) (by omega) hv).mono ?_) rfl
  rintro e w24 ⟨v, t, m, s, p, wb, va, vc, sv, rfl, hv⟩
  refine ⟨_, rfl, uA rfl ?_⟩
  refine uW k23 (sK fun _ k25 => ?_)
  refine rL (uM rfl ?_)
  refine uM rfl ?_
  refine uG (.agg #[vI 3, vS [], vN, .slice xa xs.length xc, vN]) rfl (ex_buildN (vs := #[(0, vI 3), (3, .slice xa xs.length xc)]) rfl (by simp only [List.map_toArray, List.map_cons, List.map_nil]; rfl) (by kernel_rfl)) ?_
  replace hv := hv.front 1 rfl
  simp only [eS, eZ] at hv
  replace hv := hv.front 1 rfl
  simp only [eS, eZ] at hv
  refine xC k3callable16 rfl ((viewKeep B _ _ v t m s p wb va vc sv 0 [] [] [108] (lsV xs) (vN) (.slice xa xs.length xc) (vN) 0 (show VM B [] [] from trivial) ⟨⟨none, 0, rfl, ⟨Nat.le_refl _, Nat.zero_le _, fun _ => rfl⟩, rdV_nil⟩, ⟨xa, xc, rfl, hokx, hrx⟩, ⟨none, 0, rfl, ⟨Nat.le_refl _, Nat.zero_le _, fun _ => rfl⟩, rdV_nil⟩, Nat.zero_le _, (by show xs.length ≤ 1000000; omega), Nat.zero_le _⟩ hv).mono ?_) rfl
  rintro e w26 ⟨D, es1, M1, e1, hD, rfl, hM1, hkp, hv⟩
  refine ⟨_, rfl, ?_⟩
  obtain rfl := ls_keep (by omega) (by omega) hall hkp
  obtain ⟨ss, hss⟩ : ∃ ss, ss = xs.mergeSort leB := ⟨_, rfl⟩
  have hsl : ss.length = xs.length := by rw [hss]; exact List.length_mergeSort _
  have hrl : ss.reverse.length = xs.length := by rw [List.length_reverse]; exact hsl
  refine uW k25 (sK fun _ k27 => ?_)
  refine rL (uM rfl ?_)
  refine sl_rowN (pv := #[(0, vS [83, 79, 82, 84]), (1, vS [108]), (2, vS [65, 76, 80, 72, 65])]) (L := [vS [83, 79, 82, 84], vS [108], vS [65, 76, 80, 72, 65]]) (e := 9) tV (wn rfl) rfl (by simp only [List.map_toArray, List.map_cons, List.map_nil]; rfl) hv (fun w => by kernel_rfl) (fun b28 w29 hv => ?_)
  simp only [zP, po]
  obtain ⟨D30, hD30, hv, hrD30, hoD30, -⟩ := (hv.cellRow (n := 3) (c := 3) (size := 1) rfl (by decide) (by decide)).rowBy
  replace hv := hv.front 1 rfl
  simp only [eS, eZ] at hv
  replace hv := hv.front 1 rfl
  simp only [eS, eZ] at hv
  refine xC kLcallable17 rfl ((lawDo26 D30 _ _ v t m s p wb va vc sv 0 es1 [([108], (⟨0, false, 0, lsV xs⟩ : Ver))] (hM1.more hD30) _ _ ([83, 79, 82, 84] : List UInt8) [([108] : List UInt8), ([65, 76, 80, 72, 65] : List UInt8)] hrD30 hoD30 (Nat.le_of_ble_eq_true rfl) (([83, 79, 82, 84] : List UInt8), 1, -1) (by decide) rfl (by show (1 : Int) ≤ 2; decide) (.inl (by decide)) (fun M' r => SrtR [([108], (⟨0, false, 0, lsV xs⟩ : Ver))] 0 [108] (List.drop 1 [([108] : List UInt8), ([65, 76, 80, 72, 65] : List UInt8)]) M' r) (fun aa ac C H2 w2 hok9 hr9 hC9 hv9 => ckDoSort C H2 w2 v t m s p wb va vc sv 0 es1 [([108], (⟨0, false, 0, lsV xs⟩ : Ver))] ((hM1.more hD30).more hC9) aa ac [([108] : List UInt8), ([65, 76, 80, 72, 65] : List UInt8)] hr9 hok9 (Nat.le_of_ble_eq_true rfl) [108] rfl (fun q hq => by simp only [List.mem_cons, List.not_mem_nil, or_false] at hq; rcases hq with rfl | rfl <;> decide) (hN.more ((hD.trans hD30).trans hC9)) (fun s9 hs9 => by have h9 := wish_a.symm.trans hs9; cases h9; exact sortedA) hv9) hv).mono ?_) rfl
  rintro e w31 ⟨F1, es2, M2, r1, cs1, hF1, rfl, hrp1, hM2, hq1, hv⟩
  refine ⟨_, rfl, ?_⟩
  obtain ⟨rfl, hr1⟩ := srt_a hq1
  rw [hr1, ← hss] at hrp1
  obtain ⟨la1, lc1, hcs1, hel1⟩ := rp_one hrp1
  rw [hsl] at hcs1
  subst hcs1
  refine uM rfl ?_
  refine sl_rowN (pv := #[(0, vS [83, 79, 82, 84]), (1, vS [108]), (2, vS [65, 76, 80, 72, 65]), (3, vS [68, 69, 83, 67])]) (L := [vS [83, 79, 82, 84], vS [108], vS [65, 76, 80, 72, 65], vS [68, 69, 83, 67]]) (e := 9) tV (wn rfl) rfl (by simp only [List.map_toArray, List.map_cons, List.map_nil]; rfl) hv (fun w => by kernel_rfl) (fun b32 w33 hv => ?_)
  simp only [zP, po]
  obtain ⟨D34, hD34, hv, hrD34, hoD34, -⟩ := (hv.cellRow (n := 4) (c := 4) (size := 1) rfl (by decide) (by decide)).rowBy
  replace hv := hv.front 1 rfl
  simp only [eS, eZ] at hv
  replace hv := hv.front 1 rfl
  simp only [eS, eZ] at hv
  refine xC kLcallable17 rfl ((lawDo26 D34 _ _ v t m s p wb va vc sv 0 es2 [([108], (⟨0, false, 0, lsV xs⟩ : Ver))] (hM2.more hD34) _ _ ([83, 79, 82, 84] : List UInt8) [([108] : List UInt8), ([65, 76, 80, 72, 65] : List UInt8), ([68, 69, 83, 67] : List UInt8)] hrD34 hoD34 (Nat.le_of_ble_eq_true rfl) (([83, 79, 82, 84] : List UInt8), 1, -1) (by decide) rfl (by show (1 : Int) ≤ 3; decide) (.inl (by decide)) (fun M' r => SrtR [([108], (⟨0, false, 0, lsV xs⟩ : Ver))] 0 [108] (List.drop 1 [([108] : List UInt8), ([65, 76, 80, 72, 65] : List UInt8), ([68, 69, 83, 67] : List UInt8)]) M' r) (fun aa ac C H2 w2 hok9 hr9 hC9 hv9 => ckDoSort C H2 w2 v t m s p wb va vc sv 0 es2 [([108], (⟨0, false, 0, lsV xs⟩ : Ver))] ((hM2.more hD34).more hC9) aa ac [([108] : List UInt8), ([65, 76, 80, 72, 65] : List UInt8), ([68, 69, 83, 67] : List UInt8)] hr9 hok9 (Nat.le_of_ble_eq_true rfl) [108] rfl (fun q hq => by simp only [List.mem_cons, List.not_mem_nil, or_false] at hq; rcases hq with rfl | rfl | rfl <;> decide) (hN.more ((((hD.trans hD30).trans hF1).trans hD34).trans hC9)) (fun s9 hs9 => by have h9 := wish_d.symm.trans hs9; cases h9; exact sortedA) hv9) hv).mono ?_) rfl
  rintro e w35 ⟨F2, es3, M3, r2, cs2, hF2, rfl, hrp2, hM3, hq2, hv⟩
  refine ⟨_, rfl, ?_⟩
  obtain ⟨rfl, hr2⟩ := srt_d hq2
  rw [hr2, ← hss] at hrp2
  obtain ⟨la2, lc2, hcs2, hel2⟩ := rp_one hrp2
  rw [hrl] at hcs2
  subst hcs2
  simp only [zP, po]
  refine sl_alloc tV (wn rfl) rfl hv kLal34 (fun b36 w37 hv => ?_)
  simp only [zP, po]
  refine sl_alloc tV (wn rfl) rfl hv kLal34 (fun b38 w39 hv => ?_)
  simp only [zP, po]
  refine xS 1 rfl hv rssz34 rfl (by exact ⟨rfl, rfl, rfl, rfl, trivial⟩) (fun w40 hv => ?_)
  simp only [zS, zO, sp] at hv
  simp only [zP, po]
  refine xS 0 rfl hv rssz34 rfl (by exact ⟨rfl, rfl, rfl, rfl, trivial⟩) (fun w41 hv => ?_)
  simp only [zO, sp] at hv
  refine uW k27 (sK fun _ k42 => ?_)
  refine sK fun _ k43 => rL (uF (.pointer (some ⟨b36, 3, none⟩)) rfl (rtfa34_3 _ _ _) ?_)
  refine uL _ rfl (run_load1 rtna32 (hv.load 1 3 rfl rfl)) ?_
  refine uG (vI (xs.length : Int)) rfl (ex_len0 Tryz.underlying32 rfl rfl) (uM rfl ?_)
  refine uG (vI (xs.length : Int)) rfl (ex_len0 Tryz.underlying26 rfl rfl) ?_
  refine uG (.bool false) rfl (ex_neq rfl rfl rfl (qF (fun h9 => h9 rfl))) (uM rfl ?_)
  refine uF (.pointer (some ⟨b38, 3, none⟩)) rfl (rtfa34_3 _ _ _) ?_
  refine uL _ rfl (run_load1 rtna32 (hv.load 0 3 rfl rfl)) ?_
  refine uG (vI (xs.length : Int)) rfl (ex_len0 Tryz.underlying32 rfl rfl) ?_
  refine uM rfl ?_
  refine uG (vI (xs.length : Int)) rfl (ex_len0 Tryz.underlying26 rfl rfl) ?_
  refine uG (.bool false) rfl (ex_neq rfl rfl rfl (qF (fun h9 => h9 rfl))) (uK rfl ?_)
  refine uW k43 (cF rfl ?_)
  refine kS (tK k42 ?_)
  refine sK fun _ k44 => sK fun _ k45 => rL (uA rfl ?_)
  refine uW k45 (bB ?_)
  gi_loopw [9] (fun x9 wr => ∃ (i : Nat), x9 = vI i ∧ i ≤ xs.length ∧ Inv F2 (Res.cell b38 [vI 5, vS [], vI 0, .slice la2 xs.length lc2] 34 :: Res.cell b36 [vI 5, vS [], vI 0, .slice la1 xs.length lc1] 34 :: Res.cell v [.iface 100 (vP t)] 56 :: txR t m s p wb va vc sv 0 es3 :: Res.cell b2 [vI n0, vI n1] 59 :: H) wr) (fun x9 _ => xs.length - (intOf x9).toNat)
  case atStart => exact ⟨0, rfl, Nat.zero_le _, hv⟩
  case round =>
   obtain ⟨i, rfl, hi, hv⟩ := hrel
   refine sK fun _ k47 => sK fun _ k48 => rL (uM rfl ?_)
   refine uF (.pointer (some ⟨b36, 3, none⟩)) rfl (rtfa34_3 _ _ _) ?_
   refine uL _ rfl (run_load1 rtna32 (hv.load 1 3 rfl rfl)) ?_
   refine uG (vI (xs.length : Int)) rfl (ex_len0 Tryz.underlying32 rfl rfl) ?_
   by_cases hb49 : (i : Int) < (xs.length : Int)
   ·refine uG (.bool true) rfl (ex_lss rfl rfl rfl (qT hb49)) (uW k48 ?_)
    refine cT rfl (kS ?_)
    refine tK k47 (sK fun _ k50 => ?_)
    refine bB (sK fun K51 k51 => ?_)
    obtain ⟨y, hy⟩ : ∃ x, ss[i]? = some x := ⟨_, List.getElem?_eq_getElem (show i < ss.length by omega)⟩
    have hyb : ss.reverse[(xs.length - 1 - i : Nat)]? = some y := by rw [hss] at hy ⊢; exact srt_back hy
    obtain ⟨eb1, eo1, p1v, p1d, -, -, p1r⟩ := hel1 i y hy
    subst p1d
    obtain ⟨eb2, eo2, p2v, p2d, -, -, p2r⟩ := hel2 (xs.length - 1 - i : Nat) y hyb
    subst p2d
    have hJ51 : ∀ (j4 j74 j75 j76 j77 j78 j79 j80 j81 j82 j83 j84 j85 j86 j87 j88 j89 j90 j91 j92 j93 j94 j95 j96 j97 j98 j99 j100 j101 j102 j103 j104 j105 j106 j107 j108 j109 j110 : Value) (w52 : World), Inv F2 (Res.cell b38 [vI 5, vS [], vI 0, .slice (some ⟨eb2, eo2, none⟩) xs.length lc2] 34 :: Res.cell b36 [vI 5, vS [], vI 0, .slice (some ⟨eb1, eo1, none⟩) xs.length lc1] 34 :: Res.cell v [.iface 100 (vP t)] 56 :: txR t m s p wb va vc sv 0 es3 :: Res.cell b2 [vI n0, vI n1] 59 :: H) w52 → K51 { tmps := List.toArray (.slice xa xs.length xc :: .agg #[vI n0, vI n1] :: undef :: vP b2 :: j4 :: vI (xs.length : Int) :: vP v :: vP b36 :: vP b38 :: vI i :: u10 :: u11 :: u12 :: undef :: undef :: undef :: undef :: .bool true :: .bool false :: .bool false :: .slice xa xs.length xc :: vI (xs.length : Int) :: .bool false :: .bool false :: .bool false :: .slice xa xs.length xc :: vI (xs.length : Int) :: .bool false :: .bool false :: undef :: vI (xs.length : Int) :: .slice xa xs.length xc :: vI (xs.length : Int) :: .bool false :: u34 :: u35 :: u36 :: u37 :: u38 :: u39 :: u40 :: u41 :: vP v :: vP v :: .slice xa xs.length xc :: .agg #[vI 3, vS [], vN, .slice xa xs.length xc, vN] :: vI e1 :: vP v :: .slice (some ⟨b28, 0, none⟩) 3 3 :: .agg #[vI 5, vS [], vI 0, .slice (some ⟨eb1, eo1, none⟩) xs.length lc1] :: vP v :: .slice (some ⟨b32, 0, none⟩) 4 4 :: .agg #[vI 5, vS [], vI 0, .slice (some ⟨eb2, eo2, none⟩) xs.length lc2] :: .pointer (some ⟨b36, 3, none⟩) :: .slice (some ⟨eb1, eo1, none⟩) xs.length lc1 :: vI (xs.length : Int) :: .slice xa xs.length xc :: vI (xs.length : Int) :: .bool false :: .bool false :: .pointer (some ⟨b38, 3, none⟩) :: .slice (some ⟨eb2, eo2, none⟩) xs.length lc2 :: vI (xs.length : Int) :: .slice xa xs.length xc :: vI (xs.length : Int) :: .bool false :: .bool false :: vI i :: .pointer (some ⟨b36, 3, none⟩) :: .slice (some ⟨eb1, eo1, none⟩) xs.length lc1 :: vI (xs.length : Int) :: .bool true :: u72 :: u73 :: j74 :: j75 :: j76 :: j77 :: j78 :: j79 :: j80 :: j81 :: j82 :: j83 :: j84 :: j85 :: j86 :: j87 :: j88 :: j89 :: j90 :: j91 :: j92 :: j93 :: j94 :: j95 :: j96 :: j97 :: j98 :: j99 :: j100 :: j101 :: j102 :: j103 :: j104 :: j105 :: j106 :: j107 :: j108 :: j109 :: j110 :: u111 :: u112 :: u113 :: u114 :: u115 :: u116 :: u117 :: u118 :: u119 :: u120 :: u121 :: u122 :: u123 :: u124 :: u125 :: u126 :: u127 :: u128 :: u129 :: u130 :: u131 :: u132 :: u133 :: u134 :: u135 :: u136 :: u137 :: u138 :: u139 :: u140 :: u141 :: u142 :: u143 :: u144 :: u145 :: u146 :: u147 :: undef :: undef :: undef :: undef :: undef :: undef :: undef :: undef :: undef :: undef :: undef :: undef :: undef :: undef :: undef :: undef :: undef :: undef :: undef :: undef :: undef :: undef :: undef :: undef :: undef :: undef :: undef :: undef :: undef :: undef :: undef :: undef :: undef :: undef :: undef :: undef :: undef :: undef :: undef :: undef :: undef :: undef :: undef :: undef :: undef :: undef :: undef :: undef :: undef :: undef :: []), defers := [] } w52 := by
     intro j4 j74 j75 j76 j77 j78 j79 j80 j81 j82 j83 j84 j85 j86 j87 j88 j89 j90 j91 j92 j93 j94 j95 j96 j97 j98 j99 j100 j101 j102 j103 j104 j105 j106 j107 j108 j109 j110 w52 hv
     refine k51 _ _ (sK fun _ k53 => ?_)
     refine rL (uA rfl ?_)
     refine uA rfl (uW k53 ?_)
     refine sK fun _ k54 => sK fun _ k55 => rL (uA rfl ?_)
     refine uW k55 (bB ?_)
     gi_loopw [10, 11, 12] (fun x10 x11 x12 wr => ∃ (k a b : Nat), x10 = vI a ∧ x11 = vI b ∧ x12 = vI k ∧ k ≤ xs.length ∧ a = (xs.take k).count y ∧ b = (ss.take k).count y ∧ Inv F2 (Res.cell b38 [vI 5, vS [], vI 0, .slice (some ⟨eb2, eo2, none⟩) xs.length lc2] 34 :: Res.cell b36 [vI 5, vS [], vI 0, .slice (some ⟨eb1, eo1, none⟩) xs.length lc1] 34 :: Res.cell v [.iface 100 (vP t)] 56 :: txR t m s p wb va vc sv 0 es3 :: Res.cell b2 [vI n0, vI n1] 59 :: H) wr) (fun x10 x11 x12 _ => xs.length - (intOf x12).toNat)
     case atStart => exact ⟨0, 0, 0, rfl, rfl, rfl, Nat.zero_le _, rfl, rfl, hv⟩
     case round =>
      obtain ⟨k, a, b, rfl, rfl, rfl, hk, ha, hb, hv⟩ := hrel
      have hak : a ≤ k := by rw [ha]; exact Nat.le_trans List.count_le_length (by rw [List.length_take]; omega)
      have hbk : b ≤ k := by rw [hb]; exact Nat.le_trans List.count_le_length (by rw [List.length_take]; omega)
      refine sK fun _ k57 => sK fun _ k58 => rL (uM rfl ?_)
      refine uM rfl ?_
      refine uG (vI (xs.length : Int)) rfl (ex_len0 Tryz.underlying26 rfl rfl) ?_
      by_cases hb59 : (k : Int) < (xs.length : Int)
      ·refine uG (.bool true) rfl (ex_lss rfl rfl rfl (qT hb59)) (uW k58 ?_)
       refine cT rfl (kS ?_)
       refine tK k57 (sK fun _ k60 => ?_)
       refine bB (sK fun _ k61 => ?_)
       refine sK fun _ k62 => ?_
       obtain ⟨x, hx⟩ : ∃ x, xs[k]? = some x := ⟨_, List.getElem?_eq_getElem (show k < xs.length by omega)⟩
       obtain ⟨xb, xo, had, hrdx⟩ := text_reads hrx hx
       subst had
       refine rW mixed [] [0,1,2,3,4,5,6,7,8,9,10] 198 rfl (by kernel_rfl) hv ?_
       simp only [qm, opAt]
       refine dM (.slice (some ⟨xb, xo, none⟩) xs.length xc) rfl (dM (vI k) rfl ?_)
       refine dG (.pointer (some ⟨xb, xo + k, none⟩)) rfl (ex_index rfl rfl rfl (run_idx1 (k := k) Tryz.underlying26 s9es26 (by omega))) ?_
       simp only [zP, po]
       refine dL _ rfl (fun hv => ex_load rfl rfl (run_load1 s9na9 (hrdx _ _ _ ((((hD.trans hD30).trans hF1).trans hD34).trans hF2) no_res hv 0 _ rfl))) (dG (.pointer (some ⟨b36, 3, none⟩)) rfl (ex_field rfl rfl (rtfa34_3 _ _ _)) ?_)
       refine dL _ rfl (fun hv => ex_load rfl rfl (run_load1 rtna32 (hv.load 1 3 rfl rfl))) ?_
       simp only [zP, po]
       refine dM (vI i) rfl (dG (.pointer (some ⟨eb1, eo1 + i * 4, none⟩)) rfl (ex_index rfl rfl rfl (run_idx (k := i) Tryz.underlying32 k0es32 (by omega))) ?_)
       refine dG (.pointer (some ⟨eb1, eo1 + i * 4 + 1, none⟩)) rfl (ex_field rfl rfl (k0fa34_1 _ _ _)) ?_
       simp only [zP, po]
       refine dL _ rfl (fun hv => ex_load rfl rfl (run_load1 s9na9 (p1r _ _ _ (hD34.trans hF2) no_res hv 1 _ rfl))) ?_
       by_cases hb63 : x = y
       ·refine dG (.bool true) rfl (ex_seql rfl rfl rfl (qT hb63)) (dE fun w64 hv => ?_)
        simp only [zP, po]
        refine tK k62 (cT rfl ?_)
        refine rL (uM rfl ?_)
        refine uG (vI ((a + 1 : Nat) : Int)) rfl (ex_add rfl rfl rfl (by rw [i64_in (by omega)]; omega)) (uA rfl ?_)
        refine uW k61 (sK fun _ k65 => ?_)
        obtain ⟨z, hz⟩ : ∃ x, ss[k]? = some x := ⟨_, List.getElem?_eq_getElem (show k < ss.length by omega)⟩
        obtain ⟨p4b, p4o, p4v, p4d, -, -, p4r⟩ := hel1 k z hz
        cases p4d
        refine rW mixed [] [0,1,2,3,4,5,6,7,8,9,10,11,12] 198 rfl (by kernel_rfl) hv ?_
        simp only [qm, opAt]
        refine dG (.pointer (some ⟨b36, 3, none⟩)) rfl (ex_field rfl rfl (rtfa34_3 _ _ _)) (dL _ rfl (fun hv => ex_load rfl rfl (run_load1 rtna32 (hv.load 1 3 rfl rfl))) ?_)
        refine dM (vI k) rfl ?_
        simp only [zP, po]
        refine dG (.pointer (some ⟨eb1, eo1 + k * 4, none⟩)) rfl (ex_index rfl rfl rfl (run_idx (k := k) Tryz.underlying32 k0es32 (by omega))) (dG (.pointer (some ⟨eb1, eo1 + k * 4 + 1, none⟩)) rfl (ex_field rfl rfl (k0fa34_1 _ _ _)) ?_)
        refine dL _ rfl (fun hv => ex_load rfl rfl (run_load1 s9na9 (p4r _ _ _ (hD34.trans hF2) no_res hv 1 _ rfl))) ?_
        simp only [zP, po]
        refine dG (.pointer (some ⟨b36, 3, none⟩)) rfl (ex_field rfl rfl (rtfa34_3 _ _ _)) (dL _ rfl (fun hv => ex_load rfl rfl (run_load1 rtna32 (hv.load 1 3 rfl rfl))) ?_)
        refine dM (vI i) rfl ?_
        simp only [zP, po]
        refine dG (.pointer (some ⟨eb1, eo1 + i * 4, none⟩)) rfl (ex_index rfl rfl rfl (run_idx (k := i) Tryz.underlying32 k0es32 (by omega))) (dG (.pointer (some ⟨eb1, eo1 + i * 4 + 1, none⟩)) rfl (ex_field rfl rfl (k0fa34_1 _ _ _)) ?_)
        refine dL _ rfl (fun hv => ex_load rfl rfl (run_load1 s9na9 (p1r _ _ _ (hD34.trans hF2) no_res hv 1 _ rfl))) ?_
        simp only [zP, po]
        by_cases hb66 : z = y
        ·refine dG (.bool true) rfl (ex_seql rfl rfl rfl (qT hb66)) (dE fun w67 hv => ?_)
         simp only [zP, po]
         refine tK k65 (cT rfl ?_)
         refine rL (uM rfl ?_)
         refine uG (vI ((b + 1 : Nat) : Int)) rfl (ex_add rfl rfl rfl (by rw [i64_in (by omega)]; omega)) (uA rfl ?_)
         refine uZ (bN ?_)
         refine tK k60 (rL ?_)
         refine uM rfl ?_
         refine uG (vI ((k + 1 : Nat) : Int)) rfl (ex_add rfl rfl rfl (by rw [i64_in (by omega)]; omega)) (uA rfl ?_)
         refine uZ (then_normal ?_)
         simp only [vP, vI, vS, vN]
         go_roundw
         case rel => exact ⟨k + 1, a + 1, b + 1, rfl, rfl, rfl, by omega, by rw [count_next hx, if_pos hb63, ← ha], by rw [count_next hz, if_pos hb66, ← hb], (((((hv.front 4 rfl).front 4 rfl).front 4 rfl).front 4 rfl).front 4 rfl)⟩
         case measure => show xs.length - (((k + 1 : Nat) : Int)).toNat < xs.length - ((k : Int)).toNat; omega
        refine dG (.bool false) rfl (ex_seql rfl rfl rfl (qF hb66)) (dE fun w68 hv => ?_)
        simp only [zP, po]
        refine tK k65 (cF rfl ?_)
        refine kS (bN ?_)
        refine tK k60 (rL ?_)
        refine uM rfl ?_
        refine uG (vI ((k + 1 : Nat) : Int)) rfl (ex_add rfl rfl rfl (by rw [i64_in (by omega)]; omega)) (uA rfl ?_)
        refine uZ (then_normal ?_)
        simp only [vP, vI, vS, vN]
        go_roundw
        case rel => exact ⟨k + 1, a + 1, b, rfl, rfl, rfl, by omega, by rw [count_next hx, if_pos hb63, ← ha], by rw [count_next hz, if_neg hb66, ← hb]; rfl, (((((hv.front 4 rfl).front 4 rfl).front 4 rfl).front 4 rfl).front 4 rfl)⟩
        case measure => show xs.length - (((k + 1 : Nat) : Int)).toNat < xs.length - ((k : Int)).toNat; omega
       refine dG (.bool false) rfl (ex_seql rfl rfl rfl (qF hb63)) (dE fun w69 hv => ?_)
       simp only [zP, po]
       refine tK k62 (cF rfl ?_)
       refine kS (tK k61 ?_)
       refine sK fun _ k70 => ?_
       obtain ⟨z, hz⟩ : ∃ x, ss[k]? = some x := ⟨_, List.getElem?_eq_getElem (show k < ss.length by omega)⟩
       obtain ⟨p4b, p4o, p4v, p4d, -, -, p4r⟩ := hel1 k z hz
       cases p4d
       refine rW mixed [] [0,1,2,3,4,5,6,7,8,9,10,11,12] 198 rfl (by kernel_rfl) hv ?_
       simp only [qm, opAt]
       refine dG (.pointer (some ⟨b36, 3, none⟩)) rfl (ex_field rfl rfl (rtfa34_3 _ _ _)) (dL _ rfl (fun hv => ex_load rfl rfl (run_load1 rtna32 (hv.load 1 3 rfl rfl))) ?_)
       refine dM (vI k) rfl ?_
       simp only [zP, po]
       refine dG (.pointer (some ⟨eb1, eo1 + k * 4, none⟩)) rfl (ex_index rfl rfl rfl (run_idx (k := k) Tryz.underlying32 k0es32 (by omega))) (dG (.pointer (some ⟨eb1, eo1 + k * 4 + 1, none⟩)) rfl (ex_field rfl rfl (k0fa34_1 _ _ _)) ?_)
       refine dL _ rfl (fun hv => ex_load rfl rfl (run_load1 s9na9 (p4r _ _ _ (hD34.trans hF2) no_res hv 1 _ rfl))) ?_
       simp only [zP, po]
       refine dG (.pointer (some ⟨b36, 3, none⟩)) rfl (ex_field rfl rfl (rtfa34_3 _ _ _)) (dL _ rfl (fun hv => ex_load rfl rfl (run_load1 rtna32 (hv.load 1 3 rfl rfl))) ?_)
       refine dM (vI i) rfl ?_
       simp only [zP, po]
       refine dG (.pointer (some ⟨eb1, eo1 + i * 4, none⟩)) rfl (ex_index rfl rfl rfl (run_idx (k := i) Tryz.underlying32 k0es32 (by omega))) (dG (.pointer (some ⟨eb1, eo1 + i * 4 + 1, none⟩)) rfl (ex_field rfl rfl (k0fa34_1 _ _ _)) ?_)
       refine dL _ rfl (fun hv => ex_load rfl rfl (run_load1 s9na9 (p1r _ _ _ (hD34.trans hF2) no_res hv 1 _ rfl))) ?_
       simp only [zP, po]
       by_cases hb71 : z = y
       ·refine dG (.bool true) rfl (ex_seql rfl rfl rfl (qT hb71)) (dE fun w72 hv => ?_)
        simp only [zP, po]
        refine tK k70 (cT rfl ?_)
        refine rL (uM rfl ?_)
        refine uG (vI ((b + 1 : Nat) : Int)) rfl (ex_add rfl rfl rfl (by rw [i64_in (by omega)]; omega)) (uA rfl ?_)
        refine uZ (bN ?_)
        refine tK k60 (rL ?_)
        refine uM rfl ?_
        refine uG (vI ((k + 1 : Nat) : Int)) rfl (ex_add rfl rfl rfl (by rw [i64_in (by omega)]; omega)) (uA rfl ?_)
        refine uZ (then_normal ?_)
        simp only [vP, vI, vS, vN]
        go_roundw
        case rel => exact ⟨k + 1, a, b + 1, rfl, rfl, rfl, by omega, by rw [count_next hx, if_neg hb63, ← ha]; rfl, by rw [count_next hz, if_pos hb71, ← hb], (((((hv.front 4 rfl).front 4 rfl).front 4 rfl).front 4 rfl).front 4 rfl)⟩
        case measure => show xs.length - (((k + 1 : Nat) : Int)).toNat < xs.length - ((k : Int)).toNat; omega
       refine dG (.bool false) rfl (ex_seql rfl rfl rfl (qF hb71)) (dE fun w73 hv => ?_)
       simp only [zP, po]
       refine tK k70 (cF rfl ?_)
       refine kS (bN ?_)
       refine tK k60 (rL ?_)
       refine uM rfl ?_
       refine uG (vI ((k + 1 : Nat) : Int)) rfl (ex_add rfl rfl rfl (by rw [i64_in (by omega)]; omega)) (uA rfl ?_)
       refine uZ (then_normal ?_)
       simp only [vP, vI, vS, vN]
       go_roundw
       case rel => exact ⟨k + 1, a, b, rfl, rfl, rfl, by omega, by rw [count_next hx, if_neg hb63, ← ha]; rfl, by rw [count_next hz, if_neg hb71, ← hb]; rfl, (((((hv.front 4 rfl).front 4 rfl).front 4 rfl).front 4 rfl).front 4 rfl)⟩
       case measure => show xs.length - (((k + 1 : Nat) : Int)).toNat < xs.length - ((k : Int)).toNat; omega
      refine uG (.bool false) rfl (ex_lss rfl rfl rfl (qF hb59)) (uW k58 ?_)
      refine cF rfl (xE ?_)
      refine tX (tX ?_)
      refine bH (tK k54 ?_)
      refine sK fun _ k74 => ?_
      have hkl : k = xs.length := by omega
      have hab : a = b := by
       rw [ha, hb, hkl, List.take_length, ← hsl, List.take_length, hss]
       exact (srt_count y).symm
      refine rL (uM rfl ?_)
      refine uM rfl ?_
      refine uG (.bool false) rfl (ex_neq rfl rfl rfl (qF (fun h9 => h9 (by rw [hab])))) (uW k74 ?_)
      refine cF rfl (kS ?_)
      refine bN (tK k50 ?_)
      refine rL (uM rfl ?_)
      refine uG (vI ((i + 1 : Nat) : Int)) rfl (ex_add rfl rfl rfl (by rw [i64_in (by omega)]; omega)) (uA rfl ?_)
      refine uZ (then_normal ?_)
      simp only [vP, vI, vS, vN]
      go_roundw
      case rel => exact ⟨i + 1, rfl, by omega, (((((hv.front 4 rfl).front 4 rfl).front 4 rfl).front 4 rfl).front 4 rfl)⟩
      case measure => show xs.length - (((i + 1 : Nat) : Int)).toNat < xs.length - ((i : Int)).toNat; omega
    refine sK fun _ k75 => ?_
    by_cases hi0 : (i : Int) > 0
    ·obtain ⟨z, hz⟩ : ∃ x, ss[(i - 1 : Nat)]? = some x := ⟨_, List.getElem?_eq_getElem (show i - 1 < ss.length by omega)⟩
     have hyz : Op.bytesLess y z = false := by rw [hss] at hy hz; exact srt_le (by omega) hy hz
     obtain ⟨p3b, p3o, p3v, p3d, -, -, p3r⟩ := hel1 (i - 1 : Nat) z hz
     cases p3d
     refine rW mixed [] [0,1,2,3,4,5,6,7,8,9,10,11,12,13,14,15,16,17,18,19,20,21,22,23,24,25,26,27,28,29,30,31,32,33,34,35,36] 198 rfl (by kernel_rfl) hv ?_
     simp only [qm, opAt]
     refine dM (vI i) rfl (dG (.bool true) rfl (ex_gtr rfl rfl rfl (qT hi0)) ?_)
     refine dM (.bool true) rfl ?_
     simp only [zP, po]
     refine dG (.pointer (some ⟨b36, 3, none⟩)) rfl (ex_field rfl rfl (rtfa34_3 _ _ _)) (dL _ rfl (fun hv => ex_load rfl rfl (run_load1 rtna32 (hv.load 1 3 rfl rfl))) ?_)
     refine dM (vI i) rfl ?_
     simp only [zP, po]
     refine dG (.pointer (some ⟨eb1, eo1 + i * 4, none⟩)) rfl (ex_index rfl rfl rfl (run_idx (k := i) Tryz.underlying32 k0es32 (by omega))) (dG (.pointer (some ⟨eb1, eo1 + i * 4 + 1, none⟩)) rfl (ex_field rfl rfl (k0fa34_1 _ _ _)) ?_)
     refine dL _ rfl (fun hv => ex_load rfl rfl (run_load1 s9na9 (p1r _ _ _ (hD34.trans hF2) no_res hv 1 _ rfl))) ?_
     simp only [zP, po]
     refine dG (.pointer (some ⟨b36, 3, none⟩)) rfl (ex_field rfl rfl (rtfa34_3 _ _ _)) (dL _ rfl (fun hv => ex_load rfl rfl (run_load1 rtna32 (hv.load 1 3 rfl rfl))) ?_)
     refine dM (vI i) rfl ?_
     simp only [zP, po]
     refine dG (vI ((i - 1 : Nat) : Int)) rfl (ex_sub rfl rfl rfl (by rw [i64_in (by omega)]; omega)) (dG (.pointer (some ⟨eb1, eo1 + (i - 1 : Nat) * 4, none⟩)) rfl (ex_index rfl rfl rfl (run_idx (k := (i - 1 : Nat)) Tryz.underlying32 k0es32 (by omega))) ?_)
     refine dG (.pointer (some ⟨eb1, eo1 + (i - 1 : Nat) * 4 + 1, none⟩)) rfl (ex_field rfl rfl (k0fa34_1 _ _ _)) ?_
     simp only [zP, po]
     refine dL _ rfl (fun hv => ex_load rfl rfl (run_load1 s9na9 (p3r _ _ _ (hD34.trans hF2) no_res hv 1 _ rfl))) (dG (.bool false) rfl (ex_slss rfl rfl rfl (hyz)) ?_)
     refine dK true (.bool false) rfl ?_
     simp only [zP, po]
     refine dM (.bool false) rfl (dG (.pointer (some ⟨b38, 3, none⟩)) rfl (ex_field rfl rfl (rtfa34_3 _ _ _)) ?_)
     refine dL _ rfl (fun hv => ex_load rfl rfl (run_load1 rtna32 (hv.load 0 3 rfl rfl))) ?_
     simp only [zP, po]
     refine dM (.slice xa xs.length xc) rfl (dG (vI (xs.length : Int)) rfl (ex_len0 Tryz.underlying26 rfl rfl) ?_)
     refine dG (vI ((xs.length - 1 : Nat) : Int)) rfl (ex_sub rfl rfl rfl (by rw [i64_in (by omega)]; omega)) ?_
     simp only [zP, po]
     refine dM (vI i) rfl (dG (vI ((xs.length - 1 - i : Nat) : Int)) rfl (ex_sub rfl rfl rfl (by rw [i64_in (by omega)]; omega)) ?_)
     refine dG (.pointer (some ⟨eb2, eo2 + (xs.length - 1 - i : Nat) * 4, none⟩)) rfl (ex_index rfl rfl rfl (run_idx (k := (xs.length - 1 - i : Nat)) Tryz.underlying32 k0es32 (by omega))) ?_
     simp only [zP, po]
     refine dG (.pointer (some ⟨eb2, eo2 + (xs.length - 1 - i : Nat) * 4 + 1, none⟩)) rfl (ex_field rfl rfl (k0fa34_1 _ _ _)) (dL _ rfl (fun hv => ex_load rfl rfl (run_load1 s9na9 (p2r _ _ _ (Base.Le.refl _) no_res hv 1 _ rfl))) ?_)
     refine dG (.pointer (some ⟨b36, 3, none⟩)) rfl (ex_field rfl rfl (rtfa34_3 _ _ _)) ?_
     simp only [zP, po]
     refine dL _ rfl (fun hv => ex_load rfl rfl (run_load1 rtna32 (hv.load 1 3 rfl rfl))) (dM (vI i) rfl ?_)
     refine dG (.pointer (some ⟨eb1, eo1 + i * 4, none⟩)) rfl (ex_index rfl rfl rfl (run_idx (k := i) Tryz.underlying32 k0es32 (by omega))) ?_
     simp only [zP, po]
     refine dG (.pointer (some ⟨eb1, eo1 + i * 4 + 1, none⟩)) rfl (ex_field rfl rfl (k0fa34_1 _ _ _)) (dL _ rfl (fun hv => ex_load rfl rfl (run_load1 s9na9 (p1r _ _ _ (hD34.trans hF2) no_res hv 1 _ rfl))) ?_)
     refine dG (.bool false) rfl (ex_sneq rfl rfl rfl (qF (fun h9 => h9 rfl))) ?_
     simp only [zP, po]
     refine dK false (.bool false) rfl (dE fun w76 hv => ?_)
     simp only [zP, po]
     refine tK k75 (cF rfl ?_)
     refine kS (then_normal (hJ51 _ _ _ _ _ _ _ _ _ _ _ _ _ _ _ _ _ _ _ _ _ _ _ _ _ _ _ _ _ _ _ _ _ _ _ _ _ _ _ hv))
    refine rW mixed [] [0,1,2,3,4,5,6,7,8,9,10,11,12,13,14,15,16,17,18,19,20,21,22,23,24,25,26,27,28,29,30,31,32,33,34,35,36] 198 rfl (by kernel_rfl) hv ?_
    simp only [qm, opAt]
    refine dM (vI i) rfl (dG (.bool false) rfl (ex_gtr rfl rfl rfl (qF hi0)) ?_)
    refine dM (.bool false) rfl ?_
    simp only [zP, po]
    refine dP rfl (dP rfl ?_)
    refine dP rfl ?_
    simp only [zP, po]
    refine dP rfl (dP rfl ?_)
    refine dP rfl ?_
    simp only [zP, po]
    refine dP rfl (dP rfl ?_)
    refine dP rfl ?_
    simp only [zP, po]
    refine dP rfl (dP rfl ?_)
    refine dP rfl ?_
    simp only [zP, po]
    refine dP rfl (dP rfl ?_)
    refine dK false (.bool false) rfl ?_
    simp only [zP, po]
    refine dM (.bool false) rfl (dG (.pointer (some ⟨b38, 3, none⟩)) rfl (ex_field rfl rfl (rtfa34_3 _ _ _)) ?_)
    refine dL _ rfl (fun hv => ex_load rfl rfl (run_load1 rtna32 (hv.load 0 3 rfl rfl))) ?_
    simp only [zP, po]
    refine dM (.slice xa xs.length xc) rfl (dG (vI (xs.length : Int)) rfl (ex_len0 Tryz.underlying26 rfl rfl) ?_)
    refine dG (vI ((xs.length - 1 : Nat) : Int)) rfl (ex_sub rfl rfl rfl (by rw [i64_in (by omega)]; omega)) ?_
    simp only [zP, po]
    refine dM (vI i) rfl (dG (vI ((xs.length - 1 - i : Nat) : Int)) rfl (ex_sub rfl rfl rfl (by rw [i64_in (by omega)]; omega)) ?_)
    refine dG (.pointer (some ⟨eb2, eo2 + (xs.length - 1 - i : Nat) * 4, none⟩)) rfl (ex_index rfl rfl rfl (run_idx (k := (xs.length - 1 - i : Nat)) Tryz.underlying32 k0es32 (by omega))) ?_
    simp only [zP, po]
    refine dG (.pointer (some ⟨eb2, eo2 + (xs.length - 1 - i : Nat) * 4 + 1, none⟩)) rfl (ex_field rfl rfl (k0fa34_1 _ _ _)) (dL _ rfl (fun hv => ex_load rfl rfl (run_load1 s9na9 (p2r _ _ _ (Base.Le.refl _) no_res hv 1 _ rfl))) ?_)
    refine dG (.pointer (some ⟨b36, 3, none⟩)) rfl (ex_field rfl rfl (rtfa34_3 _ _ _)) ?_
    simp only [zP, po]
    refine dL _ rfl (fun hv => ex_load rfl rfl (run_load1 rtna32 (hv.load 1 3 rfl rfl))) (dM (vI i) rfl ?_)
    refine dG (.pointer (some ⟨eb1, eo1 + i * 4, none⟩)) rfl (ex_index rfl rfl rfl (run_idx (k := i) Tryz.underlying32 k0es32 (by omega))) ?_
    simp only [zP, po]
    refine dG (.pointer (some ⟨eb1, eo1 + i * 4 + 1, none⟩)) rfl (ex_field rfl rfl (k0fa34_1 _ _ _)) (dL _ rfl (fun hv => ex_load rfl rfl (run_load1 s9na9 (p1r _ _ _ (hD34.trans hF2) no_res hv 1 _ rfl))) ?_)
    refine dG (.bool false) rfl (ex_sneq rfl rfl rfl (qF (fun h9 => h9 rfl))) ?_
    simp only [zP, po]
    refine dK false (.bool false) rfl (dE fun w77 hv => ?_)
    simp only [zP, po]
    refine tK k75 (cF rfl ?_)
    refine kS (then_normal (hJ51 _ _ _ _ _ _ _ _ _ _ _ _ _ _ _ _ _ _ _ _ _ _ _ _ _ _ _ _ _ _ _ _ _ _ _ _ _ _ _ hv))
   refine uG (.bool false) rfl (ex_lss rfl rfl rfl (qF hb49)) (uW k48 ?_)
   refine cF rfl (xE ?_)
   refine tX (tX ?_)
   refine bH (tK k44 ?_)
   refine sK fun _ k78 => rW mixed [] [0,1,2,3,4,5,6,7,8,9,10,11] 198 rfl (by kernel_rfl) hv ?_
   simp only [qm, opAt]
   refine dG (vP b2) rfl (ex_index rfl rfl rfl (run_idxA1 (k := 0) kLua59 kLea59 (by omega))) (dL _ rfl (fun hv => ex_load rfl rfl (run_load1 s2na3 (hv.load 4 0 rfl rfl))) ?_)
   refine dG (vI q1) rfl (ex_rem (m := n0) (n := 30) rfl rfl rfl (by decide) hq11) ?_
   simp only [zP, po]
   refine dG (vI (q1 + 30)) rfl (ex_add rfl rfl rfl (i64_in (by omega))) (dG (vI u1) rfl (ex_rem (m := (q1 + 30)) (n := 30) rfl rfl rfl (by decide) hrn1) ?_)
   refine dG (.pointer (some ⟨b2, 1, none⟩)) rfl (ex_index rfl rfl rfl (run_idxA1 (k := 1) kLua59 kLea59 (by omega))) ?_
   simp only [zP, po]
   refine dL _ rfl (fun hv => ex_load rfl rfl (run_load1 s2na3 (hv.load 4 1 rfl rfl))) (dG (vI q2) rfl (ex_rem (m := n1) (n := 30) rfl rfl rfl (by decide) hq21) ?_)
   refine dG (vI (q2 + 30)) rfl (ex_add rfl rfl rfl (i64_in (by omega))) ?_
   simp only [zP, po]
   refine dG (vI u2) rfl (ex_rem (m := (q2 + 30)) (n := 30) rfl rfl rfl (by decide) hrn2) (dA (vI u1) rfl ?_)
   refine dA (vI u2) rfl (dE fun w79 hv => ?_)
   simp only [zP, po]
   refine tK k78 (sK fun _ k80 => ?_)
   have hlp : (Lib.itoa (u1 : Int)).length ≤ 9223372036854775807 := by have := (itoa_length (u1 : Int) (by omega) (by omega)).2; omega
   have hlq : (Lib.itoa (u2 : Int)).length ≤ 9223372036854775807 := by have := (itoa_length (u2 : Int) (by omega) (by omega)).2; omega
   refine rL (uM rfl ?_)
   refine uM rfl ?_
   refine xC kLcallable19 rfl ((refPrint F2 _ _ (u1 : Int) (by omega) (by omega) hv).mono ?_) rfl
   rintro e w81 ⟨rfl, hv⟩
   refine ⟨_, rfl, uM rfl ?_⟩
   refine xC kLcallable19 rfl ((refPrint F2 _ _ (u2 : Int) (by omega) (by omega) hv).mono ?_) rfl
   rintro e w82 ⟨rfl, hv⟩
   refine ⟨_, rfl, ?_⟩
   simp only [zP, po]
   refine sl_rowN (pv := #[(0, vS [83, 79, 82, 84]), (1, vS [108]), (2, vS [65, 76, 80, 72, 65]), (3, vS [76, 73, 77, 73, 84]), (4, vS (Lib.itoa (u1 : Int))), (5, vS (Lib.itoa (u2 : Int)))]) (L := [vS [83, 79, 82, 84], vS [108], vS [65, 76, 80, 72, 65], vS [76, 73, 77, 73, 84], vS (Lib.itoa (u1 : Int)), vS (Lib.itoa (u2 : Int))]) (e := 9) tV (wn rfl) rfl (by simp only [List.map_toArray, List.map_cons, List.map_nil]; rfl) hv (fun w => by kernel_rfl) (fun b83 w84 hv => ?_)
   simp only [zP, po]
   obtain ⟨D85, hD85, hv, hrD85, hoD85, -⟩ := (hv.cellRow (n := 6) (c := 6) (size := 1) rfl (by decide) (by decide)).rowBy
   replace hv := hv.front 3 rfl
   simp only [eS, eZ] at hv
   replace hv := hv.front 3 rfl
   simp only [eS, eZ] at hv
   have hlens : ∀ q ∈ [([108] : List UInt8), ([65, 76, 80, 72, 65] : List UInt8), ([76, 73, 77, 73, 84] : List UInt8), (Lib.itoa (u1 : Int)), (Lib.itoa (u2 : Int))], q.length ≤ 9223372036854775807 := by
    intro q hq
    simp only [List.mem_cons, List.not_mem_nil, or_false] at hq
    rcases hq with rfl | rfl | rfl | rfl | rfl
    ·decide
    ·decide
    ·decide
    ·exact hlp
    exact hlq
   refine xC kLcallable17 rfl ((lawDo26 D85 _ _ v t m s p wb va vc sv 0 es3 [([108], (⟨0, false, 0, lsV xs⟩ : Ver))] (hM3.more hD85) _ _ ([83, 79, 82, 84] : List UInt8) [([108] : List UInt8), ([65, 76, 80, 72, 65] : List UInt8), ([76, 73, 77, 73, 84] : List UInt8), (Lib.itoa (u1 : Int)), (Lib.itoa (u2 : Int))] hrD85 hoD85 (Nat.le_of_ble_eq_true rfl) (([83, 79, 82, 84] : List UInt8), 1, -1) (by decide) rfl (by show (1 : Int) ≤ 5; decide) (.inl (by decide)) (fun M' r => SrtR [([108], (⟨0, false, 0, lsV xs⟩ : Ver))] 0 [108] (List.drop 1 [([108] : List UInt8), ([65, 76, 80, 72, 65] : List UInt8), ([76, 73, 77, 73, 84] : List UInt8), (Lib.itoa (u1 : Int)), (Lib.itoa (u2 : Int))]) M' r) (fun aa ac C H2 w2 hok9 hr9 hC9 hv9 => ckDoSort C H2 w2 v t m s p wb va vc sv 0 es3 [([108], (⟨0, false, 0, lsV xs⟩ : Ver))] ((hM3.more hD85).more hC9) aa ac [([108] : List UInt8), ([65, 76, 80, 72, 65] : List UInt8), ([76, 73, 77, 73, 84] : List UInt8), (Lib.itoa (u1 : Int)), (Lib.itoa (u2 : Int))] hr9 hok9 (Nat.le_of_ble_eq_true rfl) [108] rfl hlens (hN.more ((((((hD.trans hD30).trans hF1).trans hD34).trans hF2).trans hD85).trans hC9)) (fun s9 hs9 => by have h9 := (wish_l _ _).symm.trans hs9; cases h9; exact sortedA) hv9) hv).mono ?_) rfl
   rintro e w86 ⟨F3, es4, M4, r3, cs3, hF3, rfl, hrp3, hM4, hq3, hv⟩
   refine ⟨_, rfl, ?_⟩
   obtain ⟨rfl, zs, hr3, hzl, hzg⟩ := srt_l hu1 hu2 hq3
   rw [hr3] at hrp3
   obtain ⟨la3, lc3, rfl, hel3⟩ := rp_one hrp3
   rw [← hss] at hzg
   simp only [zP, po]
   refine sl_alloc tV (wn rfl) rfl hv kLal34 (fun b87 w88 hv => ?_)
   simp only [zP, po]
   refine xS 0 rfl hv rssz34 rfl (by exact ⟨rfl, rfl, rfl, rfl, trivial⟩) (fun w89 hv => ?_)
   simp only [zO, sp] at hv
   refine uW k80 (sK fun _ k90 => ?_)
   refine sK fun _ k91 => rL (uF (.pointer (some ⟨b87, 3, none⟩)) rfl (rtfa34_3 _ _ _) ?_)
   refine uL _ rfl (run_load1 rtna32 (hv.load 0 3 rfl rfl)) ?_
   refine uG (vI (zs.length : Int)) rfl (ex_len0 Tryz.underlying32 rfl rfl) (uM rfl ?_)
   refine uM rfl ?_
   refine uG (vI (xs.length : Int)) rfl (ex_len0 Tryz.underlying26 rfl rfl) (uM rfl ?_)
   refine uG (vI ((xs.length : Int) - (u1 : Int))) rfl (ex_sub rfl rfl rfl (i64_in (by omega))) ?_
   refine uG (vI (if ((xs.length : Int) - (u1 : Int)) < (u2 : Int) then ((xs.length : Int) - (u1 : Int)) else (u2 : Int))) rfl (ex_min2 (m := (u2 : Int)) (n := ((xs.length : Int) - (u1 : Int))) rfl rfl rfl rfl) ?_
   refine uG (vI (if (if ((xs.length : Int) - (u1 : Int)) < (u2 : Int) then ((xs.length : Int) - (u1 : Int)) else (u2 : Int)) > 0 then (if ((xs.length : Int) - (u1 : Int)) < (u2 : Int) then ((xs.length : Int) - (u1 : Int)) else (u2 : Int)) else 0)) rfl (ex_max2 (m := 0) (n := (if ((xs.length : Int) - (u1 : Int)) < (u2 : Int) then ((xs.length : Int) - (u1 : Int)) else (u2 : Int))) rfl rfl rfl rfl) ?_
   refine uG (.bool false) rfl (ex_neq rfl rfl rfl (qF (fun h9 => h9 (by rw [hzl]; (repeat' split) <;> omega)))) (uW k91 ?_)
   refine cF rfl (kS ?_)
   refine tK k90 (sK fun _ k92 => ?_)
   refine sK fun _ k93 => rL (uA rfl ?_)
   refine uW k93 (bB ?_)
   gi_loopw [16] (fun x16 wr => ∃ (i : Nat), x16 = vI i ∧ i ≤ zs.length ∧ Inv F3 (Res.cell b87 [vI 5, vS [], vI 0, .slice la3 zs.length lc3] 34 :: Res.cell v [.iface 100 (vP t)] 56 :: txR t m s p wb va vc sv 0 es4 :: Res.cell b38 [vI 5, vS [], vI 0, .slice la2 xs.length lc2] 34 :: Res.cell b36 [vI 5, vS [], vI 0, .slice la1 xs.length lc1] 34 :: Res.cell b2 [vI n0, vI n1] 59 :: H) wr) (fun x16 _ => zs.length - (intOf x16).toNat)
   case atStart => exact ⟨0, rfl, Nat.zero_le _, hv⟩
   case round =>
    obtain ⟨i, rfl, hi, hv⟩ := hrel
    refine sK fun _ k95 => sK fun _ k96 => rL (uM rfl ?_)
    refine uF (.pointer (some ⟨b87, 3, none⟩)) rfl (rtfa34_3 _ _ _) ?_
    refine uL _ rfl (run_load1 rtna32 (hv.load 0 3 rfl rfl)) ?_
    refine uG (vI (zs.length : Int)) rfl (ex_len0 Tryz.underlying32 rfl rfl) ?_
    by_cases hb97 : (i : Int) < (zs.length : Int)
    ·refine uG (.bool true) rfl (ex_lss rfl rfl rfl (qT hb97)) (uW k96 ?_)
     refine cT rfl (kS ?_)
     refine tK k95 (sK fun _ k98 => ?_)
     refine bB (sK fun _ k99 => ?_)
     obtain ⟨y, hy⟩ : ∃ x, zs[i]? = some x := ⟨_, List.getElem?_eq_getElem (show i < zs.length by omega)⟩
     have hyg := hzg i y hy
     obtain ⟨eb3, eo3, p5v, p5d, -, -, p5r⟩ := hel3 i y hy
     subst p5d
     have hyl := (List.getElem?_eq_some_iff.1 hyg).1
     obtain ⟨eb1, eo1, p6v, p6d, -, -, p6r⟩ := hel1 (u1 + i : Nat) y hyg
     subst p6d
     refine rW mixed [] [0,1,2,3,4,5,6,7,8,9,10,11,12,13,14] 198 rfl (by kernel_rfl) hv ?_
     simp only [qm, opAt]
     refine dG (.pointer (some ⟨b87, 3, none⟩)) rfl (ex_field rfl rfl (rtfa34_3 _ _ _)) (dL _ rfl (fun hv => ex_load rfl rfl (run_load1 rtna32 (hv.load 0 3 rfl rfl))) ?_)
     refine dM (vI i) rfl ?_
     simp only [zP, po]
     refine dG (.pointer (some ⟨eb3, eo3 + i * 4, none⟩)) rfl (ex_index rfl rfl rfl (run_idx (k := i) Tryz.underlying32 k0es32 (by omega))) (dG (.pointer (some ⟨eb3, eo3 + i * 4 + 1, none⟩)) rfl (ex_field rfl rfl (k0fa34_1 _ _ _)) ?_)
     refine dL _ rfl (fun hv => ex_load rfl rfl (run_load1 s9na9 (p5r _ _ _ (Base.Le.refl _) no_res hv 1 _ rfl))) ?_
     simp only [zP, po]
     refine dG (.pointer (some ⟨b36, 3, none⟩)) rfl (ex_field rfl rfl (rtfa34_3 _ _ _)) (dL _ rfl (fun hv => ex_load rfl rfl (run_load1 rtna32 (hv.load 4 3 rfl rfl))) ?_)
     refine dM (vI u1) rfl ?_
     simp only [zP, po]
     refine dM (vI i) rfl (dG (vI ((u1 + i : Nat) : Int)) rfl (ex_add rfl rfl rfl (by rw [i64_in (by omega)]; omega)) ?_)
     refine dG (.pointer (some ⟨eb1, eo1 + (u1 + i : Nat) * 4, none⟩)) rfl (ex_index rfl rfl rfl (run_idx (k := (u1 + i : Nat)) Tryz.underlying32 k0es32 (by omega))) ?_
     simp only [zP, po]
     refine dG (.pointer (some ⟨eb1, eo1 + (u1 + i : Nat) * 4 + 1, none⟩)) rfl (ex_field rfl rfl (k0fa34_1 _ _ _)) (dL _ rfl (fun hv => ex_load rfl rfl (run_load1 s9na9 (p6r _ _ _ (((hD34.trans hF2).trans hD85).trans hF3) no_res hv 1 _ rfl))) ?_)
     refine dG (.bool false) rfl (ex_sneq rfl rfl rfl (qF (fun h9 => h9 rfl))) (dE fun w100 hv => ?_)
     simp only [zP, po]
     refine tK k99 (cF rfl ?_)
     refine kS (bN ?_)
     refine tK k98 (rL ?_)
     refine uM rfl ?_
     refine uG (vI ((i + 1 : Nat) : Int)) rfl (ex_add rfl rfl rfl (by rw [i64_in (by omega)]; omega)) (uA rfl ?_)
     refine uZ (then_normal ?_)
     simp only [vP, vI, vS, vN]
     go_roundw
     case rel => exact ⟨i + 1, rfl, by omega, ((((((hv.front 5 rfl).front 5 rfl).front 5 rfl).front 5 rfl).front 5 rfl).front 5 rfl)⟩
     case measure => show zs.length - (((i + 1 : Nat) : Int)).toNat < zs.length - ((i : Int)).toNat; omega
    refine uG (.bool false) rfl (ex_lss rfl rfl rfl (qF hb97)) (uW k96 ?_)
    refine cF rfl (xE ?_)
    refine tX (tX ?_)
    refine bH (tK k92 ?_)
    refine sK fun _ k101 => rL (uA rfl ?_)
    refine uW k101 (rR ?_)
    refine bR rfl rfl (⟨rfl, ((hv.kp [] 0 6)).weak ((((((hD.trans hD30).trans hF1).trans hD34).trans hF2).trans hD85).trans hF3)⟩)
end Go.Proofs.YtngpmolbphinnaaGreatDoor
namespace Go.Pm
open Go.RowKit
def All2 {α β : Type} (R : α → β → Prop) : List α → List β → Prop
 | [], [] => True
 | a :: k, b :: l => R a b ∧ All2 R k l
 | _, _ => False
theorem rep_rowAux {W : World} {S : Nat → Prop} {t : Ty} {a : Option Addr} : ∀ (l : List t.den) (k : Nat), (∀ i (h : i < l.length), ∃ b off xs, a = some ⟨b, off, none⟩ ∧ S b ∧ xs.length = t.size ∧ (∀ j (h : j < xs.length), W.cell? ⟨b, off + (k + i) * t.size + j, none⟩ = some xs[j]) ∧ Rep W S t xs l[i]) →
  ∃ xss : List (List Value), All2 (fun xs d => xs.length = t.size ∧ Rep W S t xs d) xss l ∧ ∀ j (h : j < xss.flatten.length), ∃ b off, a = some ⟨b, off, none⟩ ∧ W.cell? ⟨b, off + k * t.size + j, none⟩ = some xss.flatten[j]
 | [], k, _ => ⟨[], trivial, fun j h => by simp at h⟩
 | d :: l, k, h => by
  obtain ⟨xss, h1, h2⟩ := rep_rowAux l (k + 1) (fun i hi => by
   obtain ⟨b, off, xs, e1, e2, e3, e4, e5⟩ := h (i + 1) (by simpa using hi)
   refine ⟨b, off, xs, e1, e2, e3, fun j hj => ?_, e5⟩
   rw [show k + 1 + i = k + (i + 1) by omega]
   exact e4 j hj)
  obtain ⟨b, off, xs, e1, e2, e3, e4, e5⟩ := h 0 (by simp)
  refine ⟨xs :: xss, ⟨⟨e3, e5⟩, h1⟩, fun j hj => ?_⟩
  rcases Nat.lt_or_ge j xs.length with hx | hx
  ·refine ⟨b, off, e1, ?_⟩
   have := e4 j hx
   rw [Nat.add_zero] at this
   rw [this]
   simp only [List.flatten_cons]
   rw [List.getElem_append_left hx]
  have hj' : j - xs.length < xss.flatten.length := by
   simp only [List.flatten_cons, List.length_append] at hj
   omega
  obtain ⟨b', off', f1, f2⟩ := h2 (j - xs.length) hj'
  refine ⟨b', off', f1, ?_⟩
  rw [show off' + k * t.size + j = off' + (k + 1) * t.size + (j - xs.length) by rw [Nat.succ_mul]; omega, f2]
  simp only [List.flatten_cons]
  rw [List.getElem_append_right hx]
theorem rep_row {W : World} {S : Nat → Prop} {t : Ty} {cs : List Value} {l : List t.den} (h : Rep W S (.slice t) cs l) :
  ∃ a cap xss, cs = [.slice a l.length cap] ∧ SliceOk a l.length cap ∧ RdV (Base.of W) [] a xss.flatten ∧ All2 (fun xs d => xs.length = t.size ∧ Rep W S t xs d) xss l := by
 obtain ⟨a, cap, h1, h2, h4⟩ := h
 obtain ⟨xss, h5, h6⟩ := rep_rowAux (t := t) l 0 (fun i hi => by
  obtain ⟨b, off, xs, e1, e2, e3, e4, e5⟩ := h4 i hi
  refine ⟨b, off, xs, e1, e2, e3, fun j hj => ?_, e5⟩
  rw [Nat.zero_add]
  exact e4 j hj)
 refine ⟨a, cap, xss, h1, h2, rdV_of W fun j hj => ?_, h5⟩
 obtain ⟨b, off, f1, f2⟩ := h6 j hj
 exact ⟨b, off, f1, by rw [← f2, Nat.zero_mul, Nat.add_zero]⟩
theorem rep_texts {W : World} {S : Nat → Prop} : ∀ {xss : List (List Value)} {l : List (List UInt8)}, All2 (fun xs (d : Ty.str.den) => xs.length = Ty.str.size ∧ Rep W S .str xs d) xss l → xss.flatten = textCells l
 | [], [], _ => rfl
 | xs :: xss, d :: l, ⟨⟨h1, h2⟩, h⟩ => by
  have := rep_texts h
  match xs, h1 with
  | [x0], _ =>
   obtain ⟨k1, _⟩ := h2
   have k1' : [x0] = _ := k1
   simp only [List.cons.injEq, and_true] at k1'
   subst k1'
   simp only [List.flatten_cons, this, textCells, List.map_cons]
   rfl
end Go.Pm
namespace Go.Proofs.YtngpmolbphinnaaGreatDoor
open Go
theorem tabOf {W : World} {l : List (String × DataW Unit)} (hl : l.filter (fun x => x.1 == "internal/strconv.uint64pow10") = [("internal/strconv.uint64pow10", Lib.tabData .u64 Lib.pow10Tab)]) (hL : laidMetH Tryz.prog l W) : Lib.TabIs Tryz.prog W "internal/strconv.uint64pow10" .u64 Lib.pow10Tab := by
 have h := hL.filter (fun x => x.1 == "internal/strconv.uint64pow10")
 rw [hl] at h
 have h2 := (laidMetH_iff.1 h).1
 have e : ([("internal/strconv.uint64pow10", (Lib.tabData .u64 Lib.pow10Tab : DataW Unit))].filter fun x => x.2.handleName?.isNone) = [("internal/strconv.uint64pow10", Lib.tabData .u64 Lib.pow10Tab)] := by kernel_rfl
 rw [e] at h2
 exact Lib.tabIs_of_head (g := 1) (t := 244) (e := 110) (n := 20) (by kernel_rfl) (by kernel_rfl) Tryz.underlying244 Tryz.underlying110 (by kernel_rfl) (by kernel_rfl) h2
open Go.RowKit Go.Pm
theorem parsesAny (B : Base) (H : List Res) (h1 : HasErr B 2) (h2 : HasErr B 3) : ParsesAny B H := fun w s hs hv => by
 obtain ⟨t1, v1, h1⟩ := h1
 obtain ⟨t2, v2, h2⟩ := h2
 have c1 := h1 B H w (Base.Le.refl _) hv
 have c2 := h2 B H w (Base.Le.refl _) hv
 have hmax : (ByteArray.mk s.toArray).size ≤ 20 := by show s.toArray.size ≤ 20; simpa using hs
 cases hp : Lib.parseIntB 64 s
 case ok n =>
  have hb := Lib.parseIntB_bounds hp
  have h : Calls Tryz.prog 109 #[vS s, vI 10, vI 64] w _ := Any.strconv_ParseInt_10_at64_ok Tryz.laysPI ⟨s.toArray⟩ (by omega) n hp w
  refine h.mono ?_
  rintro e w' ⟨rfl, hw⟩
  refine ⟨n, .nilIface, rfl, .inl rfl, by omega, fun m m0 m1 e9 => ⟨rfl, ?_⟩, ?_⟩
  ·rw [e9, parse_itoa m m0 m1] at hp
   cases hp; rfl
  rcases hw with rfl | ⟨t, rfl⟩
  ·exact hv
  exact hv.ext (bytesWorld_ext w _ t)
 ·skip
  have h : Calls Tryz.prog 109 #[vS s, vI 10, vI 64] w _ := Any.strconv_ParseInt_10_at64_syntax Tryz.laysPI ⟨s.toArray⟩ (by omega) hp _ w c1 (.inr ⟨_, _, rfl⟩)
  refine h.mono ?_
  rintro e w' ⟨N, rfl, -, -, hx⟩
  refine ⟨0, _, rfl, .inr ⟨_, _, rfl⟩, by omega, fun m m0 m1 e9 => ?_, hv.ext hx⟩
  rw [e9, parse_itoa m m0 m1] at hp
  cases hp
 case range =>
  have h : Calls Tryz.prog 109 #[vS s, vI 10, vI 64] w _ := Any.strconv_ParseInt_10_at64_range Tryz.laysPI ⟨s.toArray⟩ (by omega) hp _ w c2 (.inr ⟨_, _, rfl⟩)
  refine h.mono ?_
  rintro e w' ⟨N, rfl, -, -, hx⟩
  refine ⟨_, _, rfl, .inr ⟨_, _, rfl⟩, ?_, fun m m0 m1 e9 => ?_, hv.ext hx⟩
  ·unfold Lib.intSat
   split <;> decide
  rw [e9, parse_itoa m m0 m1] at hp
  cases hp
theorem numB {W : World} {l : List (String × DataW Unit)} (hl0 : l.filter (fun x => x.1 == "internal/strconv.uint64pow10") = [("internal/strconv.uint64pow10", Lib.tabData .u64 Lib.pow10Tab)])
  {n1 n2 : String} {d1 d2 : DataW Unit} (hl1 : l.filter (fun x => x.1 == "strconv.ErrSyntax") = [("strconv.ErrSyntax", .iface n1 d1)]) (he1 : ([("strconv.ErrSyntax", (DataW.iface n1 d1 : DataW Unit))].filter fun x => x.2.handleName?.isNone) = [("strconv.ErrSyntax", .iface n1 d1)])
  (hl2 : l.filter (fun x => x.1 == "strconv.ErrRange") = [("strconv.ErrRange", .iface n2 d2)]) (he2 : ([("strconv.ErrRange", (DataW.iface n2 d2 : DataW Unit))].filter fun x => x.2.handleName?.isNone) = [("strconv.ErrRange", .iface n2 d2)]) (hL : laidMetH Tryz.prog l W) : NumB (Base.of W) := by
 have ht := tabOf hl0 hL
 obtain ⟨u1, v1, h1⟩ := errOf hl1 he1 (g := 2) (t := 198) (by kernel_rfl) (by kernel_rfl) Tryz.underlying198 hL
 obtain ⟨u2, v2, h2⟩ := errOf hl2 he2 (g := 3) (t := 198) (by kernel_rfl) (by kernel_rfl) Tryz.underlying198 hL
 exact fun C H hC => ⟨formatsInt C H W hC ht, parsesAny C H ((hasErr_of h1).more hC) ((hasErr_of h2).more hC)⟩
end Go.Proofs.YtngpmolbphinnaaGreatDoor
namespace Go.Pm
open Go.RowKit
theorem rep_textsM {W : World} {S : Nat → Prop} {cs : List Value} {l : List (List UInt8)} (h : Rep W S (.slice .str) cs l) : ∃ a c, cs = [.slice a l.length c] ∧ SliceOk a l.length c ∧ RdV (Base.of W) [] a (textCells l) ∧ ∀ x ∈ l, x.length ≤ 9223372036854775807 := by
 have hb : ∀ x ∈ l, x.length ≤ 9223372036854775807 := by
  obtain ⟨a, cap, h1, h2, h4⟩ := h
  intro x hx
  obtain ⟨i, hi, rfl⟩ := List.getElem_of_mem hx
  obtain ⟨b, off, xs, e1, e2, e3, e4, e5⟩ := h4 i hi
  exact e5.2
 obtain ⟨a, c, xss, h1, h2, h3, h4⟩ := rep_row h
 rw [rep_texts h4] at h3
 exact ⟨a, c, h1, h2, h3, hb⟩
end Go.Pm
namespace Go.Proofs.YtngpmolbphinnaaGreatDoor
open Go.RowKit Go.Pm
def laidAll : List (String × DataW Unit) := [("math/bits.deBruijn32tab", Rows.laid_math_bits_deBruijn32tab), ("math/bits.deBruijn64tab", Rows.laid_math_bits_deBruijn64tab), ("internal/strconv.uint64pow10", Rows.laid_internal_strconv_uint64pow10), ("strconv.ErrRange", Rows.laid_strconv_ErrRange), ("strconv.ErrSyntax", Rows.laid_strconv_ErrSyntax)]
abbrev dSyn : DataW Unit := .ptr (.agg [.lit (.string [105, 110, 118, 97, 108, 105, 100, 32, 115, 121, 110, 116, 97, 120])])
abbrev dRan : DataW Unit := .ptr (.agg [.lit (.string [118, 97, 108, 117, 101, 32, 111, 117, 116, 32, 111, 102, 32, 114, 97, 110, 103, 101])])
theorem numAll {W : World} (hL : laidMetH Tryz.prog laidAll W) : NumB (Base.of W) :=
 numB (l := laidAll) (n1 := "*errors.errorString") (d1 := dSyn) (n2 := "*errors.errorString") (d2 := dRan) (by kernel_rfl) (by kernel_rfl) (by kernel_rfl) (by kernel_rfl) (by kernel_rfl) hL
end Go.Proofs.YtngpmolbphinnaaGreatDoor
namespace Go.Pm
open Go.RowKit
theorem rep_nums2 {w : World} {S : Nat → Prop} {cs : List Value} {d : List Int} (h : Rep w S (.arr 2 (.int .i64)) cs d) : ∃ a b : Int, cs = [vI a, vI b] ∧ d = [a, b] := by
 obtain ⟨h1, h2, h3⟩ := h
 match d, h1 with
 | [b0, b1], _ =>
  match cs, h2 with
  | [c0, c1], _ =>
   have e0 := (h3 0 (by simp)).1
   have e1 := (h3 1 (by simp)).1
   simp only [Ty.size, List.drop, List.take, List.getElem_cons_zero, List.getElem_cons_succ, List.cons.injEq, and_true] at e0 e1
   exact ⟨b0, b1, by rw [e0, e1]; rfl, rfl⟩
end Go.Pm
