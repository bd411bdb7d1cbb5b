/- num.Place, num.Span; lists: Index, Range, Trim; slices.Index. -/
import Derived.Test.YtmpackidbgfoiaaGreatDoorCtFauC
import Derived.Test.YtmpackidbgfoiaaGreatDoorCtFauI
import Derived.Test.YtmpackidbgfoiaaGreatDoorCtFauH
import Derived.Test.YtmpackidbgfoiaaGreatDoorCtFauB
import Derived.Test.YtmpackidbgfoiaaGreatDoorRows
import Derived.Lib.AppendStr
import Derived.Test.YtmpackidbgfoiaaGreatDoorCtFauA
import Derived.Laws.Strings2
import Derived.Laws.IdiomStrings
import Derived.Test.YtmpackidbgfoiaaGreatDoorCtFauG
import Derived.Test.YtmpackidbgfoiaaGreatDoorCtFauF
import Derived.Sort.Walk0
import Derived.Sort.KeysCollected
import Derived.Lib.SlicesCompact
import Derived.Test.YtmpackidbgfoiaaGreatDoorCtFauE
import Derived.Test.YtmpackidbgfoiaaGreatDoorCtFauD
set_option maxRecDepth 100000
set_option maxHeartbeats 16000000
set_option synthInstance.maxSize 4096
set_option synthInstance.maxHeartbeats 400000
namespace Go.Proofs.YtmpackidbgfoiaaGreatDoor
open Go.RowKit Go.Pm
theorem numSpan (B : Base) (H : List Res) (w : World) (a b : Int) (ha : -9223372036854775808 ≤ a ∧ a ≤ 9223372036854775807) (hb0 : -9223372036854775808 ≤ b ∧ b ≤ 9223372036854775807) (n : Nat) (hn : n ≤ 1000000) (hv : Inv B H w) :
  Calls Tryz.prog 100 #[vI a, vI b, vI n] w fun e w' => ∃ lo hi : Nat, e = .returned (.tuple #[vI lo, vI hi]) ∧ spanF a b n = (lo, hi) ∧ lo ≤ hi ∧ hi ≤ n ∧ Inv B H w' := by
 refine cW Tryz.func100 rfl Tryz.ntmps100 ?_
 simp only [al]
 refine sK fun _ k1 => rL (uA rfl ?_)
 refine uA rfl (uW k1 ?_)
 refine sK fun _ k2 => rL (uM rfl ?_)
 refine uG (vI n) rfl (ex_max2 (m := (n : Int)) (n := 0) rfl rfl rfl (if_neg (by omega))) (uA rfl ?_)
 refine uW k2 (sK fun _ k3 => ?_)
 refine sK fun _ k4 => rL (uM rfl ?_)
 by_cases hb5 : a < 0
 ·refine uG (.bool true) rfl (ex_lss rfl rfl rfl (qT hb5)) (uW k4 ?_)
  refine cT rfl (rL ?_)
  refine uM rfl (uM rfl ?_)
  refine uG (vI (a + (n : Int))) rfl (ex_add rfl rfl rfl (i64_in (by omega))) ?_
  refine uG (vI (if 0 > (a + (n : Int)) then 0 else (a + (n : Int)))) rfl (ex_max2 (m := (a + (n : Int))) (n := 0) rfl rfl rfl rfl) (uA rfl ?_)
  refine uW k3 (sK fun _ k6 => ?_)
  refine sK fun _ k7 => rL (uM rfl ?_)
  by_cases hb8 : b < 0
  ·refine uG (.bool true) rfl (ex_lss rfl rfl rfl (qT hb8)) (uW k7 ?_)
   refine cT rfl (rL ?_)
   refine uM rfl (uM rfl ?_)
   refine uG (vI (b + (n : Int))) rfl (ex_add rfl rfl rfl (i64_in (by omega))) (uA rfl ?_)
   refine uW k6 (sK fun _ k9 => ?_)
   refine rL (uM rfl ?_)
   refine uM rfl ?_
   refine uG (vI ((n : Int) - 1)) rfl (ex_sub rfl rfl rfl (i64_in (by omega))) ?_
   refine uG (vI (if ((n : Int) - 1) < (b + (n : Int)) then ((n : Int) - 1) else (b + (n : Int)))) rfl (ex_min2 (m := (b + (n : Int))) (n := ((n : Int) - 1)) rfl rfl rfl rfl) (uA rfl ?_)
   refine uW k9 (sK fun _ k10 => ?_)
   refine sK fun _ k11 => ?_
   obtain ⟨s0, hs0⟩ : ∃ s : Int, s = (if 0 > (a + (n : Int)) then 0 else (a + (n : Int))) := ⟨_, rfl⟩
   obtain ⟨t9, ht9⟩ : ∃ s : Int, s = (if ((n : Int) - 1) < (b + (n : Int)) then ((n : Int) - 1) else (b + (n : Int))) := ⟨_, rfl⟩
   rw [← hs0]
   rw [← ht9]
   have hss : (if a < 0 then max (a + (n : Int)) 0 else a) = s0 := by rw [hs0]; (repeat' split) <;> omega
   have htt : min (if b < 0 then b + (n : Int) else b) ((n : Int) - 1) = t9 := by rw [ht9]; (repeat' split) <;> omega
   have hs9 : 0 ≤ s0 := by rw [← hss]; split <;> omega
   have ht8 : t9 ≤ (n : Int) - 1 := by rw [← htt]; omega
   refine rL (uM rfl ?_)
   refine uM rfl ?_
   by_cases hb12 : s0 > t9
   ·refine uG (.bool true) rfl (ex_gtr rfl rfl rfl (qT hb12)) (uW k11 ?_)
    refine cT rfl (sK fun _ k13 => ?_)
    refine rL (uA rfl ?_)
    refine uA rfl (uW k13 ?_)
    refine rR (tR ?_)
    refine bodyPost_ret (results_tmp2 rfl _ _ _) rfl (⟨0, 0, rfl, by unfold spanF; simp only [hss, htt]; exact if_pos (by omega), Nat.le_refl _, Nat.zero_le _, hv⟩)
   refine uG (.bool false) rfl (ex_gtr rfl rfl rfl (qF hb12)) (uW k11 ?_)
   refine cF rfl (kS ?_)
   refine tK k10 (sK fun _ k14 => ?_)
   refine rL (uM rfl ?_)
   refine uM rfl ?_
   refine uG (vI (t9 + 1)) rfl (ex_add rfl rfl rfl (i64_in (by omega))) (uA rfl ?_)
   refine uA rfl (uW k14 ?_)
   refine rR (bodyPost_ret (results_tmp2 rfl _ _ _) rfl ?_)
   exact ⟨(s0).toNat, (t9 + 1).toNat, by show Ending.returned (Value.tuple #[vI s0, vI (t9 + 1)]) = _; rw [Int.toNat_of_nonneg (by omega), Int.toNat_of_nonneg (by omega)], by unfold spanF; simp only [hss, htt]; exact if_neg (by omega), by omega, by omega, hv⟩
  refine uG (.bool false) rfl (ex_lss rfl rfl rfl (qF hb8)) (uW k7 ?_)
  refine cF rfl (kS ?_)
  refine tK k6 (sK fun _ k15 => ?_)
  refine rL (uM rfl ?_)
  refine uM rfl ?_
  refine uG (vI ((n : Int) - 1)) rfl (ex_sub rfl rfl rfl (i64_in (by omega))) ?_
  refine uG (vI (if ((n : Int) - 1) < b then ((n : Int) - 1) else b)) rfl (ex_min2 (m := b) (n := ((n : Int) - 1)) rfl rfl rfl rfl) (uA rfl ?_)
  refine uW k15 (sK fun _ k16 => ?_)
  refine sK fun _ k17 => ?_
  obtain ⟨s0, hs0⟩ : ∃ s : Int, s = (if 0 > (a + (n : Int)) then 0 else (a + (n : Int))) := ⟨_, rfl⟩
  obtain ⟨t9, ht9⟩ : ∃ s : Int, s = (if ((n : Int) - 1) < b then ((n : Int) - 1) else b) := ⟨_, rfl⟩
  rw [← hs0]
  rw [← ht9]
  have hss : (if a < 0 then max (a + (n : Int)) 0 else a) = s0 := by rw [hs0]; (repeat' split) <;> omega
  have htt : min (if b < 0 then b + (n : Int) else b) ((n : Int) - 1) = t9 := by rw [ht9]; (repeat' split) <;> omega
  have hs9 : 0 ≤ s0 := by rw [← hss]; split <;> omega
  have ht8 : t9 ≤ (n : Int) - 1 := by rw [← htt]; omega
  refine rL (uM rfl ?_)
  refine uM rfl ?_
  by_cases hb18 : s0 > t9
  ·refine uG (.bool true) rfl (ex_gtr rfl rfl rfl (qT hb18)) (uW k17 ?_)
   refine cT rfl (sK fun _ k19 => ?_)
   refine rL (uA rfl ?_)
   refine uA rfl (uW k19 ?_)
   refine rR (tR ?_)
   refine bodyPost_ret (results_tmp2 rfl _ _ _) rfl (⟨0, 0, rfl, by unfold spanF; simp only [hss, htt]; exact if_pos (by omega), Nat.le_refl _, Nat.zero_le _, hv⟩)
  refine uG (.bool false) rfl (ex_gtr rfl rfl rfl (qF hb18)) (uW k17 ?_)
  refine cF rfl (kS ?_)
  refine tK k16 (sK fun _ k20 => ?_)
  refine rL (uM rfl ?_)
  refine uM rfl ?_
  refine uG (vI (t9 + 1)) rfl (ex_add rfl rfl rfl (i64_in (by omega))) (uA rfl ?_)
  refine uA rfl (uW k20 ?_)
  refine rR (bodyPost_ret (results_tmp2 rfl _ _ _) rfl ?_)
  exact ⟨(s0).toNat, (t9 + 1).toNat, by show Ending.returned (Value.tuple #[vI s0, vI (t9 + 1)]) = _; rw [Int.toNat_of_nonneg (by omega), Int.toNat_of_nonneg (by omega)], by unfold spanF; simp only [hss, htt]; exact if_neg (by omega), by omega, by omega, hv⟩
 refine uG (.bool false) rfl (ex_lss rfl rfl rfl (qF hb5)) (uW k4 ?_)
 refine cF rfl (kS ?_)
 refine tK k3 (sK fun _ k21 => ?_)
 refine sK fun _ k22 => rL (uM rfl ?_)
 by_cases hb23 : b < 0
 ·refine uG (.bool true) rfl (ex_lss rfl rfl rfl (qT hb23)) (uW k22 ?_)
  refine cT rfl (rL ?_)
  refine uM rfl (uM rfl ?_)
  refine uG (vI (b + (n : Int))) rfl (ex_add rfl rfl rfl (i64_in (by omega))) (uA rfl ?_)
  refine uW k21 (sK fun _ k24 => ?_)
  refine rL (uM rfl ?_)
  refine uM rfl ?_
  refine uG (vI ((n : Int) - 1)) rfl (ex_sub rfl rfl rfl (i64_in (by omega))) ?_
  refine uG (vI (if ((n : Int) - 1) < (b + (n : Int)) then ((n : Int) - 1) else (b + (n : Int)))) rfl (ex_min2 (m := (b + (n : Int))) (n := ((n : Int) - 1)) rfl rfl rfl rfl) (uA rfl ?_)
  refine uW k24 (sK fun _ k25 => ?_)
  refine sK fun _ k26 => ?_
  obtain ⟨s0, hs0⟩ : ∃ s : Int, s = a := ⟨_, rfl⟩
  obtain ⟨t9, ht9⟩ : ∃ s : Int, s = (if ((n : Int) - 1) < (b + (n : Int)) then ((n : Int) - 1) else (b + (n : Int))) := ⟨_, rfl⟩
  skip
  rw [← ht9]
  have hss : (if a < 0 then max (a + (n : Int)) 0 else a) = s0 := by rw [hs0]; (repeat' split) <;> omega
  have htt : min (if b < 0 then b + (n : Int) else b) ((n : Int) - 1) = t9 := by rw [ht9]; (repeat' split) <;> omega
  have hs9 : 0 ≤ s0 := by rw [← hss]; split <;> omega
  have ht8 : t9 ≤ (n : Int) - 1 := by rw [← htt]; omega
  refine rL (uM rfl ?_)
  refine uM rfl ?_
  by_cases hb27 : a > t9
  ·refine uG (.bool true) rfl (ex_gtr rfl rfl rfl (qT hb27)) (uW k26 ?_)
   refine cT rfl (sK fun _ k28 => ?_)
   refine rL (uA rfl ?_)
   refine uA rfl (uW k28 ?_)
   refine rR (tR ?_)
   refine bodyPost_ret (results_tmp2 rfl _ _ _) rfl (⟨0, 0, rfl, by unfold spanF; simp only [hss, htt]; exact if_pos (by omega), Nat.le_refl _, Nat.zero_le _, hv⟩)
  refine uG (.bool false) rfl (ex_gtr rfl rfl rfl (qF hb27)) (uW k26 ?_)
  refine cF rfl (kS ?_)
  refine tK k25 (sK fun _ k29 => ?_)
  refine rL (uM rfl ?_)
  refine uM rfl ?_
  refine uG (vI (t9 + 1)) rfl (ex_add rfl rfl rfl (i64_in (by omega))) (uA rfl ?_)
  refine uA rfl (uW k29 ?_)
  refine rR (bodyPost_ret (results_tmp2 rfl _ _ _) rfl ?_)
  exact ⟨(a).toNat, (t9 + 1).toNat, by show Ending.returned (Value.tuple #[vI a, vI (t9 + 1)]) = _; rw [Int.toNat_of_nonneg (by omega), Int.toNat_of_nonneg (by omega)], by unfold spanF; simp only [hss, htt]; rw [if_neg (by omega), hs0], by omega, by omega, hv⟩
 refine uG (.bool false) rfl (ex_lss rfl rfl rfl (qF hb23)) (uW k22 ?_)
 refine cF rfl (kS ?_)
 refine tK k21 (sK fun _ k30 => ?_)
 refine rL (uM rfl ?_)
 refine uM rfl ?_
 refine uG (vI ((n : Int) - 1)) rfl (ex_sub rfl rfl rfl (i64_in (by omega))) ?_
 refine uG (vI (if ((n : Int) - 1) < b then ((n : Int) - 1) else b)) rfl (ex_min2 (m := b) (n := ((n : Int) - 1)) rfl rfl rfl rfl) (uA rfl ?_)
 refine uW k30 (sK fun _ k31 => ?_)
 refine sK fun _ k32 => ?_
 obtain ⟨s0, hs0⟩ : ∃ s : Int, s = a := ⟨_, rfl⟩
 obtain ⟨t9, ht9⟩ : ∃ s : Int, s = (if ((n : Int) - 1) < b then ((n : Int) - 1) else b) := ⟨_, rfl⟩
 skip
 rw [← ht9]
 have hss : (if a < 0 then max (a + (n : Int)) 0 else a) = s0 := by rw [hs0]; (repeat' split) <;> omega
 have htt : min (if b < 0 then b + (n : Int) else b) ((n : Int) - 1) = t9 := by rw [ht9]; (repeat' split) <;> omega
 have hs9 : 0 ≤ s0 := by rw [← hss]; split <;> omega
 have ht8 : t9 ≤ (n : Int) - 1 := by rw [← htt]; omega
 refine rL (uM rfl ?_)
 refine uM rfl ?_
 by_cases hb33 : a > t9
 ·refine uG (.bool true) rfl (ex_gtr rfl rfl rfl (qT hb33)) (uW k32 ?_)
  refine cT rfl (sK fun _ k34 => ?_)
  refine rL (uA rfl ?_)
  refine uA rfl (uW k34 ?_)
  refine rR (tR ?_)
  refine bodyPost_ret (results_tmp2 rfl _ _ _) rfl (⟨0, 0, rfl, by unfold spanF; simp only [hss, htt]; exact if_pos (by omega), Nat.le_refl _, Nat.zero_le _, hv⟩)
 refine uG (.bool false) rfl (ex_gtr rfl rfl rfl (qF hb33)) (uW k32 ?_)
 refine cF rfl (kS ?_)
 refine tK k31 (sK fun _ k35 => ?_)
 refine rL (uM rfl ?_)
 refine uM rfl ?_
 refine uG (vI (t9 + 1)) rfl (ex_add rfl rfl rfl (i64_in (by omega))) (uA rfl ?_)
 refine uA rfl (uW k35 ?_)
 refine rR (bodyPost_ret (results_tmp2 rfl _ _ _) rfl ?_)
 exact ⟨(a).toNat, (t9 + 1).toNat, by show Ending.returned (Value.tuple #[vI a, vI (t9 + 1)]) = _; rw [Int.toNat_of_nonneg (by omega), Int.toNat_of_nonneg (by omega)], by unfold spanF; simp only [hss, htt]; rw [if_neg (by omega), hs0], by omega, by omega, hv⟩
end Go.Proofs.YtmpackidbgfoiaaGreatDoor
namespace Go.Pm
open Go.RowKit
section
variable {P : Program} {e : TypeId} {w : World}
theorem run_copyStr {dT sT el ty : TypeId} {g off dLen dCap : Nat} {L s : List UInt8} (hu : P.underlying dT = some (.slice el)) (hs : (P.info? el).map (·.size) = some 1) (hb : Blk w g (L.map B8) e) (h1 : s.length ≤ dLen) (h2 : off + s.length ≤ L.length) :
  (Builtin.copy_ #[dT, sT] ty #[.slice (some ⟨g, off, none⟩) dLen dCap, .string ⟨s.toArray⟩]).run P w = .ok (.int .i64 (s.length : Int)) (setBlk w g ((L.take off ++ s ++ L.drop (off + s.length)).map B8)) := by
 have hz : (⟨s.toArray⟩ : ByteArray).size = s.length := by simp [ByteArray.size]
 have hc : Lib.strCells ⟨s.toArray⟩ = s.map B8 := by simp [Lib.strCells]
 have hf := Lib.run_firstCells_string (P := P) w 1 ⟨s.toArray⟩
 rw [hz, hc] at hf
 have hst := run_storeCells_at P g off e (s.map B8) 0 _ w hb (by simp; omega) (fun v hv => by obtain ⟨x, _, rfl⟩ := List.mem_map.1 hv; rfl)
 have hst' : (storeCells ⟨g, off, none⟩ (s.map B8) 0).run P w = .ok () (setBlk w g ((L.take off ++ s ++ L.drop (off + s.length)).map B8)) := by
  rw [hst]
  simp only [setBlk, List.map_append, List.map_take, List.map_drop, List.length_map, Nat.add_zero]
 obtain ⟨i, hi, hsz⟩ := Option.map_eq_some_iff.1 hs
 have hmin : Nat.min s.length dLen = s.length := Nat.min_eq_left h1
 simp [Builtin.copy_, run_underlying hu, Builtin.lenOf, sizeOf, typeInfo, hi, hsz, hz, hmin, hf, hst', goInt]
end
section
variable {F : Fence} {n : Nat} {P : Program} {ops : Array Oper} {Q : Exit → Act → World → Prop} {a : Act} {w : World} {rest : List Oper} {o : Oper} {B : Base} {H : List Res} {t u e : TypeId} {x y : Operand} {J : List Value → World → Prop} {vals : List Value}
theorem ex_copyS {w' : World} {v d s : Value} (ho : o.op = .call { callee := .builtin .copy, args := #[x, y], argTypes := #[t, u] }) (hx : a.eval x = d) (hy : a.eval y = s) (hr : (Builtin.copy_ #[t, u] o.type #[d, s]).run P w = .ok v w') : Ex P a o w v w' := by
 subst hx; subst hy
 unfold Ex; simp [execOp, ho, resolve, invoke, builtin, hr]
theorem sl_sidxB {S : ByteArray} {m : Int} {k : IntKind} {N : Nat} (hF : ∀ f, F.fn f) (hg : Region.wanted o (yielded ops a.tmps) = true) (ho : o.op = .index t x y) (hx : a.eval x = .string S) (hy : a.eval y = .int k m) (ht : P.underlying t = some .string) (hs : S.size = N) (h0 : 0 ≤ m) (h1 : m < (N : Int))
  (h : ∀ c : UInt8, wpListIn F n P ops Q rest (a.put o.dst (.int .u8 (c.toNat : Int))) w) : wpListIn F n P ops Q (o :: rest) a w := by
 subst hs
 have hr := run_index_string (P := P) w t S k m ht
 rw [dif_pos ⟨h0, by omega⟩] at hr
 exact wpi_exG (v := .int .u8 ((S[m.toNat]'(by omega)).toNat : Int)) hF hg (by unfold isDefer; rw [ho]) (by unfold Ex; simp [execOp, ho, hx, hy, hr]) (h _)
theorem sl_copyStr (i : Nat) {g off dLen dCap : Nat} {L s : List UInt8} {el : TypeId} (hF : ∀ f, F.fn f) (hg : Region.wanted o (yielded ops a.tmps) = true) (ho : o.op = .call { callee := .builtin .copy, args := #[x, y], argTypes := #[t, u] }) (hx : a.eval x = .slice (some ⟨g, off, none⟩) dLen dCap) (hy : a.eval y = .string ⟨s.toArray⟩)
  (hu : P.underlying t = some (.slice el)) (hs : (P.info? el).map (·.size) = some 1) (hv : Inv B H w) (hi : H[i]? = some (Res.cell g (L.map B8) e)) (h1 : s.length ≤ dLen) (h2 : off + s.length ≤ L.length)
  (h : ∀ (M : List UInt8) w', M.length = L.length → Inv B (H.set i (Res.cell g (M.map B8) e)) w' → wpListIn F n P ops Q rest (a.put o.dst (.int .i64 (s.length : Int))) w') : wpListIn F n P ops Q (o :: rest) a w :=
 wpi_exG hF hg (by unfold isDefer; rw [ho]) (ex_copyS ho hx hy (run_copyStr hu hs (hv.get i hi) h1 h2)) (h _ _ (by simp only [List.length_append, List.length_take, List.length_drop]; omega) (hv.putAt i hi _))
end
theorem u8B_of {n : Nat} (h : n < 256) : (UInt8.ofNat n).toNat = n := by simp [UInt8.toNat_ofNat]; omega
theorem byte_of {z : Int} (h0 : 0 ≤ z) (h1 : z < 256) : ∃ c : UInt8, z = (c.toNat : Int) := ⟨UInt8.ofNat z.toNat, by rw [u8B_of (by omega)]; omega⟩
theorem map_set8 (L : List UInt8) (i : Nat) (c : UInt8) : (L.map B8).set i (B8 c) = (L.set i c).map B8 := by rw [List.map_set]
def bitsB (op : BinOp) (c d : UInt8) : UInt8 := UInt8.ofNat (bits op .u8 (c.toNat : Int) (d.toNat : Int)).toNat
def shlB (c : UInt8) (n : Int) : UInt8 := UInt8.ofNat (IntKind.wrap .u8 ((c.toNat : Int) * 2 ^ (min n.toNat IntKind.u8.bits))).toNat
def notB (c : UInt8) : UInt8 := bitsB .xor 255 c
theorem ofNat_byte {z : Int} (h0 : 0 ≤ z) (h1 : z < 256) : ((UInt8.ofNat z.toNat).toNat : Int) = z := by rw [u8B_of (by omega)]; omega
theorem bitsB_val (op : BinOp) (c d : UInt8) : ((bitsB op c d).toNat : Int) = bits op .u8 (c.toNat : Int) (d.toNat : Int) := by
 unfold bitsB
 have h : ∃ z, bits op .u8 (c.toNat : Int) (d.toNat : Int) = IntKind.wrap .u8 z := ⟨_, rfl⟩
 obtain ⟨z, hz⟩ := h
 rw [hz, IntKind.wrap_u8]
 exact ofNat_byte (by omega) (by omega)
theorem shlB_val (c : UInt8) (n : Int) : ((shlB c n).toNat : Int) = IntKind.wrap .u8 ((c.toNat : Int) * 2 ^ (min n.toNat IntKind.u8.bits)) := by
 unfold shlB; rw [IntKind.wrap_u8]; exact ofNat_byte (by omega) (by omega)
section
variable {P : Program} {a : Act} {w : World} {o : Oper} {t u : TypeId} {x y : Operand} {c d : UInt8}
theorem ex_bitsB {op : BinOp} (ho : o.op = .binOp op t x y u) (hx : a.eval x = .int .u8 (c.toNat : Int)) (hy : a.eval y = .int .u8 (d.toNat : Int)) (hop : (op == .and || op == .or || op == .xor || op == .andNot) = true) : Ex P a o w (.int .u8 ((bitsB op c d).toNat : Int)) w := by
 rw [bitsB_val]
 unfold Ex
 cases op <;> simp at hop <;> simp [execOp, ho, hx, hy, eqGuard, binOp] <;> rfl
theorem ex_shlB {n : Int} {k2 : IntKind} (ho : o.op = .binOp .shl t x y u) (hx : a.eval x = .int .u8 (c.toNat : Int)) (hy : a.eval y = .int k2 n) (h0 : 0 ≤ n) : Ex P a o w (.int .u8 ((shlB c n).toNat : Int)) w := by
 rw [shlB_val]; exact ex_shl ho hx hy h0 rfl
theorem ex_notB (ho : o.op = .unOp .xor t x) (hx : a.eval x = .int .u8 (c.toNat : Int)) : Ex P a o w (.int .u8 ((notB c).toNat : Int)) w := by
 unfold notB
 rw [bitsB_val]
 unfold Ex
 simp [execOp, ho, hx]
 rfl
end
theorem rep8 (n : Nat) : ∃ M : List UInt8, M.length = n ∧ List.replicate n (Value.int .u8 0) = M.map B8 := ⟨List.replicate n 0, List.length_replicate, by rw [List.map_replicate]; rfl⟩
theorem load8 {w : World} {b i : Nat} {M : List UInt8} {t : TypeId} (h : Blk w b (M.map B8) t) (hi : i < M.length) : w.cell? ⟨b, 0 + i, none⟩ = some (.int .u8 ((M[i]?.getD 0).toNat : Int)) := by
 rw [h.cell, Nat.zero_add]; simp [hi]
theorem sliced_own {b l n : Nat} (h : l ≤ n) : ∃ off, off + (n - l) ≤ n ∧ sliced (some ⟨b, 0, none⟩) l n n 1 = .slice (some ⟨b, off, none⟩) (n - l) (n - l) := by
 unfold sliced
 split
 ·exact ⟨0, by omega, by simp_all⟩
 exact ⟨0 + l * 1, by omega, by simp_all [addr_add]⟩
section
variable {P : Program} {t : TypeId} {l : List UInt8}
theorem cut_size : (⟨l.toArray⟩ : ByteArray).size = l.length := rfl
theorem run_cut (ht : P.underlying t = some .string) {i j : Nat} (hij : i ≤ j) (hj : j ≤ l.length) (w : World) : (Instr.sliceAt t (.string ⟨l.toArray⟩) (some (.int .i64 (i : Int))) (some (.int .i64 (j : Int))) none).run P w = .ok (.string ⟨((l.drop i).take (j - i)).toArray⟩) w := by
 rw [run_sliceAt_string w t _ _ _ _ ht, run_slice_string w t ⟨l.toArray⟩ .i64 .i64 (i : Int) (j : Int) ht (by omega) (by omega) (by rw [cut_size]; omega), ByteArray.extract_mk]
 simp
end
end Go.Pm
namespace Go.Proofs.YtmpackidbgfoiaaGreatDoor
open Go.RowKit Go.Pm
theorem quo8 (n : Int) (h0 : 0 ≤ n) (h1 : n ≤ 9223372036854775807) : IntKind.i64.wrap (n.tdiv 8) = ((n.toNat / 8 : Nat) : Int) := by
 rw [Int.tdiv_eq_ediv_of_nonneg h0, i64_in (by omega)]; omega
theorem strMask (B : Base) (H : List Res) (w : World) (at9 : Int) (h0 : 0 ≤ at9) (hv : Inv B H w) :
  Calls Tryz.prog 101 #[vI at9] w fun e w' => ∃ m : UInt8, e = .returned (.int .u8 (m.toNat : Int)) ∧ Inv B H w' := by
 have hm0 := Int.tmod_nonneg 8 h0
 have hm1 := Int.tmod_lt_of_pos at9 (show (0 : Int) < 8 by decide)
 refine cW Tryz.func101 rfl Tryz.ntmps101 ?_
 simp only [al]
 refine sK fun _ k1 => rL (uA rfl ?_)
 refine uW k1 (sK fun _ k2 => ?_)
 refine rL (uM rfl ?_)
 refine uG (vI (at9.tmod 8)) rfl (ex_rem (m := at9) (n := 8) rfl rfl rfl (by decide) rfl) ?_
 refine uG (vI (7 - (at9.tmod 8))) rfl (ex_sub rfl rfl rfl (i64_in (by omega))) ?_
 refine uG (.int .u8 ((shlB (1 : UInt8) (7 - (at9.tmod 8))).toNat : Int)) rfl (ex_shlB (c := (1 : UInt8)) rfl rfl rfl (by omega)) (uA rfl ?_)
 refine uW k2 (rR ?_)
 refine bR rfl rfl (⟨_, rfl, hv⟩)
theorem t1callable101 : Callable Tryz.prog 101 := cb Tryz.func101 (by kernel_rfl)
theorem strBit (B : Base) (H : List Res) (w : World) (s : List UInt8) (_ : s.length ≤ 1000000) (at9 : Int) (hi : -9223372036854775808 ≤ at9 ∧ at9 ≤ 9223372036854775807) (hv : Inv B H w) :
  Calls Tryz.prog 80 #[vS s, vI at9] w fun e w' => ∃ r : Int, e = .returned (vI r) ∧ (r = 0 ∨ r = 1) ∧ Inv B H w' := by
 refine cW Tryz.func80 rfl Tryz.ntmps80 ?_
 simp only [al]
 refine sK fun _ k1 => rL (uA rfl ?_)
 refine uW k1 (sK fun _ k2 => ?_)
 refine sK fun _ k3 => rW mixed [15] [0,1,2,3,4,5,6,7,8,9,10,11,12,13,14,15,16,17,18] 24 rfl (by kernel_rfl) hv ?_
 simp only [qm, opAt]
 refine dM (vI at9) rfl ?_
 by_cases hb4 : at9 < 0
 ·refine dG (.bool true) rfl (ex_lss rfl rfl rfl (qT hb4)) (dM (.bool true) rfl ?_)
  simp only [zP, po]
  iterate 5 refine dN rfl ?_
  refine dK true (.bool true) rfl (dM (.bool true) rfl ?_)
  iterate 8 refine dN rfl ?_
  refine dK true (.bool true) rfl (dE fun w5 hv => ?_)
  simp only [zP, po]
  refine tK k3 (cT rfl ?_)
  refine sK fun _ k6 => rL (uA rfl ?_)
  refine uW k6 (rR ?_)
  refine tR (bR rfl rfl ?_)
  exact ⟨_, rfl, .inl rfl, hv⟩
 refine dG (.bool false) rfl (ex_lss rfl rfl rfl (qF hb4)) (dM (.bool false) rfl ?_)
 simp only [zP, po]
 refine dM (vI at9) rfl (dG (vI ((at9.toNat / 8 : Nat) : Int)) rfl (ex_quo (m := at9) (n := 8) rfl rfl rfl (by decide) (quo8 at9 (by omega) (by omega))) ?_)
 refine dM (vS s) rfl ?_
 simp only [zP, po]
 refine dG (vI (s.length : Int)) rfl (ex_lenStr Tryz.underlying9 rfl rfl) ?_
 by_cases hb7 : ((at9.toNat / 8 : Nat) : Int) ≥ (s.length : Int)
 ·refine dG (.bool true) rfl (ex_geq rfl rfl rfl (qT hb7)) (dK false (.bool true) rfl ?_)
  simp only [zP, po]
  refine dM (.bool true) rfl ?_
  iterate 8 refine dN rfl ?_
  refine dK true (.bool true) rfl (dE fun w8 hv => ?_)
  simp only [zP, po]
  refine tK k3 (cT rfl ?_)
  refine sK fun _ k9 => rL (uA rfl ?_)
  refine uW k9 (rR ?_)
  refine tR (bR rfl rfl ?_)
  exact ⟨_, rfl, .inl rfl, hv⟩
 refine dG (.bool false) rfl (ex_geq rfl rfl rfl (qF hb7)) (dK false (.bool false) rfl ?_)
 simp only [zP, po]
 refine dM (.bool false) rfl (dM (vS s) rfl ?_)
 refine dM (vI at9) rfl ?_
 simp only [zP, po]
 refine dG (vI ((at9.toNat / 8 : Nat) : Int)) rfl (ex_quo (m := at9) (n := 8) rfl rfl rfl (by decide) (quo8 at9 (by omega) (by omega))) (dG (.int .u8 ((s[at9.toNat / 8]?.getD 0).toNat : Int)) rfl (ex_sidx0 Tryz.underlying9 rfl rfl rfl (by rw [List.getElem?_eq_getElem (show at9.toNat / 8 < s.length by omega)]; rfl)) ?_)
 refine dM (vI at9) rfl ?_
 simp only [zP, po]
 refine dS rfl fun w10 hv => mC t1callable101 rfl ((strMask B _ _ at9 (by omega) hv).mono ?_) rfl
 rintro e w12 ⟨mk11, rfl, hv⟩
 refine ⟨_, rfl, dW hv ?_⟩
 refine dG (.int .u8 ((bitsB .and (s[at9.toNat / 8]?.getD 0) mk11).toNat : Int)) rfl (ex_bitsB (c := (s[at9.toNat / 8]?.getD 0)) (d := mk11) rfl rfl rfl rfl) ?_
 by_cases hb13 : ((bitsB .and (s[at9.toNat / 8]?.getD 0) mk11).toNat : Int) = 0
 ·refine dG (.bool true) rfl (ex_eql rfl rfl rfl (qT hb13)) ?_
  simp only [zP, po]
  refine dK false (.bool true) rfl (dE fun w14 hv => ?_)
  simp only [zP, po]
  refine tK k3 (cT rfl ?_)
  refine sK fun _ k15 => rL (uA rfl ?_)
  refine uW k15 (rR ?_)
  refine tR (bR rfl rfl ?_)
  exact ⟨_, rfl, .inl rfl, hv⟩
 refine dG (.bool false) rfl (ex_eql rfl rfl rfl (qF hb13)) ?_
 simp only [zP, po]
 refine dK false (.bool false) rfl (dE fun w16 hv => ?_)
 simp only [zP, po]
 refine tK k3 (cF rfl ?_)
 refine kS (tK k2 ?_)
 refine sK fun _ k17 => rL (uA rfl ?_)
 refine uW k17 (rR ?_)
 refine bR rfl rfl (⟨_, rfl, .inr rfl, hv⟩)
theorem onesCount (B : Base) (H : List Res) (w : World) (x : UInt8) (hv : Inv B H w) :
  Calls Tryz.prog 102 #[.int .u8 (x.toNat : Int)] w fun e w' => ∃ r : Nat, e = .returned (vI r) ∧ r < 256 ∧ Inv B H w' := by
 have hx8 := x.toNat_lt
 refine cW Tryz.func102 rfl Tryz.ntmps102 ?_
 simp only [al]
 refine sK fun _ k1 => rL (uA rfl ?_)
 refine uW k1 (sK fun _ k2 => ?_)
 refine rL (uM rfl ?_)
 refine sl_sidxB (N := 256) tV (wn rfl) rfl rfl rfl Tryz.underlying9 (by kernel_rfl) (by omega) (by omega) (fun c => ?_)
 have hc8 := c.toNat_lt
 refine uG (vI (c.toNat : Int)) rfl (ex_int Tryz.underlying5 Tryz.underlying3 rfl rfl (i64_in (by omega))) (uA rfl ?_)
 refine uW k2 (rR ?_)
 refine bR rfl rfl (⟨c.toNat, rfl, by omega, hv⟩)
theorem t1callable100 : Callable Tryz.prog 100 := cb Tryz.func100 (by kernel_rfl)
theorem t1callable102 : Callable Tryz.prog 102 := cb Tryz.func102 (by kernel_rfl)
theorem strCount (B : Base) (H : List Res) (w : World) (s : List UInt8) (hs : s.length ≤ 1000000) (a b : Int) (ha : -9223372036854775808 ≤ a ∧ a ≤ 9223372036854775807) (hb0 : -9223372036854775808 ≤ b ∧ b ≤ 9223372036854775807) (hv : Inv B H w) :
  Calls Tryz.prog 81 #[vS s, vI a, vI b] w fun e w' => ∃ r : Int, e = .returned (vI r) ∧ Inv B H w' := by
 refine cW Tryz.func81 rfl Tryz.ntmps81 ?_
 simp only [al]
 refine sK fun _ k1 => rL (uA rfl ?_)
 refine uW k1 (sK fun _ k2 => ?_)
 refine rL (uM rfl ?_)
 refine uM rfl (uM rfl ?_)
 refine uG (vI (s.length : Int)) rfl (ex_lenStr Tryz.underlying9 rfl rfl) ?_
 refine xC t1callable100 rfl ((numSpan B _ _ a b ha hb0 s.length hs hv).mono ?_) rfl
 rintro e w3 ⟨lo, hi, rfl, -, hlo, hhi, hv⟩
 refine ⟨_, rfl, uM rfl ?_⟩
 refine uE rfl (uE rfl ?_)
 refine uA rfl (uA rfl ?_)
 refine uW k2 (sK fun _ k4 => ?_)
 refine rL (uA rfl ?_)
 refine uW k4 (sK fun _ k5 => ?_)
 refine sK fun _ k6 => rL (uM rfl ?_)
 refine uA rfl (uW k6 ?_)
 refine bB ?_
 gi_loopw [10, 9] (fun x10 x9 wr => ∃ (i n9 : Nat), x10 = vI i ∧ x9 = vI n9 ∧ i ≤ s.length ∧ n9 ≤ 256 * i ∧ Inv B H wr) (fun x10 x9 _ => s.length - (intOf x10).toNat)
 case atStart => exact ⟨lo, 0, rfl, rfl, by omega, Nat.zero_le _, hv⟩
 case round =>
  obtain ⟨i, n9, rfl, rfl, hil, hn9, hv⟩ := hrel
  refine sK fun _ k8 => sK fun _ k9 => rL (uM rfl ?_)
  refine uM rfl ?_
  by_cases hb10 : (i : Int) < (hi : Int)
  ·refine uG (.bool true) rfl (ex_lss rfl rfl rfl (qT hb10)) (uW k9 ?_)
   refine cT rfl (kS ?_)
   refine tK k8 (sK fun _ k11 => ?_)
   refine bB ?_
   obtain ⟨x8, hx8⟩ : ∃ y, s[i]? = some y := ⟨_, List.getElem?_eq_getElem (by omega)⟩
   refine rL (uM rfl ?_)
   refine uM rfl (uM rfl ?_)
   refine uG (.int .u8 (x8.toNat : Int)) rfl (ex_sidx0 Tryz.underlying9 rfl rfl rfl hx8) ?_
   refine xC t1callable102 rfl ((onesCount B _ _ x8 hv).mono ?_) rfl
   rintro e w12 ⟨r9, rfl, hr9, hv⟩
   refine ⟨_, rfl, uG (vI ((n9 + r9 : Nat) : Int)) rfl (ex_add rfl rfl rfl (by rw [i64_in (by omega)]; omega)) ?_⟩
   refine uA rfl (uZ ?_)
   refine bN (tK k11 ?_)
   refine rL (uM rfl ?_)
   refine uG (vI ((i + 1 : Nat) : Int)) rfl (ex_add rfl rfl rfl (by rw [i64_in (by omega)]; omega)) (uA rfl ?_)
   refine uZ (then_normal ?_)
   go_roundw
   case rel => exact ⟨i + 1, n9 + r9, rfl, rfl, by omega, by omega, hv⟩
   case measure => show s.length - (((i + 1 : Nat) : Int)).toNat < s.length - ((i : Int)).toNat; omega
  refine uG (.bool false) rfl (ex_lss rfl rfl rfl (qF hb10)) (uW k9 ?_)
  refine cF rfl (xE ?_)
  refine tX (tX ?_)
  refine bH (tK k5 ?_)
  refine sK fun _ k13 => rL (uM rfl ?_)
  refine uA rfl (uW k13 ?_)
  refine rR (bR rfl rfl ?_)
  exact ⟨_, rfl, hv⟩
theorem t1callable80 : Callable Tryz.prog 80 := cb Tryz.func80 (by kernel_rfl)
theorem strFind (B : Base) (H : List Res) (w : World) (s : List UInt8) (hs : s.length ≤ 1000000) (bit : Int) (hv : Inv B H w) :
  Calls Tryz.prog 82 #[vS s, vI bit] w fun e w' => ∃ r : Int, e = .returned (vI r) ∧ Inv B H w' := by
 refine cW Tryz.func82 rfl Tryz.ntmps82 ?_
 simp only [al]
 refine sK fun _ k1 => rL (uA rfl ?_)
 refine uW k1 (sK fun _ k2 => ?_)
 refine sK fun _ k3 => rL (uM rfl ?_)
 refine uG (vI (s.length : Int)) rfl (ex_lenStr Tryz.underlying9 rfl rfl) ?_
 refine uG (vI ((8 * s.length : Nat) : Int)) rfl (ex_mul rfl rfl rfl (by rw [i64_in (by omega)]; omega)) (uM rfl ?_)
 refine uW k3 (bB ?_)
 gi_loopw [9] (fun x9 wr => ∃ (i : Nat), x9 = vI i ∧ i ≤ 8 * s.length ∧ Inv B H wr) (fun x9 _ => 8 * s.length - (intOf x9).toNat)
 case atStart => exact ⟨0, rfl, Nat.zero_le _, hv⟩
 case round =>
  obtain ⟨i, rfl, hil, hv⟩ := hrel
  refine sK fun _ k5 => rL ?_
  by_cases hb6 : (i : Int) < ((8 * s.length : Nat) : Int)
  ·refine uG (.bool true) rfl (ex_lss rfl rfl rfl (qT hb6)) (uW k5 ?_)
   refine sK fun _ k7 => cT rfl (kS ?_)
   refine tK k7 (sK fun _ k8 => ?_)
   refine bB (sK fun _ k9 => ?_)
   refine rL (uM rfl ?_)
   refine uA rfl (uW k9 ?_)
   refine sK fun _ k10 => rL (uM rfl ?_)
   refine uM rfl ?_
   refine xC t1callable80 rfl ((strBit B _ _ s hs (i : Int) (by omega) hv).mono ?_) rfl
   rintro e w12 ⟨r11, rfl, -, hv⟩
   refine ⟨_, rfl, uM rfl ?_⟩
   by_cases hb13 : r11 = bit
   ·refine uG (.bool true) rfl (ex_eql rfl rfl rfl (qT hb13)) (uW k10 ?_)
    refine cT rfl (sK fun _ k14 => ?_)
    refine rL (uM rfl ?_)
    refine uA rfl (uW k14 ?_)
    refine rR (bZ ?_)
    refine tR (tR ?_)
    refine bZ (tR ?_)
    refine bR rfl rfl (⟨_, rfl, hv⟩)
   refine uG (.bool false) rfl (ex_eql rfl rfl rfl (qF hb13)) (uW k10 ?_)
   refine cF rfl (kS ?_)
   refine bN (tK k8 ?_)
   refine rL (uG (vI ((i + 1 : Nat) : Int)) rfl (ex_add rfl rfl rfl (by rw [i64_in (by omega)]; omega)) ?_)
   refine uM rfl (uZ ?_)
   refine then_normal ?_
   go_roundw
   case rel => exact ⟨i + 1, rfl, by omega, hv⟩
   case measure => show 8 * s.length - (((i + 1 : Nat) : Int)).toNat < 8 * s.length - ((i : Int)).toNat; omega
  refine uG (.bool false) rfl (ex_lss rfl rfl rfl (qF hb6)) (uW k5 ?_)
  refine sK fun _ k15 => cF rfl (xE ?_)
  refine tX (tX ?_)
  refine bH (tK k2 ?_)
  refine sK fun _ k16 => rL (uA rfl ?_)
  refine uW k16 (rR ?_)
  refine bR rfl rfl (⟨_, rfl, hv⟩)
theorem strRange (B : Base) (H : List Res) (w : World) (s : List UInt8) (hs : s.length ≤ 1000000) (a b : Int) (ha : -9223372036854775808 ≤ a ∧ a ≤ 9223372036854775807) (hb0 : -9223372036854775808 ≤ b ∧ b ≤ 9223372036854775807) (hv : Inv B H w) :
  Calls Tryz.prog 79 #[vS s, vI a, vI b] w fun e w' => ∃ r : List UInt8, e = .returned (vS r) ∧ Inv B H w' := by
 refine cW Tryz.func79 rfl Tryz.ntmps79 ?_
 simp only [al]
 refine sK fun _ k1 => rL (uA rfl ?_)
 refine uW k1 (sK fun _ k2 => ?_)
 refine rL (uM rfl ?_)
 refine uM rfl (uM rfl ?_)
 refine uG (vI (s.length : Int)) rfl (ex_lenStr Tryz.underlying9 rfl rfl) ?_
 refine xC t1callable100 rfl ((numSpan B _ _ a b ha hb0 s.length hs hv).mono ?_) rfl
 rintro e w3 ⟨lo, hi, rfl, -, hlo, hhi, hv⟩
 refine ⟨_, rfl, uM rfl ?_⟩
 refine uE rfl (uE rfl ?_)
 refine uA rfl (uA rfl ?_)
 refine uW k2 (sK fun _ k4 => ?_)
 refine rL (uM rfl ?_)
 refine uM rfl (uM rfl ?_)
 refine uG (vS ((s.drop lo).take (hi - lo))) rfl (ex_slice (lo' := some (vI lo)) (hi' := some (vI hi)) rfl rfl (congrArg some rfl) (congrArg some rfl) rfl (run_cut Tryz.underlying9 hlo hhi _)) (uA rfl ?_)
 refine uW k4 (rR ?_)
 refine bR rfl rfl (⟨_, rfl, hv⟩)
theorem t2mk5 : (Tryz.prog.info? 5).map (fun i => (i.zero, i.size, i.bytes)) = some (some (.int .u8 0), 1, 1) := by kernel_rfl
theorem t2sz5 : (Tryz.prog.info? 5).map (·.size) = some 1 := by kernel_rfl
theorem t2es188 (w : World) : (sizeOf (Tryz.prog.elem 188)).run Tryz.prog w = .ok 1 w := by kernel_rfl
theorem strAppend (B : Base) (H : List Res) (w : World) (s : List UInt8) (hs : s.length ≤ 1000000) (ta : Option Addr) (tc : Nat) (x : List UInt8) (hrt : RdV B [] ta (textCells [x])) (hx1 : x.length ≤ 1000000) (hv : Inv B H w) :
  Calls Tryz.prog 87 #[vS s, .slice ta 1 tc] w fun e w' => ∃ (out : List UInt8) (ec : Int), e = .returned (.tuple #[vS out, vI ec]) ∧ ((ec = 0 ∧ out.length = s.length + x.length) ∨ (ec ≠ 0 ∧ 4096 < s.length + x.length)) ∧ Inv B H w' := by
 refine cW Tryz.func87 rfl Tryz.ntmps87 ?_
 simp only [al]
 refine sK fun _ k1 => rL (uA rfl ?_)
 refine uA rfl (uW k1 ?_)
 refine sK fun _ k2 => rL (uM rfl ?_)
 refine uG (vI (s.length : Int)) rfl (ex_lenStr Tryz.underlying9 rfl rfl) (uA rfl ?_)
 refine uW k2 (sK fun _ k3 => ?_)
 refine sK fun _ k4 => rL (uG (.slice ta 1 tc) rfl (ex_move rfl rfl) ?_)
 refine uG (vI 1) rfl (ex_len0 Tryz.underlying23 rfl rfl) (uM rfl ?_)
 refine uW k4 (bB ?_)
 gi_loopw [6, 17] (fun x6 x17 wr => ∃ (i n9 : Nat), x17 = vI i ∧ x6 = vI n9 ∧ ((i = 0 ∧ n9 = s.length) ∨ (i = 1 ∧ n9 = s.length + x.length)) ∧ Inv B H wr) (fun x6 x17 _ => 1 - (intOf x17).toNat)
 case atStart => exact ⟨0, s.length, rfl, rfl, .inl ⟨rfl, rfl⟩, hv⟩
 case round =>
  obtain ⟨i, n9, rfl, rfl, hin, hv⟩ := hrel
  refine sK fun _ k6 => rL ?_
  by_cases hb7 : (i : Int) < 1
  ·refine uG (.bool true) rfl (ex_lss rfl rfl rfl (qT hb7)) (uW k6 ?_)
   refine sK fun _ k8 => cT rfl (kS ?_)
   refine tK k8 (sK fun _ k9 => ?_)
   refine bB (sK fun _ k10 => ?_)
   have hi0 : i = 0 := by omega
   subst hi0
   obtain ⟨tb, to, had, hrdx⟩ := text_reads hrt (show [x][0]? = some x from rfl)
   subst had
   refine rL (uG (.pointer (some ⟨tb, to + 0, none⟩)) rfl (ex_index rfl rfl rfl (run_idx1 (k := 0) Tryz.underlying23 s9es23 (by omega))) ?_)
   refine uL _ rfl (run_load1 s9na9 (hrdx _ _ _ (Base.Le.refl _) no_res hv 0 _ rfl)) (uA rfl ?_)
   refine uW k10 (sK fun _ k11 => ?_)
   refine sK fun _ k12 => rL (uM rfl ?_)
   by_cases hb13 : (n9 : Int) > 4096
   ·refine uG (.bool true) rfl (ex_gtr rfl rfl rfl (qT hb13)) (uW k12 ?_)
    refine cT rfl (xE ?_)
    refine tX (bM rfl ?_)
    refine tX (tX ?_)
    refine bH (tK k3 ?_)
    refine sK fun _ k14 => sK fun _ k15 => rL (uM rfl ?_)
    refine uG (.bool true) rfl (ex_gtr rfl rfl rfl (qT hb13)) (uW k15 ?_)
    refine cT rfl (sK fun _ k16 => ?_)
    refine rL (uA rfl ?_)
    refine uA rfl (uW k16 ?_)
    refine rR (tR ?_)
    refine bodyPost_ret (results_tmp2 rfl _ _ _) rfl (⟨[], 12, rfl, .inr ⟨by decide, by omega⟩, hv⟩)
   refine uG (.bool false) rfl (ex_gtr rfl rfl rfl (qF hb13)) (uW k12 ?_)
   refine cF rfl (kS ?_)
   refine tK k11 (rL ?_)
   refine uM rfl (uM rfl ?_)
   refine uG (vI (x.length : Int)) rfl (ex_lenStr Tryz.underlying9 rfl rfl) ?_
   refine uG (vI ((n9 + x.length : Nat) : Int)) rfl (ex_add rfl rfl rfl (by rw [i64_in (by omega)]; omega)) (uA rfl ?_)
   refine uZ (bN ?_)
   refine tK k9 (rL ?_)
   refine uG (vI ((1 : Nat) : Int)) rfl (ex_add rfl rfl rfl (by rw [i64_in (by omega)]; omega)) (uM rfl ?_)
   refine uZ (then_normal ?_)
   go_roundw
   case rel => exact ⟨1, n9 + x.length, rfl, rfl, .inr ⟨rfl, by omega⟩, hv⟩
   case measure => show 1 - (((1 : Nat) : Int)).toNat < 1 - ((0 : Nat) : Int).toNat; decide
  refine uG (.bool false) rfl (ex_lss rfl rfl rfl (qF hb7)) (uW k6 ?_)
  refine sK fun _ k17 => cF rfl (xE ?_)
  refine tX (tX ?_)
  refine bH (tK k3 ?_)
  refine sK fun _ k18 => sK fun _ k19 => rL (uM rfl ?_)
  by_cases hb20 : (n9 : Int) > 4096
  ·refine uG (.bool true) rfl (ex_gtr rfl rfl rfl (qT hb20)) (uW k19 ?_)
   refine cT rfl (sK fun _ k21 => ?_)
   refine rL (uA rfl ?_)
   refine uA rfl (uW k21 ?_)
   refine rR (tR ?_)
   refine bodyPost_ret (results_tmp2 rfl _ _ _) rfl (⟨[], 12, rfl, .inr ⟨by decide, by omega⟩, hv⟩)
  refine uG (.bool false) rfl (ex_gtr rfl rfl rfl (qF hb20)) (uW k19 ?_)
  refine cF rfl (kS ?_)
  refine tK k18 (sK fun _ k22 => ?_)
  refine rL (uM rfl ?_)
  refine sl_make1 (len := n9) (cap := n9) tV (wn rfl) rfl rfl rfl Tryz.underlying188 t2mk5 rfl (by omega) (by unfold maxLen; omega) (by omega) hv (fun b23 w24 hv => ?_)
  obtain ⟨bm25, hbm26, hbe27⟩ := rep8 n9
  rw [hbe27] at hv
  refine uA rfl (uW k22 ?_)
  refine sK fun _ k28 => rL (uM rfl ?_)
  refine uM rfl ?_
  refine sl_copyStr 0 (L := bm25) (s := s) tV (wn rfl) rfl rfl rfl Tryz.underlying188 t2sz5 hv rfl (by omega) (by omega) (fun bm29 w31 hbm30 hv => ?_)
  simp only [zO] at hv
  refine uA rfl (uW k28 ?_)
  refine sK fun _ k32 => sK fun _ k33 => rL (uG (.slice ta 1 tc) rfl (ex_move rfl rfl) ?_)
  refine uG (vI 1) rfl (ex_len0 Tryz.underlying23 rfl rfl) (uM rfl ?_)
  refine uW k33 (bB ?_)
  gi_loopw [37, 10] (fun x37 x10 wr => ∃ (j m9 : Nat) (M9 : List UInt8), x37 = vI j ∧ x10 = vI m9 ∧ ((j = 0 ∧ m9 = s.length) ∨ (j = 1 ∧ m9 = s.length + x.length)) ∧ M9.length = n9 ∧ Inv B (Res.cell b23 (M9.map B8) 5 :: H) wr) (fun x37 x10 _ => 1 - (intOf x37).toNat)
  case atStart => exact ⟨0, s.length, bm29, rfl, rfl, .inl ⟨rfl, rfl⟩, by omega, hv⟩
  case round =>
   obtain ⟨j, m9, M9, rfl, rfl, hjm, hM9, hv⟩ := hrel
   refine sK fun _ k35 => rL ?_
   by_cases hb36 : (j : Int) < 1
   ·refine uG (.bool true) rfl (ex_lss rfl rfl rfl (qT hb36)) (uW k35 ?_)
    refine sK fun _ k37 => cT rfl (kS ?_)
    refine tK k37 (sK fun _ k38 => ?_)
    refine bB (sK fun _ k39 => ?_)
    have hj0 : j = 0 := by omega
    subst hj0
    obtain rfl : m9 = s.length := by omega
    have hv9 := hv
    obtain ⟨tb2, to2, had, hrdx2⟩ := text_reads hrt (show [x][0]? = some x from rfl)
    subst had
    have hv := hv9
    clear hv9
    refine rL (uG (.pointer (some ⟨tb2, to2 + 0, none⟩)) rfl (ex_index rfl rfl rfl (run_idx1 (k := 0) Tryz.underlying23 s9es23 (by omega))) ?_)
    refine uL _ rfl (run_load1 s9na9 (hrdx2 _ _ _ (Base.Le.refl _) no_res hv 0 _ rfl)) (uA rfl ?_)
    refine uW k39 (rL ?_)
    refine uM rfl (uM rfl ?_)
    refine uM rfl ?_
    obtain ⟨off40, hof41, hsl42⟩ := sliced_own (b := b23) (l := s.length) (n := n9) (by omega)
    refine uG (.slice (some ⟨b23, off40, none⟩) (n9 - s.length) (n9 - s.length)) rfl (ex_slice (lo' := some (vI (s.length : Int))) rfl rfl (congrArg some rfl) rfl rfl ((run_fromAny Tryz.underlying188 t2es188 (by omega)).trans (by rw [hsl42]))) (uM rfl ?_)
    refine sl_copyStr 0 (L := M9) (s := x) tV (wn rfl) rfl rfl rfl Tryz.underlying188 t2sz5 hv rfl (by omega) (by omega) (fun bm43 w45 hbm44 hv => ?_)
    simp only [zO] at hv
    refine uG (vI ((s.length + x.length : Nat) : Int)) rfl (ex_add rfl rfl rfl (by rw [i64_in (by omega)]; omega)) (uA rfl ?_)
    refine uZ (bN ?_)
    refine tK k38 (rL ?_)
    refine uG (vI ((1 : Nat) : Int)) rfl (ex_add rfl rfl rfl (by rw [i64_in (by omega)]; omega)) (uM rfl ?_)
    refine uZ (then_normal ?_)
    go_roundw
    case rel => exact ⟨1, s.length + x.length, bm43, rfl, rfl, .inr ⟨rfl, rfl⟩, by omega, hv⟩
    case measure => show 1 - (((1 : Nat) : Int)).toNat < 1 - ((0 : Nat) : Int).toNat; decide
   refine uG (.bool false) rfl (ex_lss rfl rfl rfl (qF hb36)) (uW k35 ?_)
   refine sK fun _ k46 => cF rfl (xE ?_)
   refine tX (tX ?_)
   refine bH (tK k32 ?_)
   refine sK fun _ k47 => rL (uM rfl ?_)
   refine uG (vS M9) rfl (ex_str Tryz.underlying188 Tryz.underlying5 Tryz.underlying9 rfl rfl (bytes_all (hv.get 0 rfl)) (by omega)) (uA rfl ?_)
   refine uA rfl (uW k47 ?_)
   refine rR (bodyPost_ret (results_tmp2 rfl _ _ _) rfl ?_)
   exact ⟨M9, 0, rfl, .inl ⟨rfl, by omega⟩, (hv.kp [] 0 1)⟩
theorem strLay (B : Base) (H : List Res) (w : World) (s : List UInt8) (hs : s.length ≤ 1000000) (at9 : Int) (hi : -9223372036854775808 ≤ at9 ∧ at9 ≤ 9223372036854775807) (t : List UInt8) (ht : t.length ≤ 9223372036854775807) (hv : Inv B H w) :
  Calls Tryz.prog 88 #[vS s, vI at9, vS t] w fun e w' => ∃ (out : List UInt8) (ec : Int), e = .returned (.tuple #[vS out, vI ec]) ∧ Inv B H w' := by
 refine cW Tryz.func88 rfl Tryz.ntmps88 ?_
 simp only [al]
 refine sK fun _ k1 => rL (uA rfl ?_)
 refine uA rfl (uW k1 ?_)
 refine sK fun _ k2 => sK fun _ k3 => rL (uM rfl ?_)
 by_cases hb4 : at9 < 0
 ·refine uG (.bool true) rfl (ex_lss rfl rfl rfl (qT hb4)) (uW k3 ?_)
  refine cT rfl (sK fun _ k5 => ?_)
  refine rL (uA rfl ?_)
  refine uA rfl (uW k5 ?_)
  refine rR (tR ?_)
  refine bodyPost_ret (results_tmp2 rfl _ _ _) rfl (⟨_, _, rfl, hv⟩)
 refine uG (.bool false) rfl (ex_lss rfl rfl rfl (qF hb4)) (uW k3 ?_)
 refine cF rfl (kS ?_)
 refine tK k2 (sK fun _ k6 => ?_)
 refine sK fun _ k7 => rL (uM rfl ?_)
 by_cases hb8 : t = ([] : List UInt8)
 ·refine uG (.bool true) rfl (ex_seql rfl rfl rfl (qT hb8)) (uW k7 ?_)
  refine cT rfl (sK fun _ k9 => ?_)
  refine rL (uM rfl ?_)
  refine uA rfl (uA rfl ?_)
  refine uW k9 (rR ?_)
  refine tR (bodyPost_ret (results_tmp2 rfl _ _ _) rfl ?_)
  exact ⟨_, _, rfl, hv⟩
 refine uG (.bool false) rfl (ex_seql rfl rfl rfl (qF hb8)) (uW k7 ?_)
 refine cF rfl (kS ?_)
 refine tK k6 (sK fun _ k10 => ?_)
 refine sK fun _ k11 => rL (uM rfl ?_)
 refine uG (vI (s.length : Int)) rfl (ex_lenStr Tryz.underlying9 rfl rfl) ?_
 by_cases hb12 : (s.length : Int) > 4096
 ·refine uG (.bool true) rfl (ex_gtr rfl rfl rfl (qT hb12)) (uM rfl ?_)
  iterate 3 refine uP rfl ?_
  refine uK rfl (uM rfl ?_)
  iterate 5 refine uP rfl ?_
  refine uK rfl (uW k11 ?_)
  refine cT rfl (sK fun _ k13 => ?_)
  refine rL (uA rfl ?_)
  refine uA rfl (uW k13 ?_)
  refine rR (tR ?_)
  refine bodyPost_ret (results_tmp2 rfl _ _ _) rfl (⟨_, _, rfl, hv⟩)
 refine uG (.bool false) rfl (ex_gtr rfl rfl rfl (qF hb12)) (uM rfl ?_)
 refine uM rfl ?_
 refine uG (vI (t.length : Int)) rfl (ex_lenStr Tryz.underlying9 rfl rfl) ?_
 by_cases hb14 : (t.length : Int) > 4096
 ·refine uG (.bool true) rfl (ex_gtr rfl rfl rfl (qT hb14)) (uK rfl ?_)
  refine uM rfl ?_
  iterate 5 refine uP rfl ?_
  refine uK rfl (uW k11 ?_)
  refine cT rfl (sK fun _ k15 => ?_)
  refine rL (uA rfl ?_)
  refine uA rfl (uW k15 ?_)
  refine rR (tR ?_)
  refine bodyPost_ret (results_tmp2 rfl _ _ _) rfl (⟨_, _, rfl, hv⟩)
 refine uG (.bool false) rfl (ex_gtr rfl rfl rfl (qF hb14)) (uK rfl ?_)
 refine uM rfl ?_
 refine uM rfl ?_
 refine uM rfl ?_
 refine uG (vI (t.length : Int)) rfl (ex_lenStr Tryz.underlying9 rfl rfl) ?_
 refine uG (vI (4096 - (t.length : Int))) rfl (ex_sub rfl rfl rfl (i64_in (by omega))) ?_
 by_cases hb16 : at9 > (4096 - (t.length : Int))
 ·refine uG (.bool true) rfl (ex_gtr rfl rfl rfl (qT hb16)) (uK rfl ?_)
  refine uW k11 (cT rfl ?_)
  refine sK fun _ k17 => rL (uA rfl ?_)
  refine uA rfl (uW k17 ?_)
  refine rR (tR ?_)
  refine bodyPost_ret (results_tmp2 rfl _ _ _) rfl (⟨_, _, rfl, hv⟩)
 refine uG (.bool false) rfl (ex_gtr rfl rfl rfl (qF hb16)) (uK rfl ?_)
 refine uW k11 (cF rfl ?_)
 refine kS (tK k10 ?_)
 refine sK fun _ k18 => ?_
 obtain ⟨i, rfl⟩ : ∃ q : Nat, at9 = (q : Int) := ⟨at9.toNat, by omega⟩
 refine rL (uM rfl ?_)
 refine uG (vI (s.length : Int)) rfl (ex_lenStr Tryz.underlying9 rfl rfl) (uM rfl ?_)
 refine uM rfl ?_
 refine uG (vI (t.length : Int)) rfl (ex_lenStr Tryz.underlying9 rfl rfl) ?_
 refine uG (vI ((i + t.length : Nat) : Int)) rfl (ex_add rfl rfl rfl (by rw [i64_in (by omega)]; omega)) ?_
 refine uG (vI ((max s.length (i + t.length) : Nat) : Int)) rfl (ex_max2 (m := (s.length : Int)) (n := ((i + t.length : Nat) : Int)) rfl rfl rfl (by split <;> omega)) ?_
 refine sl_make1 (len := (max s.length (i + t.length) : Nat)) (cap := (max s.length (i + t.length) : Nat)) tV (wn rfl) rfl rfl rfl Tryz.underlying188 t2mk5 rfl (by omega) (by unfold maxLen; omega) (by omega) hv (fun b19 w20 hv => ?_)
 obtain ⟨bm21, hbm22, hbe23⟩ := rep8 (max s.length (i + t.length) : Nat)
 rw [hbe23] at hv
 refine uA rfl (uW k18 ?_)
 refine sK fun _ k24 => rL (uM rfl ?_)
 refine uM rfl ?_
 refine sl_copyStr 0 (L := bm21) (s := s) tV (wn rfl) rfl rfl rfl Tryz.underlying188 t2sz5 hv rfl (by omega) (by omega) (fun bm25 w27 hbm26 hv => ?_)
 simp only [zO] at hv
 refine uW k24 (sK fun _ k28 => ?_)
 refine rL (uM rfl ?_)
 refine uM rfl ?_
 obtain ⟨off29, hof30, hsl31⟩ := sliced_own (b := b19) (l := i) (n := (max s.length (i + t.length) : Nat)) (by omega)
 refine uG (.slice (some ⟨b19, off29, none⟩) ((max s.length (i + t.length) : Nat) - i) ((max s.length (i + t.length) : Nat) - i)) rfl (ex_slice (lo' := some (vI i)) rfl rfl (congrArg some rfl) rfl rfl ((run_fromAny Tryz.underlying188 t2es188 (by omega)).trans (by rw [hsl31]))) (uM rfl ?_)
 refine sl_copyStr 0 (L := bm25) (s := t) tV (wn rfl) rfl rfl rfl Tryz.underlying188 t2sz5 hv rfl (by omega) (by omega) (fun bm32 w34 hbm33 hv => ?_)
 simp only [zO] at hv
 refine uW k28 (sK fun _ k35 => ?_)
 refine rL (uM rfl ?_)
 refine uG (vS bm32) rfl (ex_str Tryz.underlying188 Tryz.underlying5 Tryz.underlying9 rfl rfl (bytes_all (hv.get 0 rfl)) (by omega)) (uA rfl ?_)
 refine uA rfl (uW k35 ?_)
 refine rR (bodyPost_ret (results_tmp2 rfl _ _ _) rfl ?_)
 exact ⟨_, _, rfl, (hv.kp [] 0 1)⟩
theorem t2na5 (w : World) : (isAgg 5).run Tryz.prog w = .ok false w := by kernel_rfl
theorem strSetBit (B : Base) (H : List Res) (w : World) (s : List UInt8) (hs : s.length ≤ 1000000) (at9 : Int) (hi : -9223372036854775808 ≤ at9 ∧ at9 ≤ 9223372036854775807) (bit : Int) (hv : Inv B H w) :
  Calls Tryz.prog 94 #[vS s, vI at9, vI bit] w fun e w' => ∃ (out : List UInt8) (r ec : Int), e = .returned (.tuple #[vS out, vI r, vI ec]) ∧ Inv B H w' := by
 refine cW Tryz.func94 rfl Tryz.ntmps94 ?_
 simp only [al]
 refine sK fun _ k1 => rL (uA rfl ?_)
 refine uA rfl (uA rfl ?_)
 refine uW k1 (sK fun _ k2 => ?_)
 refine sK fun _ k3 => rL (uM rfl ?_)
 by_cases hb4 : at9 < 0
 ·refine uG (.bool true) rfl (ex_lss rfl rfl rfl (qT hb4)) (uM rfl ?_)
  iterate 6 refine uP rfl ?_
  refine uK rfl (uW k3 ?_)
  refine cT rfl (sK fun _ k5 => ?_)
  refine rL (uA rfl ?_)
  refine uA rfl (uA rfl ?_)
  refine uW k5 (rR ?_)
  refine tR (bodyPost_ret (results_tmp3 rfl _ _ _) rfl ?_)
  exact ⟨_, _, _, rfl, hv⟩
 refine uG (.bool false) rfl (ex_lss rfl rfl rfl (qF hb4)) (uM rfl ?_)
 refine uM rfl ?_
 by_cases hb6 : bit ≠ 0
 ·refine uG (.bool true) rfl (ex_neq rfl rfl rfl (qT hb6)) ?_
  refine uM rfl ?_
  refine uM rfl ?_
  by_cases hb7 : bit ≠ 1
  ·refine uG (.bool true) rfl (ex_neq rfl rfl rfl (qT hb7)) ?_
   refine uK rfl (uK rfl ?_)
   refine uW k3 (cT rfl ?_)
   refine sK fun _ k8 => rL (uA rfl ?_)
   refine uA rfl (uA rfl ?_)
   refine uW k8 (rR ?_)
   refine tR (bodyPost_ret (results_tmp3 rfl _ _ _) rfl ?_)
   exact ⟨_, _, _, rfl, hv⟩
  refine uG (.bool false) rfl (ex_neq rfl rfl rfl (qF hb7)) ?_
  refine uK rfl (uK rfl ?_)
  refine uW k3 (cF rfl ?_)
  refine kS (tK k2 ?_)
  refine sK fun _ k9 => sK fun _ k10 => ?_
  obtain ⟨i, rfl⟩ : ∃ q : Nat, at9 = (q : Int) := ⟨at9.toNat, by omega⟩
  refine rL (uM rfl ?_)
  refine uG (vI ((i / 8 : Nat) : Int)) rfl (ex_quo (m := (i : Int)) (n := 8) rfl rfl rfl (by decide) (by have := quo8 (i : Int) (by omega) (by omega); rwa [Int.toNat_natCast] at this)) ?_
  by_cases hb11 : ((i / 8 : Nat) : Int) ≥ 4096
  ·refine uG (.bool true) rfl (ex_geq rfl rfl rfl (qT hb11)) (uW k10 ?_)
   refine cT rfl (sK fun _ k12 => ?_)
   refine rL (uA rfl ?_)
   refine uA rfl (uA rfl ?_)
   refine uW k12 (rR ?_)
   refine tR (bodyPost_ret (results_tmp3 rfl _ _ _) rfl ?_)
   exact ⟨_, _, _, rfl, hv⟩
  refine uG (.bool false) rfl (ex_geq rfl rfl rfl (qF hb11)) (uW k10 ?_)
  refine cF rfl (kS ?_)
  refine tK k9 (sK fun _ k13 => ?_)
  refine rL (uM rfl ?_)
  refine uG (vI (s.length : Int)) rfl (ex_lenStr Tryz.underlying9 rfl rfl) (uM rfl ?_)
  refine uG (vI ((i / 8 : Nat) : Int)) rfl (ex_quo (m := (i : Int)) (n := 8) rfl rfl rfl (by decide) (by have := quo8 (i : Int) (by omega) (by omega); rwa [Int.toNat_natCast] at this)) ?_
  refine uG (vI ((i / 8 + 1 : Nat) : Int)) rfl (ex_add rfl rfl rfl (by rw [i64_in (by omega)]; omega)) ?_
  refine uG (vI ((max s.length (i / 8 + 1) : Nat) : Int)) rfl (ex_max2 (m := (s.length : Int)) (n := ((i / 8 + 1 : Nat) : Int)) rfl rfl rfl (by split <;> omega)) ?_
  refine sl_make1 (len := (max s.length (i / 8 + 1) : Nat)) (cap := (max s.length (i / 8 + 1) : Nat)) tV (wn rfl) rfl rfl rfl Tryz.underlying188 t2mk5 rfl (by omega) (by unfold maxLen; omega) (by omega) hv (fun b14 w15 hv => ?_)
  obtain ⟨bm16, hbm17, hbe18⟩ := rep8 (max s.length (i / 8 + 1) : Nat)
  rw [hbe18] at hv
  refine uA rfl (uW k13 ?_)
  refine sK fun _ k19 => rL (uM rfl ?_)
  refine uM rfl ?_
  refine sl_copyStr 0 (L := bm16) (s := s) tV (wn rfl) rfl rfl rfl Tryz.underlying188 t2sz5 hv rfl (by omega) (by omega) (fun bm20 w22 hbm21 hv => ?_)
  simp only [zO] at hv
  refine uW k19 (sK fun _ k23 => ?_)
  refine rW mixed [6, 9] [0,1,2,3,4,5,6,7,8,9] 58 rfl (by kernel_rfl) hv ?_
  simp only [qm, opAt]
  refine dM (.slice (some ⟨b14, 0, none⟩) (max s.length (i / 8 + 1) : Nat) (max s.length (i / 8 + 1) : Nat)) rfl (dM (vI i) rfl ?_)
  refine dG (vI ((i / 8 : Nat) : Int)) rfl (ex_quo (m := (i : Int)) (n := 8) rfl rfl rfl (by decide) (by have := quo8 (i : Int) (by omega) (by omega); rwa [Int.toNat_natCast] at this)) ?_
  simp only [zP, po]
  refine dG (.pointer (some ⟨b14, 0 + (i / 8 : Nat), none⟩)) rfl (ex_index rfl rfl rfl (run_idx1 (k := (i / 8 : Nat)) Tryz.underlying188 t2es188 (by omega))) (dF (.int .u8 ((bm20[i / 8]?.getD 0).toNat : Int)) rfl (fun hv => ex_load rfl rfl (run_load1 t2na5 (load8 (hv.get 0 rfl) (by omega)))) fun f24 hf24 => ?_)
  refine dM (vI i) rfl ?_
  simp only [zP, po]
  refine dS rfl fun w25 hv => mC t1callable101 rfl ((strMask B _ _ (i : Int) (by omega) hv).mono ?_) rfl
  rintro e w27 ⟨mk26, rfl, hv⟩
  refine ⟨_, rfl, dV hv (fC (fun ww hv => hf24 ww (ex_load rfl rfl (run_load1 t2na5 (load8 (hv.get 0 rfl) (by omega))))) fN) ?_⟩
  refine dG (.int .u8 ((bitsB .andNot (bm20[i / 8]?.getD 0) mk26).toNat : Int)) rfl (ex_bitsB (c := (bm20[i / 8]?.getD 0)) (d := mk26) rfl rfl rfl rfl) (dG (.pointer (some ⟨b14, 0 + (i / 8 : Nat), none⟩)) rfl (ex_index rfl rfl rfl (run_idx1 (k := (i / 8 : Nat)) Tryz.underlying188 t2es188 (by omega))) ?_)
  simp only [zP, po]
  refine dS rfl fun w28 hv => mem_storeAt 0 (v := .int .u8 ((bitsB .andNot (bm20[i / 8]?.getD 0) mk26).toNat : Int)) (L' := (bm20.set (i / 8) (bitsB .andNot (bm20[i / 8]?.getD 0) mk26)).map B8) rfl rfl rfl rfl hv rfl t2sz5 (by rw [List.length_map]; omega) rfl rfl (by rw [Nat.zero_add]; exact map_set8 bm20 (i / 8) (bitsB .andNot (bm20[i / 8]?.getD 0) mk26)) (fun w29 hv => ?_)
  simp only [zO] at hv
  obtain ⟨bm30, hbm31, hbe32⟩ : ∃ q : List UInt8, q.length = bm20.length ∧ (bm20.set (i / 8) (bitsB .andNot (bm20[i / 8]?.getD 0) mk26)) = q := ⟨_, List.length_set, rfl⟩
  rw [hbe32] at hv
  refine dV hv (fK rfl fN) (dE fun w33 hv => ?_)
  simp only [zP, po]
  refine tK k23 (sK fun _ k34 => ?_)
  refine sK fun _ k35 => rL (uM rfl ?_)
  by_cases hb36 : bit = 1
  ·refine uG (.bool true) rfl (ex_eql rfl rfl rfl (qT hb36)) (uW k35 ?_)
   refine cT rfl (rW mixed [6, 9] [0,1,2,3,4,5,6,7,8,9] 58 rfl (by kernel_rfl) hv ?_)
   simp only [qm, opAt]
   refine dM (.slice (some ⟨b14, 0, none⟩) (max s.length (i / 8 + 1) : Nat) (max s.length (i / 8 + 1) : Nat)) rfl (dM (vI i) rfl ?_)
   refine dG (vI ((i / 8 : Nat) : Int)) rfl (ex_quo (m := (i : Int)) (n := 8) rfl rfl rfl (by decide) (by have := quo8 (i : Int) (by omega) (by omega); rwa [Int.toNat_natCast] at this)) ?_
   simp only [zP, po]
   refine dG (.pointer (some ⟨b14, 0 + (i / 8 : Nat), none⟩)) rfl (ex_index rfl rfl rfl (run_idx1 (k := (i / 8 : Nat)) Tryz.underlying188 t2es188 (by omega))) (dF (.int .u8 ((bm30[i / 8]?.getD 0).toNat : Int)) rfl (fun hv => ex_load rfl rfl (run_load1 t2na5 (load8 (hv.get 0 rfl) (by omega)))) fun f37 hf37 => ?_)
   refine dM (vI i) rfl ?_
   simp only [zP, po]
   refine dS rfl fun w38 hv => mC t1callable101 rfl ((strMask B _ _ (i : Int) (by omega) hv).mono ?_) rfl
   rintro e w40 ⟨mk39, rfl, hv⟩
   refine ⟨_, rfl, dV hv (fC (fun ww hv => hf37 ww (ex_load rfl rfl (run_load1 t2na5 (load8 (hv.get 0 rfl) (by omega))))) fN) ?_⟩
   refine dG (.int .u8 ((bitsB .or (bm30[i / 8]?.getD 0) mk39).toNat : Int)) rfl (ex_bitsB (c := (bm30[i / 8]?.getD 0)) (d := mk39) rfl rfl rfl rfl) (dG (.pointer (some ⟨b14, 0 + (i / 8 : Nat), none⟩)) rfl (ex_index rfl rfl rfl (run_idx1 (k := (i / 8 : Nat)) Tryz.underlying188 t2es188 (by omega))) ?_)
   simp only [zP, po]
   refine dS rfl fun w41 hv => mem_storeAt 0 (v := .int .u8 ((bitsB .or (bm30[i / 8]?.getD 0) mk39).toNat : Int)) (L' := (bm30.set (i / 8) (bitsB .or (bm30[i / 8]?.getD 0) mk39)).map B8) rfl rfl rfl rfl hv rfl t2sz5 (by rw [List.length_map]; omega) rfl rfl (by rw [Nat.zero_add]; exact map_set8 bm30 (i / 8) (bitsB .or (bm30[i / 8]?.getD 0) mk39)) (fun w42 hv => ?_)
   simp only [zO] at hv
   obtain ⟨bm43, hbm44, hbe45⟩ : ∃ q : List UInt8, q.length = bm30.length ∧ (bm30.set (i / 8) (bitsB .or (bm30[i / 8]?.getD 0) mk39)) = q := ⟨_, List.length_set, rfl⟩
   rw [hbe45] at hv
   refine dV hv (fK rfl fN) (dE fun w46 hv => ?_)
   simp only [zP, po]
   refine tK k34 (sK fun _ k47 => ?_)
   refine rW mixed [4] [0,1,2,3,4,5,6,7] 58 rfl (by kernel_rfl) hv ?_
   simp only [qm, opAt]
   refine dM (.slice (some ⟨b14, 0, none⟩) (max s.length (i / 8 + 1) : Nat) (max s.length (i / 8 + 1) : Nat)) rfl (dF (vS bm43) rfl (fun hv => ex_str Tryz.underlying188 Tryz.underlying5 Tryz.underlying9 rfl rfl (bytes_all (hv.get 0 rfl)) (by omega)) fun f48 hf48 => ?_)
   refine dM (vS s) rfl ?_
   simp only [zP, po]
   refine dM (vI i) rfl (dS rfl fun w49 hv => ?_)
   refine mC t1callable80 rfl ((strBit B _ _ s hs (i : Int) (by omega) hv).mono ?_) rfl
   rintro e w51 ⟨r50, rfl, -, hv⟩
   refine ⟨_, rfl, dV hv (fC (fun ww hv => hf48 ww (ex_str Tryz.underlying188 Tryz.underlying5 Tryz.underlying9 rfl rfl (bytes_all (hv.get 0 rfl)) (by omega))) fN) ?_⟩
   refine dA (vS bm43) rfl ?_
   simp only [zP, po]
   refine dA (vI r50) rfl (dA (vI 0) rfl ?_)
   refine dE fun w52 hv => ?_
   simp only [zP, po]
   refine tK k47 (rR ?_)
   refine bodyPost_ret (results_tmp3 rfl _ _ _) rfl (⟨_, _, _, rfl, (hv.kp [] 0 1)⟩)
  refine uG (.bool false) rfl (ex_eql rfl rfl rfl (qF hb36)) (uW k35 ?_)
  refine cF rfl (kS ?_)
  refine tK k34 (sK fun _ k53 => ?_)
  refine rW mixed [4] [0,1,2,3,4,5,6,7] 58 rfl (by kernel_rfl) hv ?_
  simp only [qm, opAt]
  refine dM (.slice (some ⟨b14, 0, none⟩) (max s.length (i / 8 + 1) : Nat) (max s.length (i / 8 + 1) : Nat)) rfl (dF (vS bm30) rfl (fun hv => ex_str Tryz.underlying188 Tryz.underlying5 Tryz.underlying9 rfl rfl (bytes_all (hv.get 0 rfl)) (by omega)) fun f54 hf54 => ?_)
  refine dM (vS s) rfl ?_
  simp only [zP, po]
  refine dM (vI i) rfl (dS rfl fun w55 hv => ?_)
  refine mC t1callable80 rfl ((strBit B _ _ s hs (i : Int) (by omega) hv).mono ?_) rfl
  rintro e w57 ⟨r56, rfl, -, hv⟩
  refine ⟨_, rfl, dV hv (fC (fun ww hv => hf54 ww (ex_str Tryz.underlying188 Tryz.underlying5 Tryz.underlying9 rfl rfl (bytes_all (hv.get 0 rfl)) (by omega))) fN) ?_⟩
  refine dA (vS bm30) rfl ?_
  simp only [zP, po]
  refine dA (vI r56) rfl (dA (vI 0) rfl ?_)
  refine dE fun w58 hv => ?_
  simp only [zP, po]
  refine tK k53 (rR ?_)
  refine bodyPost_ret (results_tmp3 rfl _ _ _) rfl (⟨_, _, _, rfl, (hv.kp [] 0 1)⟩)
 refine uG (.bool false) rfl (ex_neq rfl rfl rfl (qF hb6)) ?_
 refine uM rfl ?_
 refine uP rfl ?_
 refine uP rfl ?_
 refine uK rfl (uK rfl ?_)
 refine uW k3 (cF rfl ?_)
 refine kS (tK k2 ?_)
 refine sK fun _ k59 => sK fun _ k60 => ?_
 obtain ⟨i, rfl⟩ : ∃ q : Nat, at9 = (q : Int) := ⟨at9.toNat, by omega⟩
 refine rL (uM rfl ?_)
 refine uG (vI ((i / 8 : Nat) : Int)) rfl (ex_quo (m := (i : Int)) (n := 8) rfl rfl rfl (by decide) (by have := quo8 (i : Int) (by omega) (by omega); rwa [Int.toNat_natCast] at this)) ?_
 by_cases hb61 : ((i / 8 : Nat) : Int) ≥ 4096
 ·refine uG (.bool true) rfl (ex_geq rfl rfl rfl (qT hb61)) (uW k60 ?_)
  refine cT rfl (sK fun _ k62 => ?_)
  refine rL (uA rfl ?_)
  refine uA rfl (uA rfl ?_)
  refine uW k62 (rR ?_)
  refine tR (bodyPost_ret (results_tmp3 rfl _ _ _) rfl ?_)
  exact ⟨_, _, _, rfl, hv⟩
 refine uG (.bool false) rfl (ex_geq rfl rfl rfl (qF hb61)) (uW k60 ?_)
 refine cF rfl (kS ?_)
 refine tK k59 (sK fun _ k63 => ?_)
 refine rL (uM rfl ?_)
 refine uG (vI (s.length : Int)) rfl (ex_lenStr Tryz.underlying9 rfl rfl) (uM rfl ?_)
 refine uG (vI ((i / 8 : Nat) : Int)) rfl (ex_quo (m := (i : Int)) (n := 8) rfl rfl rfl (by decide) (by have := quo8 (i : Int) (by omega) (by omega); rwa [Int.toNat_natCast] at this)) ?_
 refine uG (vI ((i / 8 + 1 : Nat) : Int)) rfl (ex_add rfl rfl rfl (by rw [i64_in (by omega)]; omega)) ?_
 refine uG (vI ((max s.length (i / 8 + 1) : Nat) : Int)) rfl (ex_max2 (m := (s.length : Int)) (n := ((i / 8 + 1 : Nat) : Int)) rfl rfl rfl (by split <;> omega)) ?_
 refine sl_make1 (len := (max s.length (i / 8 + 1) : Nat)) (cap := (max s.length (i / 8 + 1) : Nat)) tV (wn rfl) rfl rfl rfl Tryz.underlying188 t2mk5 rfl (by omega) (by unfold maxLen; omega) (by omega) hv (fun b64 w65 hv => ?_)
 obtain ⟨bm66, hbm67, hbe68⟩ := rep8 (max s.length (i / 8 + 1) : Nat)
 rw [hbe68] at hv
 refine uA rfl (uW k63 ?_)
 refine sK fun _ k69 => rL (uM rfl ?_)
 refine uM rfl ?_
 refine sl_copyStr 0 (L := bm66) (s := s) tV (wn rfl) rfl rfl rfl Tryz.underlying188 t2sz5 hv rfl (by omega) (by omega) (fun bm70 w72 hbm71 hv => ?_)
 simp only [zO] at hv
 refine uW k69 (sK fun _ k73 => ?_)
 refine rW mixed [6, 9] [0,1,2,3,4,5,6,7,8,9] 58 rfl (by kernel_rfl) hv ?_
 simp only [qm, opAt]
 refine dM (.slice (some ⟨b64, 0, none⟩) (max s.length (i / 8 + 1) : Nat) (max s.length (i / 8 + 1) : Nat)) rfl (dM (vI i) rfl ?_)
 refine dG (vI ((i / 8 : Nat) : Int)) rfl (ex_quo (m := (i : Int)) (n := 8) rfl rfl rfl (by decide) (by have := quo8 (i : Int) (by omega) (by omega); rwa [Int.toNat_natCast] at this)) ?_
 simp only [zP, po]
 refine dG (.pointer (some ⟨b64, 0 + (i / 8 : Nat), none⟩)) rfl (ex_index rfl rfl rfl (run_idx1 (k := (i / 8 : Nat)) Tryz.underlying188 t2es188 (by omega))) (dF (.int .u8 ((bm70[i / 8]?.getD 0).toNat : Int)) rfl (fun hv => ex_load rfl rfl (run_load1 t2na5 (load8 (hv.get 0 rfl) (by omega)))) fun f74 hf74 => ?_)
 refine dM (vI i) rfl ?_
 simp only [zP, po]
 refine dS rfl fun w75 hv => mC t1callable101 rfl ((strMask B _ _ (i : Int) (by omega) hv).mono ?_) rfl
 rintro e w77 ⟨mk76, rfl, hv⟩
 refine ⟨_, rfl, dV hv (fC (fun ww hv => hf74 ww (ex_load rfl rfl (run_load1 t2na5 (load8 (hv.get 0 rfl) (by omega))))) fN) ?_⟩
 refine dG (.int .u8 ((bitsB .andNot (bm70[i / 8]?.getD 0) mk76).toNat : Int)) rfl (ex_bitsB (c := (bm70[i / 8]?.getD 0)) (d := mk76) rfl rfl rfl rfl) (dG (.pointer (some ⟨b64, 0 + (i / 8 : Nat), none⟩)) rfl (ex_index rfl rfl rfl (run_idx1 (k := (i / 8 : Nat)) Tryz.underlying188 t2es188 (by omega))) ?_)
 simp only [zP, po]
 refine dS rfl fun w78 hv => mem_storeAt 0 (v := .int .u8 ((bitsB .andNot (bm70[i / 8]?.getD 0) mk76).toNat : Int)) (L' := (bm70.set (i / 8) (bitsB .andNot (bm70[i / 8]?.getD 0) mk76)).map B8) rfl rfl rfl rfl hv rfl t2sz5 (by rw [List.length_map]; omega) rfl rfl (by rw [Nat.zero_add]; exact map_set8 bm70 (i / 8) (bitsB .andNot (bm70[i / 8]?.getD 0) mk76)) (fun w79 hv => ?_)
 simp only [zO] at hv
 obtain ⟨bm80, hbm81, hbe82⟩ : ∃ q : List UInt8, q.length = bm70.length ∧ (bm70.set (i / 8) (bitsB .andNot (bm70[i / 8]?.getD 0) mk76)) = q := ⟨_, List.length_set, rfl⟩
 rw [hbe82] at hv
 refine dV hv (fK rfl fN) (dE fun w83 hv => ?_)
 simp only [zP, po]
 refine tK k73 (sK fun _ k84 => ?_)
 refine sK fun _ k85 => rL (uM rfl ?_)
 by_cases hb86 : bit = 1
 ·refine uG (.bool true) rfl (ex_eql rfl rfl rfl (qT hb86)) (uW k85 ?_)
  refine cT rfl (rW mixed [6, 9] [0,1,2,3,4,5,6,7,8,9] 58 rfl (by kernel_rfl) hv ?_)
  simp only [qm, opAt]
  refine dM (.slice (some ⟨b64, 0, none⟩) (max s.length (i / 8 + 1) : Nat) (max s.length (i / 8 + 1) : Nat)) rfl (dM (vI i) rfl ?_)
  refine dG (vI ((i / 8 : Nat) : Int)) rfl (ex_quo (m := (i : Int)) (n := 8) rfl rfl rfl (by decide) (by have := quo8 (i : Int) (by omega) (by omega); rwa [Int.toNat_natCast] at this)) ?_
  simp only [zP, po]
  refine dG (.pointer (some ⟨b64, 0 + (i / 8 : Nat), none⟩)) rfl (ex_index rfl rfl rfl (run_idx1 (k := (i / 8 : Nat)) Tryz.underlying188 t2es188 (by omega))) (dF (.int .u8 ((bm80[i / 8]?.getD 0).toNat : Int)) rfl (fun hv => ex_load rfl rfl (run_load1 t2na5 (load8 (hv.get 0 rfl) (by omega)))) fun f87 hf87 => ?_)
  refine dM (vI i) rfl ?_
  simp only [zP, po]
  refine dS rfl fun w88 hv => mC t1callable101 rfl ((strMask B _ _ (i : Int) (by omega) hv).mono ?_) rfl
  rintro e w90 ⟨mk89, rfl, hv⟩
  refine ⟨_, rfl, dV hv (fC (fun ww hv => hf87 ww (ex_load rfl rfl (run_load1 t2na5 (load8 (hv.get 0 rfl) (by omega))))) fN) ?_⟩
  refine dG (.int .u8 ((bitsB .or (bm80[i / 8]?.getD 0) mk89).toNat : Int)) rfl (ex_bitsB (c := (bm80[i / 8]?.getD 0)) (d := mk89) rfl rfl rfl rfl) (dG (.pointer (some ⟨b64, 0 + (i / 8 : Nat), none⟩)) rfl (ex_index rfl rfl rfl (run_idx1 (k := (i / 8 : Nat)) Tryz.underlying188 t2es188 (by omega))) ?_)
  simp only [zP, po]
  refine dS rfl fun w91 hv => mem_storeAt 0 (v := .int .u8 ((bitsB .or (bm80[i / 8]?.getD 0) mk89).toNat : Int)) (L' := (bm80.set (i / 8) (bitsB .or (bm80[i / 8]?.getD 0) mk89)).map B8) rfl rfl rfl rfl hv rfl t2sz5 (by rw [List.length_map]; omega) rfl rfl (by rw [Nat.zero_add]; exact map_set8 bm80 (i / 8) (bitsB .or (bm80[i / 8]?.getD 0) mk89)) (fun w92 hv => ?_)
  simp only [zO] at hv
  obtain ⟨bm93, hbm94, hbe95⟩ : ∃ q : List UInt8, q.length = bm80.length ∧ (bm80.set (i / 8) (bitsB .or (bm80[i / 8]?.getD 0) mk89)) = q := ⟨_, List.length_set, rfl⟩
  rw [hbe95] at hv
  refine dV hv (fK rfl fN) (dE fun w96 hv => ?_)
  simp only [zP, po]
  refine tK k84 (sK fun _ k97 => ?_)
  refine rW mixed [4] [0,1,2,3,4,5,6,7] 58 rfl (by kernel_rfl) hv ?_
  simp only [qm, opAt]
  refine dM (.slice (some ⟨b64, 0, none⟩) (max s.length (i / 8 + 1) : Nat) (max s.length (i / 8 + 1) : Nat)) rfl (dF (vS bm93) rfl (fun hv => ex_str Tryz.underlying188 Tryz.underlying5 Tryz.underlying9 rfl rfl (bytes_all (hv.get 0 rfl)) (by omega)) fun f98 hf98 => ?_)
  refine dM (vS s) rfl ?_
  simp only [zP, po]
  refine dM (vI i) rfl (dS rfl fun w99 hv => ?_)
  refine mC t1callable80 rfl ((strBit B _ _ s hs (i : Int) (by omega) hv).mono ?_) rfl
  rintro e w101 ⟨r100, rfl, -, hv⟩
  refine ⟨_, rfl, dV hv (fC (fun ww hv => hf98 ww (ex_str Tryz.underlying188 Tryz.underlying5 Tryz.underlying9 rfl rfl (bytes_all (hv.get 0 rfl)) (by omega))) fN) ?_⟩
  refine dA (vS bm93) rfl ?_
  simp only [zP, po]
  refine dA (vI r100) rfl (dA (vI 0) rfl ?_)
  refine dE fun w102 hv => ?_
  simp only [zP, po]
  refine tK k97 (rR ?_)
  refine bodyPost_ret (results_tmp3 rfl _ _ _) rfl (⟨_, _, _, rfl, (hv.kp [] 0 1)⟩)
 refine uG (.bool false) rfl (ex_eql rfl rfl rfl (qF hb86)) (uW k85 ?_)
 refine cF rfl (kS ?_)
 refine tK k84 (sK fun _ k103 => ?_)
 refine rW mixed [4] [0,1,2,3,4,5,6,7] 58 rfl (by kernel_rfl) hv ?_
 simp only [qm, opAt]
 refine dM (.slice (some ⟨b64, 0, none⟩) (max s.length (i / 8 + 1) : Nat) (max s.length (i / 8 + 1) : Nat)) rfl (dF (vS bm80) rfl (fun hv => ex_str Tryz.underlying188 Tryz.underlying5 Tryz.underlying9 rfl rfl (bytes_all (hv.get 0 rfl)) (by omega)) fun f104 hf104 => ?_)
 refine dM (vS s) rfl ?_
 simp only [zP, po]
 refine dM (vI i) rfl (dS rfl fun w105 hv => ?_)
 refine mC t1callable80 rfl ((strBit B _ _ s hs (i : Int) (by omega) hv).mono ?_) rfl
 rintro e w107 ⟨r106, rfl, -, hv⟩
 refine ⟨_, rfl, dV hv (fC (fun ww hv => hf104 ww (ex_str Tryz.underlying188 Tryz.underlying5 Tryz.underlying9 rfl rfl (bytes_all (hv.get 0 rfl)) (by omega))) fN) ?_⟩
 refine dA (vS bm80) rfl ?_
 simp only [zP, po]
 refine dA (vI r106) rfl (dA (vI 0) rfl ?_)
 refine dE fun w108 hv => ?_
 simp only [zP, po]
 refine tK k103 (rR ?_)
 refine bodyPost_ret (results_tmp3 rfl _ _ _) rfl (⟨_, _, _, rfl, (hv.kp [] 0 1)⟩)
end Go.Proofs.YtmpackidbgfoiaaGreatDoor
namespace Go.Pm
open Go.RowKit Go.Sort
section
variable {s fresh out : List (List UInt8)} {i j : Nat} {x z : List UInt8}
end
abbrev Pr := List UInt8 × List UInt8
section
variable {h : List Pr} {f g t u : List UInt8} {i : Nat} {p : Pr}
end
end Go.Pm
namespace Go.Proofs.YtmpackidbgfoiaaGreatDoor
open Go.RowKit Go.Pm
def fitsI (n : Int) : Prop := -9223372036854775808 ≤ n ∧ n ≤ 9223372036854775807
instance (n : Int) : Decidable (fitsI n) := inferInstanceAs (Decidable (_ ∧ _))
def addF (a : Int) : List Int → Option Int
 | [] => some a
 | b :: bs => if fitsI (a + b) then addF (a + b) bs else none
theorem addF_at {bs : List Int} {i : Nat} {b s : Int} {r : Option Int} (h : r = addF s (bs.drop i)) (hb : bs[i]? = some b) : r = if fitsI (s + b) then addF (s + b) (bs.drop (i + 1)) else none := by
 obtain ⟨hi, rfl⟩ := List.getElem?_eq_some_iff.1 hb
 rw [h, List.drop_eq_getElem_cons hi]; rfl
theorem addF_one {a b : Int} : addF a [b] = if fitsI (a + b) then some (a + b) else none := rfl
theorem ndes126 (w : World) : (sizeOf (Tryz.prog.elem 126)).run Tryz.prog w = .ok 1 w := by kernel_rfl
theorem ndna3 (w : World) : (isAgg 3).run Tryz.prog w = .ok false w := by kernel_rfl
theorem numAdd (B : Base) (H : List Res) (w : World) (a : Int) (ha : -9223372036854775808 ≤ a ∧ a ≤ 9223372036854775807) (ba : Option Addr) (bc : Nat) (bs : List Int) (hrb : RdV B [] ba (intCells bs)) (hm : bs.length ≤ 1000000) (hbs : ∀ b ∈ bs, -9223372036854775808 ≤ b ∧ b ≤ 9223372036854775807) (hv : Inv B H w) :
  Calls Tryz.prog 91 #[vI a, .slice ba bs.length bc] w fun e w' => ∃ r ok, e = .returned (.tuple #[vI r, .bool ok]) ∧ ((ok = true ∧ (-9223372036854775808 ≤ r ∧ r ≤ 9223372036854775807) ∧ addF a bs = some r) ∨ (ok = false ∧ addF a bs = none)) ∧ Inv B H w' := by
 refine cW Tryz.func91 rfl Tryz.ntmps91 ?_
 simp only [al]
 refine sK fun _ k1 => rL (uA rfl ?_)
 refine uA rfl (uW k1 ?_)
 refine sK fun _ k2 => rL (uM rfl ?_)
 refine uA rfl (uW k2 ?_)
 refine sK fun _ k3 => sK fun _ k4 => rL (uM rfl ?_)
 refine uG (vI (bs.length : Int)) rfl (ex_len0 Tryz.underlying126 rfl rfl) (uM rfl ?_)
 refine uW k4 (bB ?_)
 gi_loopw [6, 12] (fun x6 x12 wr => ∃ (i : Nat) (s : Int), x6 = vI s ∧ x12 = vI i ∧ i ≤ bs.length ∧ (-9223372036854775808 ≤ s ∧ s ≤ 9223372036854775807) ∧ addF a bs = addF s (bs.drop i) ∧ Inv B H wr) (fun x6 x12 _ => bs.length - (intOf x12).toNat)
 case atStart => exact ⟨0, a, rfl, rfl, Nat.zero_le _, ha, rfl, hv⟩
 case round =>
  obtain ⟨i, s, rfl, rfl, hi, hs, hsum, hv⟩ := hrel
  refine sK fun _ k6 => rL ?_
  by_cases hb7 : (i : Int) < (bs.length : Int)
  ·refine uG (.bool true) rfl (ex_lss rfl rfl rfl (qT hb7)) (uW k6 ?_)
   refine sK fun _ k8 => cT rfl (kS ?_)
   refine tK k8 (sK fun _ k9 => ?_)
   refine bB (sK fun _ k10 => ?_)
   obtain ⟨b, hb⟩ : ∃ x, bs[i]? = some x := ⟨_, List.getElem?_eq_getElem (show i < bs.length by omega)⟩
   have hbf : -9223372036854775808 ≤ b ∧ b ≤ 9223372036854775807 := hbs b (List.mem_of_getElem? hb)
   obtain ⟨ib, io, had, hrdb⟩ := int_reads hrb hb
   subst had
   refine rL (uG (.pointer (some ⟨ib, io + i, none⟩)) rfl (ex_index rfl rfl rfl (run_idx1 (k := i) Tryz.underlying126 ndes126 (by omega))) ?_)
   refine uL _ rfl (run_load1 ndna3 (hrdb _ _ _ (Base.Le.refl _) no_res hv 0 _ rfl)) (uA rfl ?_)
   refine uW k10 (sK fun _ k11 => ?_)
   refine sK fun _ k12 => rL (uM rfl ?_)
   by_cases hb13 : b > 0
   ·refine uG (.bool true) rfl (ex_gtr rfl rfl rfl (qT hb13)) (uM rfl ?_)
    refine uM rfl ?_
    refine uM rfl ?_
    refine uG (vI (9223372036854775807 - b)) rfl (ex_sub rfl rfl rfl (i64_in (by omega))) ?_
    by_cases hb14 : s > (9223372036854775807 - b)
    ·refine uG (.bool true) rfl (ex_gtr rfl rfl rfl (qT hb14)) (uK rfl ?_)
     refine uW k12 (cT rfl ?_)
     refine sK fun _ k15 => rL (uA rfl ?_)
     refine uA rfl (uW k15 ?_)
     refine rR (tR ?_)
     refine bZ (tR ?_)
     refine tR (bZ ?_)
     refine tR (bodyPost_ret (results_tmp2 rfl _ _ _) rfl ?_)
     exact ⟨0, false, rfl, .inr ⟨rfl, by rw [addF_at hsum hb, if_neg (fun h9 : fitsI (s + b) => by have h8 := h9.1; have h7 := h9.2; omega)]⟩, hv⟩
    refine uG (.bool false) rfl (ex_gtr rfl rfl rfl (qF hb14)) (uK rfl ?_)
    refine uW k12 (cF rfl ?_)
    refine kS (tK k11 ?_)
    refine sK fun _ k16 => sK fun _ k17 => rL (uM rfl ?_)
    by_cases hb18 : b < 0
    ·refine uG (.bool true) rfl (ex_lss rfl rfl rfl (qT hb18)) (uM rfl ?_)
     refine uM rfl ?_
     refine uM rfl ?_
     refine uG (vI ((-9223372036854775808) - b)) rfl (ex_sub rfl rfl rfl (i64_in (by omega))) ?_
     by_cases hb19 : s < ((-9223372036854775808) - b)
     ·refine uG (.bool true) rfl (ex_lss rfl rfl rfl (qT hb19)) (uK rfl ?_)
      refine uW k17 (cT rfl ?_)
      refine sK fun _ k20 => rL (uA rfl ?_)
      refine uA rfl (uW k20 ?_)
      refine rR (tR ?_)
      refine bZ (tR ?_)
      refine tR (bZ ?_)
      refine tR (bodyPost_ret (results_tmp2 rfl _ _ _) rfl ?_)
      exact ⟨0, false, rfl, .inr ⟨rfl, by rw [addF_at hsum hb, if_neg (fun h9 : fitsI (s + b) => by have h8 := h9.1; have h7 := h9.2; omega)]⟩, hv⟩
     refine uG (.bool false) rfl (ex_lss rfl rfl rfl (qF hb19)) (uK rfl ?_)
     refine uW k17 (cF rfl ?_)
     refine kS (tK k16 ?_)
     refine rL (uM rfl ?_)
     refine uM rfl ?_
     refine uG (vI (s + b)) rfl (ex_add rfl rfl rfl (i64_in (by omega))) (uA rfl ?_)
     refine uZ (bN ?_)
     refine tK k9 (rL ?_)
     refine uG (vI ((i + 1 : Nat) : Int)) rfl (ex_add rfl rfl rfl (by rw [i64_in (by omega)]; omega)) (uM rfl ?_)
     refine uZ (then_normal ?_)
     go_roundw
     case rel => exact ⟨i + 1, s + b, rfl, rfl, by omega, by omega, by rw [addF_at hsum hb, if_pos (show fitsI (s + b) from ⟨by omega, by omega⟩)], hv⟩
     case measure => show bs.length - (((i + 1 : Nat) : Int)).toNat < bs.length - ((i : Int)).toNat; omega
    refine uG (.bool false) rfl (ex_lss rfl rfl rfl (qF hb18)) (uM rfl ?_)
    iterate 4 refine uP rfl ?_
    refine uK rfl (uW k17 ?_)
    refine cF rfl (kS ?_)
    refine tK k16 (rL ?_)
    refine uM rfl (uM rfl ?_)
    refine uG (vI (s + b)) rfl (ex_add rfl rfl rfl (i64_in (by omega))) (uA rfl ?_)
    refine uZ (bN ?_)
    refine tK k9 (rL ?_)
    refine uG (vI ((i + 1 : Nat) : Int)) rfl (ex_add rfl rfl rfl (by rw [i64_in (by omega)]; omega)) (uM rfl ?_)
    refine uZ (then_normal ?_)
    go_roundw
    case rel => exact ⟨i + 1, s + b, rfl, rfl, by omega, by omega, by rw [addF_at hsum hb, if_pos (show fitsI (s + b) from ⟨by omega, by omega⟩)], hv⟩
    case measure => show bs.length - (((i + 1 : Nat) : Int)).toNat < bs.length - ((i : Int)).toNat; omega
   refine uG (.bool false) rfl (ex_gtr rfl rfl rfl (qF hb13)) (uM rfl ?_)
   iterate 4 refine uP rfl ?_
   refine uK rfl (uW k12 ?_)
   refine cF rfl (kS ?_)
   refine tK k11 (sK fun _ k21 => ?_)
   refine sK fun _ k22 => rL (uM rfl ?_)
   by_cases hb23 : b < 0
   ·refine uG (.bool true) rfl (ex_lss rfl rfl rfl (qT hb23)) (uM rfl ?_)
    refine uM rfl ?_
    refine uM rfl ?_
    refine uG (vI ((-9223372036854775808) - b)) rfl (ex_sub rfl rfl rfl (i64_in (by omega))) ?_
    by_cases hb24 : s < ((-9223372036854775808) - b)
    ·refine uG (.bool true) rfl (ex_lss rfl rfl rfl (qT hb24)) (uK rfl ?_)
     refine uW k22 (cT rfl ?_)
     refine sK fun _ k25 => rL (uA rfl ?_)
     refine uA rfl (uW k25 ?_)
     refine rR (tR ?_)
     refine bZ (tR ?_)
     refine tR (bZ ?_)
     refine tR (bodyPost_ret (results_tmp2 rfl _ _ _) rfl ?_)
     exact ⟨0, false, rfl, .inr ⟨rfl, by rw [addF_at hsum hb, if_neg (fun h9 : fitsI (s + b) => by have h8 := h9.1; have h7 := h9.2; omega)]⟩, hv⟩
    refine uG (.bool false) rfl (ex_lss rfl rfl rfl (qF hb24)) (uK rfl ?_)
    refine uW k22 (cF rfl ?_)
    refine kS (tK k21 ?_)
    refine rL (uM rfl ?_)
    refine uM rfl ?_
    refine uG (vI (s + b)) rfl (ex_add rfl rfl rfl (i64_in (by omega))) (uA rfl ?_)
    refine uZ (bN ?_)
    refine tK k9 (rL ?_)
    refine uG (vI ((i + 1 : Nat) : Int)) rfl (ex_add rfl rfl rfl (by rw [i64_in (by omega)]; omega)) (uM rfl ?_)
    refine uZ (then_normal ?_)
    go_roundw
    case rel => exact ⟨i + 1, s + b, rfl, rfl, by omega, by omega, by rw [addF_at hsum hb, if_pos (show fitsI (s + b) from ⟨by omega, by omega⟩)], hv⟩
    case measure => show bs.length - (((i + 1 : Nat) : Int)).toNat < bs.length - ((i : Int)).toNat; omega
   refine uG (.bool false) rfl (ex_lss rfl rfl rfl (qF hb23)) (uM rfl ?_)
   iterate 4 refine uP rfl ?_
   refine uK rfl (uW k22 ?_)
   refine cF rfl (kS ?_)
   refine tK k21 (rL ?_)
   refine uM rfl (uM rfl ?_)
   refine uG (vI (s + b)) rfl (ex_add rfl rfl rfl (i64_in (by omega))) (uA rfl ?_)
   refine uZ (bN ?_)
   refine tK k9 (rL ?_)
   refine uG (vI ((i + 1 : Nat) : Int)) rfl (ex_add rfl rfl rfl (by rw [i64_in (by omega)]; omega)) (uM rfl ?_)
   refine uZ (then_normal ?_)
   go_roundw
   case rel => exact ⟨i + 1, s + b, rfl, rfl, by omega, by omega, by rw [addF_at hsum hb, if_pos (show fitsI (s + b) from ⟨by omega, by omega⟩)], hv⟩
   case measure => show bs.length - (((i + 1 : Nat) : Int)).toNat < bs.length - ((i : Int)).toNat; omega
  refine uG (.bool false) rfl (ex_lss rfl rfl rfl (qF hb7)) (uW k6 ?_)
  refine sK fun _ k26 => cF rfl (xE ?_)
  refine tX (tX ?_)
  refine bH (tK k3 ?_)
  refine sK fun _ k27 => rL (uM rfl ?_)
  refine uA rfl (uA rfl ?_)
  refine uW k27 (rR ?_)
  refine bodyPost_ret (results_tmp2 rfl _ _ _) rfl ?_
  obtain rfl : i = bs.length := by omega
  rw [List.drop_length] at hsum
  exact ⟨s, true, rfl, .inl ⟨rfl, hs, hsum⟩, hv⟩
section
variable {M M' : List (List UInt8 × Ver)} {clk exp ec : Int} {key : List UInt8} {x : Val} {y : Ver}
end
def IncrI (s : List UInt8) (by_ sum ec : Int) : Prop := (ec ≠ 0 ∧ ((s ≠ [] ∧ NumP s 0 false) ∨ ∃ n, ((s = [] ∧ n = 0) ∨ NumP s n true) ∧ ¬ fitsI (n + by_))) ∨ (ec = 0 ∧ fitsI sum ∧ ∃ n, ((s = [] ∧ n = 0) ∨ NumP s n true) ∧ sum = n + by_)
section
variable {M M' : List (List UInt8 × Ver)} {clk : Int} {key f by_ : List UInt8} {ps : List Pr} {fs : List (List UInt8)} {r : Rp}
end
section
variable {M M' : List (List UInt8 × Ver)} {h : List Pr} {y : Ver} {ec : Int} {r : Rp} {ps out : List Pr} {fs : List (List UInt8)}
end
def textV (s : List UInt8) : Val := ⟨1, s, [], [], []⟩
theorem valOk1 {v : Val} (h : ValOk v) (hk : v.kind = 1) : v.text.length ≤ 4096 := by
 rcases h with h | h | h | h | h
 ·exact h.2.1
 ·omega
 ·omega
 ·omega
 omega
section
variable {M M' : List (List UInt8 × Ver)} {clk ec : Int} {key k x s : List UInt8} {y : Ver} {r r0 : Rp}
theorem OkM.text (h : OkM M) (ho : OfI M clk key 1 y ec) : y.val.text.length ≤ 4096 := by
 rcases ho with ⟨-, rfl, -⟩ | ⟨-, rfl, -⟩ | ⟨-, h1, h2, h3⟩
 ·exact Nat.zero_le _
 ·exact Nat.zero_le _
 exact valOk1 (h.alive h1 h2).2.1 h3
def SetR (M : List (List UInt8 × Ver)) (clk : Int) (k x : List UInt8) (ws : List (List UInt8)) (M' : List (List UInt8 × Ver)) (r : Rp) : Prop :=
 (ws = [] → ∃ e, KeepI M clk k (textV x) 0 e M' ∧ DoneR e (rText [79, 75]) r) ∧ (ws = [[78, 88]] → (∃ y, lookA M k = some y ∧ aliveB y clk = true) → M' = M ∧ r = rNone)
def IncR (M : List (List UInt8 × Ver)) (clk : Int) (k : List UInt8) (M' : List (List UInt8 × Ver)) (r : Rp) : Prop :=
 ∃ y ec, OfI M clk k 1 y ec ∧ (ec = 0 → ∃ n e1, IncrI y.val.text 0 n e1 ∧ (e1 = 0 → fitsI (n + 1) → ∃ e, KeepI M clk k (textV (Lib.itoa (n + 1))) y.expire e M' ∧ DoneR e (rInt (n + 1)) r))
def AppR (M : List (List UInt8 × Ver)) (clk : Int) (k x : List UInt8) (M' : List (List UInt8 × Ver)) (r : Rp) : Prop :=
 ∃ y ec, OfI M clk k 1 y ec ∧ (ec = 0 → y.val.text.length + x.length ≤ 4096 → ∃ (s : List UInt8) (e : Int), s.length = y.val.text.length + x.length ∧ KeepI M clk k (textV s) y.expire e M' ∧ DoneR e (rInt (s.length : Int)) r)
def HasT (M : List (List UInt8 × Ver)) (k s : List UInt8) : Prop := lookA M k = some ⟨0, false, 0, textV s⟩
theorem HasT.of (h : HasT M k s) (ho : OfI M 0 k 1 y ec) : ec = 0 ∧ y = ⟨0, false, 0, textV s⟩ := by
 rcases ho with ⟨-, -, hd⟩ | ⟨-, -, y9, h1, -, h3⟩ | ⟨h1, h2, -⟩
 ·have h8 := hd _ h
  exact absurd (show true = false from h8) (by decide)
 ·rw [h] at h1; cases h1; exact absurd rfl h3
 rw [h] at h2; cases h2; exact ⟨h1, rfl⟩
theorem keep_text {e : Int} (hk : k.length ≤ 256) (hx : x.length ≤ 4096) (h : KeepI M 0 k (textV x) 0 e M') : e = 0 ∧ HasT M' k x := by
 have hp : PutOk k (textV x) 0 := ⟨hk, .inl ⟨rfl, hx, rfl, rfl, rfl⟩, Int.le_refl _, by decide⟩
 have hf : FullV (textV x) := .inl rfl
 rcases keep_ok hk (fun _ => hp) h with ⟨h1, ⟨-, h2⟩ | ⟨h2, -⟩ | ⟨h2, -⟩⟩
 ·exact ⟨h1, by unfold HasT; rw [h2, look_upd, if_pos rfl]⟩
 ·exact absurd hf h2
 exact absurd hf h2
theorem done0 {e : Int} (h : DoneR e r0 r) (he : e = 0) : r = r0 := by
 rcases h with ⟨-, h⟩ | ⟨h, -⟩
 ·exact h
 exact absurd he h
abbrev kA : List UInt8 := [97]
theorem aw_set (h : SetR [] 0 kA [52, 49] [] M' r) : HasT M' kA [52, 49] ∧ r = rText [79, 75] := by
 obtain ⟨e, h1, h2⟩ := h.1 rfl
 obtain ⟨h3, h4⟩ := keep_text (by decide) (by decide) h1
 exact ⟨h4, done0 h2 h3⟩
theorem aw_nx (hT : HasT M kA s) (h : SetR M 0 kA x [[78, 88]] M' r) : M' = M ∧ r = rNone := h.2 rfl ⟨_, hT, rfl⟩
theorem incr41 {n e : Int} (h : IncrI [52, 49] 0 n e) : e = 0 ∧ n = 41 := by
 have hi : ([52, 49] : List UInt8) = Lib.itoa 41 := by decide +kernel
 have hN : NumP [52, 49] 41 true := .inl ⟨rfl, by decide, by decide, hi⟩
 rcases h with ⟨-, ⟨-, h⟩ | ⟨m, ⟨h, -⟩ | h, h2⟩⟩ | ⟨h1, -, m, ⟨h, -⟩ | h, h2⟩
 ·exact absurd (hN.uniq h).2 (by decide)
 ·cases h
 ·rw [← (hN.uniq h).1] at h2; exact absurd (by decide) h2
 ·cases h
 rw [← (hN.uniq h).1] at h2; exact ⟨h1, by omega⟩
theorem aw_inc (hT : HasT M kA [52, 49]) (h : IncR M 0 kA M' r) : HasT M' kA [52, 50] ∧ r = rInt 42 := by
 obtain ⟨y, ec, h1, h2⟩ := h
 obtain ⟨h3, rfl⟩ := hT.of h1
 obtain ⟨n, e1, h4, h5⟩ := h2 h3
 obtain ⟨rfl, rfl⟩ : e1 = 0 ∧ n = 41 := incr41 h4
 obtain ⟨e, h6, h7⟩ := h5 rfl (by decide)
 rw [show Lib.itoa (41 + 1) = [52, 50] by decide +kernel] at h6
 obtain ⟨h8, h9⟩ := keep_text (by decide) (by decide) h6
 exact ⟨h9, done0 h7 h8⟩
theorem aw_app (hT : HasT M kA [52, 50]) (h : AppR M 0 kA [121] M' r) : r = rInt 3 := by
 obtain ⟨y, ec, h1, h2⟩ := h
 obtain ⟨h3, rfl⟩ := hT.of h1
 obtain ⟨s, e, h4, h5, h6⟩ := h2 h3 (by decide)
 have hl : s.length = 3 := h4
 obtain ⟨h7, -⟩ := keep_text (by decide) (by omega) h5
 rw [done0 h6 h7, hl]; rfl
end
section
variable {M M' : List (List UInt8 × Ver)} {clk : Int} {k l : List UInt8} {y : Ver} {ok : Bool} {r : Rp} {ec : Int}
def gotM (M : List (List UInt8 × Ver)) (clk : Int) (k : List UInt8) : Option Ver := match lookA M k with
 | some y => if aliveB y clk = true then some y else none
 | none => none
theorem got_of (h : (ok = true ∧ lookA M k = some y ∧ aliveB y clk = true) ∨ (ok = false ∧ y = zver0 ∧ ∀ y9, lookA M k = some y9 → aliveB y9 clk = false)) : (ok = true ∧ gotM M clk k = some y) ∨ (ok = false ∧ y = zver0 ∧ gotM M clk k = none) := by
 rcases h with ⟨h1, h2, h3⟩ | ⟨h1, h2, h3⟩
 ·exact .inl ⟨h1, by unfold gotM; rw [h2]; exact if_pos h3⟩
 refine .inr ⟨h1, h2, ?_⟩
 unfold gotM
 cases hl : lookA M k with
 | none => rfl
 | some y9 => exact if_neg (by rw [h3 y9 hl]; decide)
theorem got_some (h : gotM M clk k = some y) : lookA M k = some y ∧ aliveB y clk = true := by
 unfold gotM at h
 cases hl : lookA M k with
 | none => rw [hl] at h; cases h
 | some y9 =>
  rw [hl] at h
  by_cases h9 : aliveB y9 clk = true
  ·simp only [h9, if_true] at h; cases h; exact ⟨rfl, h9⟩
  simp only [h9] at h; cases h
def DelI (M : List (List UInt8 × Ver)) (ks : List (List UInt8)) (ec : Int) (M' : List (List UInt8 × Ver)) : Prop := (ec = 0 ∧ (∀ k ∈ ks, k.length ≤ 256) ∧ M' = delM M ks) ∨ (ec ≠ 0 ∧ (∃ k ∈ ks, 256 < k.length) ∧ M' = M)
theorem delI_of {ks : List (List UInt8)} {B : Base} {es es' : List (List UInt8 × Value)} (hM : VM B es M) (h : (ec = 0 ∧ ks.any (fun s : List UInt8 => decide (s.length > 256)) = false ∧ VM B es' (delM M ks)) ∨ (ec = 2 ∧ ks.any (fun s : List UInt8 => decide (s.length > 256)) = true ∧ es' = es)) : ∃ M', VM B es' M' ∧ DelI M ks ec M' := by
 rcases h with ⟨h1, h2, h3⟩ | ⟨h1, h2, rfl⟩
 ·refine ⟨_, h3, .inl ⟨h1, fun k hk => ?_, rfl⟩⟩
  have := List.any_eq_false.1 h2 k hk
  simp only [decide_eq_true_eq] at this
  omega
 obtain ⟨k, h3, h4⟩ := List.any_eq_true.1 h2
 exact ⟨M, hM, .inr ⟨by omega, ⟨k, h3, of_decide_eq_true h4⟩, rfl⟩⟩
end
theorem nil_ok : SliceOk none 0 0 := ⟨Nat.le_refl _, Nat.zero_le _, fun _ => rfl⟩
theorem textV_at {B : Base} (s : List UInt8) : ValAt B (textV s) (vN) (vN) (vN) :=
 ⟨⟨none, 0, rfl, nil_ok, rdV_nil⟩, ⟨none, 0, rfl, nil_ok, rdV_nil⟩, ⟨none, 0, rfl, nil_ok, rdV_nil⟩, Nat.zero_le _, Nat.zero_le _, Nat.zero_le _⟩
theorem numSub (B : Base) (H : List Res) (w : World) (a b : Int) (ha : -9223372036854775808 ≤ a ∧ a ≤ 9223372036854775807) (hb0 : -9223372036854775808 ≤ b ∧ b ≤ 9223372036854775807) (hv : Inv B H w) :
  Calls Tryz.prog 92 #[vI a, vI b] w fun e w' => ∃ n ok, e = .returned (.tuple #[vI n, .bool ok]) ∧ (ok = true → -9223372036854775808 ≤ n ∧ n ≤ 9223372036854775807) ∧ Inv B H w' := by
 refine cW Tryz.func92 rfl Tryz.ntmps92 ?_
 simp only [al]
 refine sK fun _ k1 => rL (uA rfl ?_)
 refine uA rfl (uW k1 ?_)
 refine sK fun _ k2 => sK fun _ k3 => rL (uM rfl ?_)
 by_cases hb4 : b > 0
 ·refine uG (.bool true) rfl (ex_gtr rfl rfl rfl (qT hb4)) (uM rfl ?_)
  refine uM rfl ?_
  refine uM rfl ?_
  refine uG (vI ((-9223372036854775808) + b)) rfl (ex_add rfl rfl rfl (i64_in (by omega))) ?_
  by_cases hb5 : a < ((-9223372036854775808) + b)
  ·refine uG (.bool true) rfl (ex_lss rfl rfl rfl (qT hb5)) (uK rfl ?_)
   refine uW k3 (cT rfl ?_)
   refine sK fun _ k6 => rL (uA rfl ?_)
   refine uA rfl (uW k6 ?_)
   refine rR (tR ?_)
   refine bodyPost_ret (results_tmp2 rfl _ _ _) rfl (⟨0, false, rfl, fun h9 => (by cases h9), hv⟩)
  refine uG (.bool false) rfl (ex_lss rfl rfl rfl (qF hb5)) (uK rfl ?_)
  refine uW k3 (cF rfl ?_)
  refine kS (tK k2 ?_)
  refine sK fun _ k7 => sK fun _ k8 => rL (uM rfl ?_)
  by_cases hb9 : b < 0
  ·refine uG (.bool true) rfl (ex_lss rfl rfl rfl (qT hb9)) (uM rfl ?_)
   refine uM rfl ?_
   refine uM rfl ?_
   refine uG (vI (9223372036854775807 + b)) rfl (ex_add rfl rfl rfl (i64_in (by omega))) ?_
   by_cases hb10 : a > (9223372036854775807 + b)
   ·refine uG (.bool true) rfl (ex_gtr rfl rfl rfl (qT hb10)) (uK rfl ?_)
    refine uW k8 (cT rfl ?_)
    refine sK fun _ k11 => rL (uA rfl ?_)
    refine uA rfl (uW k11 ?_)
    refine rR (tR ?_)
    refine bodyPost_ret (results_tmp2 rfl _ _ _) rfl (⟨0, false, rfl, fun h9 => (by cases h9), hv⟩)
   refine uG (.bool false) rfl (ex_gtr rfl rfl rfl (qF hb10)) (uK rfl ?_)
   refine uW k8 (cF rfl ?_)
   refine kS (tK k7 ?_)
   refine sK fun _ k12 => rL (uM rfl ?_)
   refine uM rfl ?_
   refine uG (vI (a - b)) rfl (ex_sub rfl rfl rfl (i64_in (by omega))) (uA rfl ?_)
   refine uA rfl (uW k12 ?_)
   refine rR (bodyPost_ret (results_tmp2 rfl _ _ _) rfl ?_)
   exact ⟨_, true, rfl, fun _ => by omega, hv⟩
  refine uG (.bool false) rfl (ex_lss rfl rfl rfl (qF hb9)) (uM rfl ?_)
  iterate 4 refine uP rfl ?_
  refine uK rfl (uW k8 ?_)
  refine cF rfl (kS ?_)
  refine tK k7 (sK fun _ k13 => ?_)
  refine rL (uM rfl ?_)
  refine uM rfl ?_
  refine uG (vI (a - b)) rfl (ex_sub rfl rfl rfl (i64_in (by omega))) (uA rfl ?_)
  refine uA rfl (uW k13 ?_)
  refine rR (bodyPost_ret (results_tmp2 rfl _ _ _) rfl ?_)
  exact ⟨_, true, rfl, fun _ => by omega, hv⟩
 refine uG (.bool false) rfl (ex_gtr rfl rfl rfl (qF hb4)) (uM rfl ?_)
 iterate 4 refine uP rfl ?_
 refine uK rfl (uW k3 ?_)
 refine cF rfl (kS ?_)
 refine tK k2 (sK fun _ k14 => ?_)
 refine sK fun _ k15 => rL (uM rfl ?_)
 by_cases hb16 : b < 0
 ·refine uG (.bool true) rfl (ex_lss rfl rfl rfl (qT hb16)) (uM rfl ?_)
  refine uM rfl ?_
  refine uM rfl ?_
  refine uG (vI (9223372036854775807 + b)) rfl (ex_add rfl rfl rfl (i64_in (by omega))) ?_
  by_cases hb17 : a > (9223372036854775807 + b)
  ·refine uG (.bool true) rfl (ex_gtr rfl rfl rfl (qT hb17)) (uK rfl ?_)
   refine uW k15 (cT rfl ?_)
   refine sK fun _ k18 => rL (uA rfl ?_)
   refine uA rfl (uW k18 ?_)
   refine rR (tR ?_)
   refine bodyPost_ret (results_tmp2 rfl _ _ _) rfl (⟨0, false, rfl, fun h9 => (by cases h9), hv⟩)
  refine uG (.bool false) rfl (ex_gtr rfl rfl rfl (qF hb17)) (uK rfl ?_)
  refine uW k15 (cF rfl ?_)
  refine kS (tK k14 ?_)
  refine sK fun _ k19 => rL (uM rfl ?_)
  refine uM rfl ?_
  refine uG (vI (a - b)) rfl (ex_sub rfl rfl rfl (i64_in (by omega))) (uA rfl ?_)
  refine uA rfl (uW k19 ?_)
  refine rR (bodyPost_ret (results_tmp2 rfl _ _ _) rfl ?_)
  exact ⟨_, true, rfl, fun _ => by omega, hv⟩
 refine uG (.bool false) rfl (ex_lss rfl rfl rfl (qF hb16)) (uM rfl ?_)
 iterate 4 refine uP rfl ?_
 refine uK rfl (uW k15 ?_)
 refine cF rfl (kS ?_)
 refine tK k14 (sK fun _ k20 => ?_)
 refine rL (uM rfl ?_)
 refine uM rfl ?_
 refine uG (vI (a - b)) rfl (ex_sub rfl rfl rfl (i64_in (by omega))) (uA rfl ?_)
 refine uA rfl (uW k20 ?_)
 refine rR (bodyPost_ret (results_tmp2 rfl _ _ _) rfl ?_)
 exact ⟨_, true, rfl, fun _ => by omega, hv⟩
theorem indexInts (B : Base) (H : List Res) (w : World) (ia : Option Addr) (ic : Nat) (alw : List Int) (hri : RdV B [] ia (intCells alw)) (hml : alw.length ≤ 1000000) (x : Int) (hv : Inv B H w) :
  Calls Tryz.prog 109 #[.slice ia alw.length ic, vI x] w fun e w' => ∃ r : Int, e = .returned (vI r) ∧ (0 ≤ r ↔ x ∈ alw) ∧ Inv B H w' := by
 refine cW Tryz.func109 rfl Tryz.ntmps109 ?_
 simp only [al]
 refine sK fun _ k1 => rL (uA rfl ?_)
 refine uW k1 (sK fun _ k2 => ?_)
 refine sK fun _ k3 => rL (uM rfl ?_)
 refine uG (vI (alw.length : Int)) rfl (ex_len0 Tryz.underlying126 rfl rfl) (uM rfl ?_)
 refine uW k3 (bB ?_)
 gi_loopw [8] (fun x8 wr => ∃ (i : Nat), x8 = vI i ∧ i ≤ alw.length ∧ x ∉ alw.take i ∧ Inv B H wr) (fun x8 _ => alw.length - (intOf x8).toNat)
 case atStart => exact ⟨0, rfl, Nat.zero_le _, List.not_mem_nil, hv⟩
 case round =>
  obtain ⟨i, rfl, hi, hno, hv⟩ := hrel
  refine sK fun _ k5 => rL ?_
  by_cases hb6 : (i : Int) < (alw.length : Int)
  ·refine uG (.bool true) rfl (ex_lss rfl rfl rfl (qT hb6)) (uW k5 ?_)
   refine sK fun _ k7 => cT rfl (kS ?_)
   refine tK k7 (sK fun _ k8 => ?_)
   refine bB (sK fun _ k9 => ?_)
   refine rL (uM rfl ?_)
   refine uA rfl (uW k9 ?_)
   refine sK fun _ k10 => ?_
   obtain ⟨y, hy⟩ : ∃ y, alw[i]? = some y := ⟨_, List.getElem?_eq_getElem (by omega)⟩
   obtain ⟨ib, io, had, hrd0⟩ := int_reads hri hy
   subst had
   refine rL (uM rfl ?_)
   refine uM rfl (uM rfl ?_)
   refine uG (.pointer (some ⟨ib, io + i, none⟩)) rfl (ex_index rfl rfl rfl (run_idx1 (k := i) Tryz.underlying126 s11es126 (by omega))) ?_
   refine uL _ rfl (run_load1 s2na3 (hrd0 _ _ _ (Base.Le.refl _) no_res hv 0 _ rfl)) ?_
   by_cases hb11 : x = y
   ·refine uG (.bool true) rfl (ex_eql rfl rfl rfl (qT hb11)) (uW k10 ?_)
    refine cT rfl (sK fun _ k12 => ?_)
    refine rL (uM rfl ?_)
    refine uA rfl (uW k12 ?_)
    refine rR (bZ ?_)
    refine tR (tR ?_)
    refine bZ (tR ?_)
    refine bR rfl rfl (⟨_, rfl, ⟨fun _ => (by rw [hb11]; exact List.mem_of_getElem? hy), fun _ => by omega⟩, hv⟩)
   refine uG (.bool false) rfl (ex_eql rfl rfl rfl (qF hb11)) (uW k10 ?_)
   refine cF rfl (kS ?_)
   refine bN (tK k8 ?_)
   refine rL (uG (vI ((i + 1 : Nat) : Int)) rfl (ex_add rfl rfl rfl (by rw [i64_in (by omega)]; omega)) ?_)
   refine uM rfl (uZ ?_)
   refine then_normal ?_
   go_roundw
   case rel => exact ⟨i + 1, rfl, by omega, fun h9 => (by rw [take_next hy] at h9; rcases List.mem_append.1 h9 with h8 | h8; exact hno h8; exact hb11 (List.mem_singleton.1 h8)), hv⟩
   case measure => show alw.length - (((i + 1 : Nat) : Int)).toNat < alw.length - ((i : Int)).toNat; omega
  refine uG (.bool false) rfl (ex_lss rfl rfl rfl (qF hb6)) (uW k5 ?_)
  refine sK fun _ k13 => cF rfl (xE ?_)
  refine tX (tX ?_)
  refine bH (tK k2 ?_)
  refine sK fun _ k14 => rL (uA rfl ?_)
  refine uW k14 (rR ?_)
  refine bR rfl rfl ?_
  obtain rfl : i = alw.length := by omega
  rw [List.take_length] at hno
  exact ⟨_, rfl, ⟨fun h9 => (by omega), fun h9 => absurd h9 hno⟩, hv⟩
theorem cs0callable109 : Callable Tryz.prog 109 := cb Tryz.func109 (by kernel_rfl)
theorem containsInts (B : Base) (H : List Res) (w : World) (ia : Option Addr) (ic : Nat) (alw : List Int) (hri : RdV B [] ia (intCells alw)) (hml : alw.length ≤ 1000000) (x : Int) (hv : Inv B H w) :
  Calls Tryz.prog 103 #[.slice ia alw.length ic, vI x] w fun e w' => ∃ b : Bool, e = .returned (.bool b) ∧ (b = true ↔ x ∈ alw) ∧ Inv B H w' := by
 refine cW Tryz.func103 rfl Tryz.ntmps103 ?_
 simp only [al]
 refine sK fun _ k1 => rL (uA rfl ?_)
 refine uW k1 (sK fun _ k2 => ?_)
 refine rL (uM rfl ?_)
 refine uM rfl ?_
 refine xC cs0callable109 rfl ((indexInts B _ _ ia ic alw hri hml x hv).mono ?_) rfl
 rintro e w3 ⟨r, rfl, hr, hv⟩
 refine ⟨_, rfl, ?_⟩
 simp only [zP, po]
 by_cases hb4 : r ≥ 0
 ·refine uG (.bool true) rfl (ex_geq rfl rfl rfl (qT hb4)) (uA rfl ?_)
  refine uW k2 (rR ?_)
  refine bR rfl rfl (⟨_, rfl, ⟨fun _ => hr.1 (by omega), fun _ => rfl⟩, hv⟩)
 refine uG (.bool false) rfl (ex_geq rfl rfl rfl (qF hb4)) (uA rfl ?_)
 refine uW k2 (rR ?_)
 refine bR rfl rfl (⟨_, rfl, ⟨fun h9 => (by cases h9), fun h9 => absurd (hr.2 h9) (by omega)⟩, hv⟩)
theorem cs0al60 : AL Tryz.prog 60 [vI 0, vS [], vN, vN, vN] := fun w => by kernel_rfl
theorem cstrText (B : Base) (H : List Res) (w : World) (x : List UInt8) (hv : Inv B H w) :
  Calls Tryz.prog 58 #[vS x] w fun e w' => e = .returned (.agg #[vI 1, vS x, vN, vN, vN]) ∧ Inv B H w' := by
 refine cW Tryz.func58 rfl Tryz.ntmps58 ?_
 simp only [al]
 refine sK fun _ k1 => rL (sl_alloc tV (wn rfl) rfl hv cs0al60 (fun b2 w3 hv => ?_))
 refine uW k1 (sK fun _ k4 => ?_)
 refine rL (uM rfl ?_)
 refine uG (.agg #[vI 1, vS x, vN, vN, vN]) rfl (ex_buildN (vs := #[(0, vI 1), (1, vS x)]) rfl (by simp only [List.map_toArray, List.map_cons, List.map_nil]; rfl) (by kernel_rfl)) ?_
 refine xS 0 rfl hv s1sz60 rfl (by exact ⟨rfl, rfl, rfl, rfl, rfl, trivial⟩) (fun w5 hv => ?_)
 simp only [zO, sp] at hv
 refine uW k4 (rR ?_)
 refine bC 0 s1wd60 hv rfl rfl rfl rfl (⟨rfl, (hv.kp [] 0 1)⟩)
theorem cs0al38 : AL Tryz.prog 38 [vI 0, vS [], vI 0, vN] := fun w => by kernel_rfl
theorem cs0callable76 : Callable Tryz.prog 76 := cb Tryz.func76 (by kernel_rfl)
theorem cs0callable77 : Callable Tryz.prog 77 := cb Tryz.func77 (by kernel_rfl)
theorem cstrReply (B : Base) (H : List Res) (w : World) (ys : Int) (yg : Bool) (yx yk : Int) (yt9 : List UInt8) (p1 : Option Addr) (q1 c1 : Nat) (p2 : Option Addr) (q2 c2 : Nat) (p3 : Option Addr) (q3 c3 : Nat) (hv : Inv B H w) :
  Calls Tryz.prog 46 #[.agg #[vI ys, .bool yg, vI yx, vI yk, vS yt9, .slice p1 q1 c1, .slice p2 q2 c2, .slice p3 q3 c3]] w fun e w' => ∃ (k : Int) (s : List UInt8), e = .returned (.agg #[vI k, vS s, vI 0, vN]) ∧ k ≠ 1 ∧ Inv B H w' := by
 refine cW Tryz.func46 rfl Tryz.ntmps46 ?_
 simp only [al]
 refine sK fun _ k1 => rL (sl_box (L := [vI ys, .bool yg, vI yx, vI yk, vS yt9, .slice p1 q1 c1, .slice p2 q2 c2, .slice p3 q3 c3]) tV (wn rfl) rfl rfl hv (fun w => by kernel_rfl) (fun b2 w3 hv => ?_))
 refine sl_alloc tV (wn rfl) rfl hv cs0al38 (fun b4 w5 hv => ?_)
 refine uW k1 (sK fun _ k6 => ?_)
 refine sK fun _ k7 => rL (uF (.pointer (some ⟨b2, 3, none⟩)) rfl (x2fa81_3 _ _ _) ?_)
 refine uF (.pointer (some ⟨b2, 3, none⟩)) rfl (s12fa60_0 _ _ _) ?_
 refine uL _ rfl (run_load1 s2na3 (hv.load 1 3 rfl rfl)) ?_
 by_cases hb8 : yk ≠ 1
 ·refine uG (.bool true) rfl (ex_neq rfl rfl rfl (qT hb8)) (uW k7 ?_)
  refine cT rfl (sK fun _ k9 => ?_)
  refine rL (xC cs0callable76 rfl ((respNone B _ _ hv).mono ?_) rfl)
  rintro e w10 ⟨rfl, hv⟩
  refine ⟨_, rfl, ?_⟩
  refine xS 0 rfl hv rssz38 rfl (by exact ⟨rfl, rfl, rfl, rfl, trivial⟩) (fun w11 hv => ?_)
  simp only [zO, sp] at hv
  refine uW k9 (rR ?_)
  refine tR (bC 0 rswd38 hv rfl rfl rfl rfl ?_)
  exact ⟨_, _, rfl, by decide, (hv.kp [] 0 2)⟩
 refine uG (.bool false) rfl (ex_neq rfl rfl rfl (qF hb8)) (uW k7 ?_)
 refine cF rfl (kS ?_)
 refine tK k6 (sK fun _ k12 => ?_)
 refine rL (uF (.pointer (some ⟨b2, 3, none⟩)) rfl (x2fa81_3 _ _ _) ?_)
 refine uF (.pointer (some ⟨b2, 4, none⟩)) rfl (s12fa60_1 _ _ _) ?_
 refine uL _ rfl (run_load1 s9na9 (hv.load 1 4 rfl rfl)) ?_
 refine xC cs0callable77 rfl ((respStr B _ _ yt9 hv).mono ?_) rfl
 rintro e w13 ⟨rfl, hv⟩
 refine ⟨_, rfl, ?_⟩
 refine xS 0 rfl hv rssz38 rfl (by exact ⟨rfl, rfl, rfl, rfl, trivial⟩) (fun w14 hv => ?_)
 simp only [zO, sp] at hv
 refine uW k12 (rR ?_)
 refine bC 0 rswd38 hv rfl rfl rfl rfl (⟨_, _, rfl, by decide, (hv.kp [] 0 2)⟩)
theorem cs0callable48 : Callable Tryz.prog 48 := cb Tryz.func48 (by kernel_rfl)
theorem cstrTruth (B : Base) (H : List Res) (w : World) (b : Bool) (hv : Inv B H w) :
  Calls Tryz.prog 55 #[.bool b] w fun e w' => ∃ (n : Int), e = .returned (.agg #[vI 2, vS [], vI n, vN]) ∧ Inv B H w' := by
 refine cW Tryz.func55 rfl Tryz.ntmps55 ?_
 simp only [al]
 refine sK fun _ k1 => rL (sl_alloc tV (wn rfl) rfl hv cs0al38 (fun b2 w3 hv => ?_))
 refine uW k1 (sK fun _ k4 => ?_)
 refine sK fun _ k5 => rL (uM rfl ?_)
 refine uW k5 (wpIn_cond_split (t := b) rfl (fun hc6 => ?_) (fun hc6 => ?_))
 ·refine sK fun _ k7 => rL (xC cs0callable48 rfl ((respInt B _ _ 1 hv).mono ?_) rfl)
  rintro e w8 ⟨rfl, hv⟩
  refine ⟨_, rfl, ?_⟩
  refine xS 0 rfl hv rssz38 rfl (by exact ⟨rfl, rfl, rfl, rfl, trivial⟩) (fun w9 hv => ?_)
  simp only [zO, sp] at hv
  refine uW k7 (rR ?_)
  refine tR (bC 0 rswd38 hv rfl rfl rfl rfl ?_)
  exact ⟨_, rfl, (hv.kp [] 0 1)⟩
 refine kS (tK k4 ?_)
 refine sK fun _ k10 => rL (xC cs0callable48 rfl ((respInt B _ _ 0 hv).mono ?_) rfl)
 rintro e w11 ⟨rfl, hv⟩
 refine ⟨_, rfl, ?_⟩
 refine xS 0 rfl hv rssz38 rfl (by exact ⟨rfl, rfl, rfl, rfl, trivial⟩) (fun w12 hv => ?_)
 simp only [zO, sp] at hv
 refine uW k10 (rR ?_)
 refine bC 0 rswd38 hv rfl rfl rfl rfl (⟨_, rfl, (hv.kp [] 0 1)⟩)
theorem cstrPlace (B : Base) (H : List Res) (w : World) (n : Int) (hv : Inv B H w) :
  Calls Tryz.prog 89 #[vI n] w fun e w' => ∃ (n : Int), e = .returned (vI n) ∧ Inv B H w' := by
 refine cW Tryz.func89 rfl Tryz.ntmps89 ?_
 simp only [al]
 refine sK fun _ k1 => rL (uA rfl ?_)
 refine uW k1 (sK fun _ k2 => ?_)
 refine sK fun _ k3 => rL (uM rfl ?_)
 by_cases hb4 : n = 2
 ·refine uG (.bool true) rfl (ex_eql rfl rfl rfl (qT hb4)) (uW k3 ?_)
  refine cT rfl (sK fun _ k5 => ?_)
  refine rL (uA rfl ?_)
  refine uW k5 (rR ?_)
  refine tR (bR rfl rfl ?_)
  exact ⟨_, rfl, hv⟩
 refine uG (.bool false) rfl (ex_eql rfl rfl rfl (qF hb4)) (uW k3 ?_)
 refine cF rfl (kS ?_)
 refine tK k2 (sK fun _ k6 => ?_)
 refine rL (uM rfl ?_)
 refine uA rfl (uW k6 ?_)
 refine rR (bR rfl rfl ?_)
 exact ⟨_, rfl, hv⟩
theorem drop_ok {M M' : List (List UInt8 × Ver)} {clk e : Int} {k : List UInt8} {y : Ver} (hO : OkM M) (hg : gotM M clk k = some y) (h : DelI M [k] e M') : e = 0 ∧ OkM M' := by
 have hk := (hO.alive (got_some hg).1 (got_some hg).2).1
 rcases h with ⟨rfl, -, rfl⟩ | ⟨-, ⟨q, h1, h2⟩, -⟩
 ·exact ⟨rfl, hO.upd (.inl rfl)⟩
 rw [List.mem_singleton.1 h1] at h2; omega
theorem cs0fa72_0 : FA Tryz.prog 72 0 0 := fun w b o => by kernel_rfl
theorem cs0na28 (w : World) : (isAgg 28).run Tryz.prog w = .ok false w := by kernel_rfl
theorem cs0al81 : AL Tryz.prog 81 [vI 0, .bool false, vI 0, vI 0, vS [], vN, vN, vN] := fun w => by kernel_rfl
theorem cs0mk9 : (Tryz.prog.info? 9).map (fun i => (i.zero, i.size, i.bytes)) = some (some (vS []), 1, 16) := by kernel_rfl
theorem cs0el23 : Elem Tryz.prog 23 9 (vS []) 1 16 := elem_of Tryz.underlying23 cs0mk9 (by rfl) (by decide)
theorem cstrDrop (B : Base) (H : List Res) (w : World) (v t m s p wb : Nat) (va : Option Addr) (vc : Nat) (sv : Value) (clk : Int) (es : List (List UInt8 × Value)) (M : List (List UInt8 × Ver)) (hM : VM B es M) (hO : OkM M) (aa : Option Addr) (an ac : Nat) (k : List UInt8) (hv : Inv B (Res.cell v [.iface 52 (vP t)] 79 :: txR t m s p wb va vc sv clk es :: H) w) :
  Calls Tryz.prog 59 #[.agg #[vP v, .slice aa an ac], vS k] w fun e w' => ∃ C es' M', B.Le C ∧ e = .returned (vI 0) ∧ VM C es' M' ∧ OkM M' ∧ Inv C (Res.cell v [.iface 52 (vP t)] 79 :: txR t m s p wb va vc sv clk es' :: H) w' := by
 refine cW Tryz.func59 rfl Tryz.ntmps59 ?_
 simp only [al]
 refine sK fun _ k1 => rL (sl_box (L := [vP v, .slice aa an ac]) tV (wn rfl) rfl rfl hv (fun w => by kernel_rfl) (fun b2 w3 hv => ?_))
 refine uA rfl (uW k1 ?_)
 refine sK fun _ k4 => sK fun _ k5 => rL (uF (vP b2) rfl (cs0fa72_0 _ _ _) ?_)
 refine uL _ rfl (run_load1 cs0na28 (hv.load 0 0 rfl rfl)) ?_
 refine uG (vP v) rfl (ex_nil rfl rfl) ?_
 refine uF (vP v) rfl (v1fa79_0 _ _ _) ?_
 refine uL _ rfl (run_load1 v1na77 (hv.load 1 0 rfl rfl)) (uM rfl ?_)
 replace hv := hv.front 2 rfl
 simp only [eS, eZ] at hv
 refine wpi_callI v1callable172 tV wideC rfl (wn rfl) rfl rfl (r := vP t) (fun w => by kernel_rfl) (args := #[vS k]) (by simp only [List.map_toArray, List.map_cons, List.map_nil]; rfl) ((txnGet B _ _ t m s p wb va vc sv clk es M k (hM.more (Base.Le.refl _)) hv).mono ?_)
 rintro e w6 ⟨G, y, yp, yt, yz, oky, hG, rfl, hgot, hyv, hv⟩
 refine ⟨_, rfl, ?_⟩
 rcases got_of hgot with ⟨rfl, hg⟩ | ⟨rfl, rfl, hg⟩
 ·refine uM rfl (uE rfl ?_)
  refine uE rfl ?_
  refine sl_alloc tV (wn rfl) rfl hv cs0al81 (fun b7 w8 hv => ?_)
  refine xS 0 rfl hv x0sz81 rfl (by exact ⟨rfl, rfl, rfl, rfl, rfl, hyv.p.one, hyv.t.one, hyv.z.one, trivial⟩) (fun w9 hv => ?_)
  simp only [zO, sp] at hv
  refine uA rfl (uW k5 ?_)
  refine sK fun _ k10 => rL (uM rfl ?_)
  refine uG (.bool false) rfl (ex_not rfl rfl rfl) (uW k10 ?_)
  refine cF rfl (kS ?_)
  refine tK k4 (sK fun _ k11 => ?_)
  refine rL (uF (vP b2) rfl (cs0fa72_0 _ _ _) ?_)
  refine uL _ rfl (run_load1 cs0na28 (hv.load 2 0 rfl rfl)) ?_
  refine uG (vP v) rfl (ex_nil rfl rfl) ?_
  refine uF (vP v) rfl (v1fa79_0 _ _ _) ?_
  refine uL _ rfl (run_load1 v1na77 (hv.load 3 0 rfl rfl)) (uM rfl ?_)
  refine sl_rowOne (v := vS k) tV (wn rfl) rfl rfl hv cs0el23 rfl (fun b12 w13 hv => ?_)
  obtain ⟨K14, hK14, hv, hrkK14, hokK14, -⟩ := (hv.cellRow (n := 1) (c := 1) (size := 1) rfl (by decide) (by decide)).rowBy
  replace hv := hv.front 1 rfl
  simp only [eS, eZ] at hv
  refine wpi_callI v1callable171 tV wideC rfl (wn rfl) rfl rfl (r := vP t) (fun w => by kernel_rfl) (args := #[.slice (some ⟨b12, 0, none⟩) 1 1]) (by simp only [List.map_toArray, List.map_cons, List.map_nil]; rfl) ((txnDel K14 _ _ t m s p wb va vc sv clk es M _ 1 [k] hrkK14 (by simp) (hM.more (hG.trans hK14)) hv).mono ?_)
  rintro e w15 ⟨es2, e2, rfl, hdel, hv⟩
  refine ⟨_, rfl, ?_⟩
  obtain ⟨M2, hM2, hdl⟩ := delI_of (hM.more (hG.trans hK14)) hdel
  obtain ⟨rfl, hO2⟩ := drop_ok hO hg hdl
  refine uA rfl (uW k11 ?_)
  refine rR (bR rfl rfl ?_)
  exact ⟨K14, es2, M2, (hG.trans hK14), rfl, hM2.more (Base.Le.refl _), hO2, (hv.kp [3] 2 2)⟩
 refine uM rfl (uE rfl ?_)
 refine uE rfl ?_
 refine sl_alloc tV (wn rfl) rfl hv cs0al81 (fun b16 w17 hv => ?_)
 refine xS 0 rfl hv x0sz81 rfl (by exact ⟨rfl, rfl, rfl, rfl, rfl, hyv.p.one, hyv.t.one, hyv.z.one, trivial⟩) (fun w18 hv => ?_)
 simp only [zO, sp] at hv
 refine uA rfl (uW k5 ?_)
 refine sK fun _ k19 => rL (uM rfl ?_)
 refine uG (.bool true) rfl (ex_not rfl rfl rfl) (uW k19 ?_)
 refine cT rfl (sK fun _ k20 => ?_)
 refine rL (uA rfl ?_)
 refine uW k20 (rR ?_)
 refine tR (bR rfl rfl ?_)
 exact ⟨G, es, M, hG, rfl, hM.more hG, hO, (hv.kp [1, 3] 2 2)⟩
theorem cs0callable170 : Callable Tryz.prog 170 := cb Tryz.func170 (by kernel_rfl)
theorem cs0mk3 : (Tryz.prog.info? 3).map (fun i => (i.zero, i.size, i.bytes)) = some (some (vI 0), 1, 8) := by kernel_rfl
theorem cs0el126 : Elem Tryz.prog 126 3 (vI 0) 1 8 := elem_of Tryz.underlying126 cs0mk3 (by rfl) (by decide)
theorem cs0callable91 : Callable Tryz.prog 91 := cb Tryz.func91 (by kernel_rfl)
theorem cstrUntil (B : Base) (H : List Res) (w : World) (v t m s p wb : Nat) (va : Option Addr) (vc : Nat) (sv : Value) (clk : Int) (es : List (List UInt8 × Value)) (h0c : 0 ≤ clk) (h1c : clk ≤ 1099511627776) (aa : Option Addr) (an ac : Nat) (n : Int) (hnr : -9223372036854775808 ≤ n ∧ n ≤ 9223372036854775807) (hv : Inv B (Res.cell v [.iface 52 (vP t)] 79 :: txR t m s p wb va vc sv clk es :: H) w) :
  Calls Tryz.prog 84 #[.agg #[vP v, .slice aa an ac], vI n] w fun e w' => ∃ C n ec, B.Le C ∧ e = .returned (.tuple #[vI n, vI ec]) ∧ Inv C (Res.cell v [.iface 52 (vP t)] 79 :: txR t m s p wb va vc sv clk es :: H) w' := by
 refine cW Tryz.func84 rfl Tryz.ntmps84 ?_
 simp only [al]
 refine sK fun _ k1 => rL (sl_box (L := [vP v, .slice aa an ac]) tV (wn rfl) rfl rfl hv (fun w => by kernel_rfl) (fun b2 w3 hv => ?_))
 refine uA rfl (uA rfl ?_)
 refine uW k1 (sK fun _ k4 => ?_)
 refine sK fun _ k5 => rL (uM rfl ?_)
 by_cases hb6 : n < 1
 ·refine uG (.bool true) rfl (ex_lss rfl rfl rfl (qT hb6)) (uW k5 ?_)
  refine cT rfl (sK fun _ k7 => ?_)
  refine rL (uA rfl ?_)
  refine uA rfl (uW k7 ?_)
  refine rR (tR ?_)
  refine bodyPost_ret (results_tmp2 rfl _ _ _) rfl (⟨B, _, _, (Base.Le.refl _), rfl, (hv.kp [2, 2] 2 1)⟩)
 refine uG (.bool false) rfl (ex_lss rfl rfl rfl (qF hb6)) (uW k5 ?_)
 refine cF rfl (kS ?_)
 refine tK k4 (sK fun _ k8 => ?_)
 refine rL (uF (vP b2) rfl (cs0fa72_0 _ _ _) ?_)
 refine uL _ rfl (run_load1 cs0na28 (hv.load 0 0 rfl rfl)) ?_
 refine uG (vP v) rfl (ex_nil rfl rfl) ?_
 refine uF (vP v) rfl (v1fa79_0 _ _ _) ?_
 refine uL _ rfl (run_load1 v1na77 (hv.load 1 0 rfl rfl)) ?_
 replace hv := hv.front 2 rfl
 simp only [eS, eZ] at hv
 refine wpi_callI cs0callable170 tV wideC rfl (wn rfl) rfl rfl (r := vP t) (fun w => by kernel_rfl) (args := #[]) (by simp only [List.map_toArray, List.map_nil]) ((txnClock B _ _ t m s p wb va vc sv clk es hv).mono ?_)
 rintro e w9 ⟨rfl, hv⟩
 refine ⟨_, rfl, uM rfl ?_⟩
 refine sl_rowOne (v := vI n) tV (wn rfl) rfl rfl hv cs0el126 rfl (fun b10 w11 hv => ?_)
 obtain ⟨P, hP, hv, hrp, -, -⟩ := (hv.cellRow (n := 1) (c := 1) (size := 1) rfl (by decide) (by decide)).rowBy
 refine xC cs0callable91 rfl ((numAdd P _ _ clk (by omega) _ 1 [n] hrp (Nat.le_of_ble_eq_true rfl) (fun b hb => by rw [List.mem_singleton.1 hb]; exact hnr) hv).mono ?_) rfl
 rintro e w12 ⟨sm, sok, rfl, hadd, hv⟩
 refine ⟨_, rfl, ?_⟩
 cases sok
 ·refine uM rfl (uE rfl ?_)
  refine uE rfl (uA rfl ?_)
  refine uA rfl (uW k8 ?_)
  refine sK fun _ k13 => sK fun _ k14 => rL (uM rfl ?_)
  refine uG (.bool true) rfl (ex_not rfl rfl rfl) (uM rfl ?_)
  refine uP rfl ?_
  refine uP rfl (uK rfl ?_)
  refine uW k14 (cT rfl ?_)
  refine sK fun _ k15 => rL (uA rfl ?_)
  refine uA rfl (uW k15 ?_)
  refine rR (tR ?_)
  refine bodyPost_ret (results_tmp2 rfl _ _ _) rfl (⟨P, _, _, hP, rfl, (hv.kp [2] 2 1)⟩)
 refine uM rfl (uE rfl ?_)
 refine uE rfl (uA rfl ?_)
 refine uA rfl (uW k8 ?_)
 refine sK fun _ k16 => sK fun _ k17 => rL (uM rfl ?_)
 refine uG (.bool false) rfl (ex_not rfl rfl rfl) (uM rfl ?_)
 refine uM rfl ?_
 by_cases hb18 : sm > 1099511627776
 ·refine uG (.bool true) rfl (ex_gtr rfl rfl rfl (qT hb18)) (uK rfl ?_)
  refine uW k17 (cT rfl ?_)
  refine sK fun _ k19 => rL (uA rfl ?_)
  refine uA rfl (uW k19 ?_)
  refine rR (tR ?_)
  refine bodyPost_ret (results_tmp2 rfl _ _ _) rfl (⟨P, _, _, hP, rfl, (hv.kp [2] 2 1)⟩)
 refine uG (.bool false) rfl (ex_gtr rfl rfl rfl (qF hb18)) (uK rfl ?_)
 refine uW k17 (cF rfl ?_)
 refine kS (tK k16 ?_)
 refine sK fun _ k20 => rL (uM rfl ?_)
 refine uA rfl (uA rfl ?_)
 refine uW k20 (rR ?_)
 refine bodyPost_ret (results_tmp2 rfl _ _ _) rfl (⟨P, _, _, hP, rfl, (hv.kp [2] 2 1)⟩)
end Go.Proofs.YtmpackidbgfoiaaGreatDoor
