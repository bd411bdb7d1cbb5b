/- The reference's index: keys and chains that stay; what a search finds, what is set. -/
import Derived.Test.YtmhdpjifhfoabaaGreatDoorClNamE
import Derived.Test.YtmhdpjifhfoabaaGreatDoorClNamB
import Derived.Laws.Strings2
import Derived.Laws.IdiomStrings
import Derived.Test.YtmhdpjifhfoabaaGreatDoorClNamD
import Derived.Test.YtmhdpjifhfoabaaGreatDoorRows
import Derived.Shelf.SlIter.Collect
import Derived.Shelf.Sort.Plain
import Derived.Shelf.Slices.In.CompactS
import Derived.Shelf.Slices.In.SortNone
import Derived.Ground.NamesProg
import Derived.Ground.GgzProg
import Derived.Test.YtmhdpjifhfoabaaGreatDoorClNamC
import Derived.Sort.KeysCollected
import Derived.Sort.OwnSorted
set_option maxRecDepth 100000
set_option maxHeartbeats 16000000
set_option synthInstance.maxSize 4096
set_option synthInstance.maxHeartbeats 400000
namespace Go.Pm
open Go.RowKit
section
variable {M : Model} {key : List UInt8} {l : List Ver} {k : Nat} {ok : Bool}
end
theorem sliced_hiV {B : Base} {ad : Option Addr} {n c h : Nat} {xs : List Value} (size : Nat) (hok : SliceOk ad n c) (hr : RdV B [] ad xs) (hl : xs.length = n * size) (hh : h ≤ n) : ∃ a2, sliced ad 0 h c size = .slice a2 h c ∧ SliceOk a2 h c ∧ RdV B [] a2 (xs.take (h * size)) := by
 have hle := hok.le
 unfold sliced
 by_cases hc : c = 0
 ·rw [if_pos hc]
  refine ⟨ad, by simp, ⟨by omega, hok.max, hok.nil⟩, ?_⟩
  have : xs = [] := List.eq_nil_of_length_eq_zero (by rw [hl, show n = 0 by omega, Nat.zero_mul])
  rw [this, List.take_nil]
  exact rdV_nil_any _ _
 rw [if_neg hc]
 refine ⟨ad, ?_, ⟨by omega, hok.max, hok.nil⟩, fun i hi => ?_⟩
 ·cases ad with
  | none => exact absurd (hok.nil rfl) hc
  | some a =>
   obtain ⟨b, o, p⟩ := a
   simp only [Nat.zero_mul, Option.map_some, Nat.sub_zero]
   rfl
 rw [List.length_take] at hi
 obtain ⟨b, off, h1, h2⟩ := hr i (by omega)
 refine ⟨b, off, h1, ?_⟩
 rw [List.getElem_take]
 exact h2
theorem sliced_fromV {B : Base} {ad : Option Addr} {n c k : Nat} {xs : List Value} (size : Nat) (hok : SliceOk ad n c) (hr : RdV B [] ad xs) (hl : xs.length = n * size) (hk : k ≤ n) (hz : 0 < size) : ∃ a2 c2, sliced ad k n c size = .slice a2 (n - k) c2 ∧ SliceOk a2 (n - k) c2 ∧ RdV B [] a2 (xs.drop (k * size)) := by
 have hle := hok.le
 have hmx := hok.max
 rcases Nat.lt_or_ge k n with h | h
 ·obtain ⟨a2, h1, h2⟩ := sliced_rdV size hr hl hle hk hz
  refine ⟨a2, c - k, h1, ⟨by omega, by unfold maxLen at hmx ⊢; omega, fun e => ?_⟩, h2⟩
  subst e
  have hlt : 0 < (xs.drop (k * size)).length := by
   rw [List.length_drop, hl]
   have := Nat.mul_lt_mul_of_pos_right h hz
   omega
  obtain ⟨b, off, h3, -⟩ := h2 0 hlt
  cases h3
 obtain rfl : k = n := by omega
 have hd : xs.drop (k * size) = [] := List.drop_of_length_le (by omega)
 rw [hd]
 unfold sliced
 by_cases hc : c = k
 ·rw [if_pos hc]
  exact ⟨ad, c - k, rfl, ⟨by omega, by unfold maxLen at hmx ⊢; omega, fun _ => by omega⟩, rdV_nil_any _ _⟩
 rw [if_neg hc]
 refine ⟨_, c - k, rfl, ⟨by omega, by unfold maxLen at hmx ⊢; omega, fun e => ?_⟩, rdV_nil_any _ _⟩
 cases ad with
 | none => have := hok.nil rfl; omega
 | some a => cases e
section
variable {P : Program} {t : TypeId} {w : World}
theorem run_hiAny {ad : Option Addr} {n c h size : Nat} (ht : P.underlying t = some (.slice (P.elem t))) (hs : ∀ w, (sizeOf (P.elem t)).run P w = .ok size w) (h1 : h ≤ c) :
  (Instr.sliceAt t (.slice ad n c) none (some (.int .i64 (h : Int))) none).run P w = .ok (sliced ad 0 h c size) w := by
 rw [run_sliceAt_slice w t _ _ _ _ ht, run_slice_h w t _ n c ht .i64 h (by omega) (by omega), hs]
 simp only [Result.andThen, Int.toNat_natCast]
end
section
variable {P : Program} {a : Act} {w : World} {o : Oper} {t : TypeId} {x y : Operand} {l : List UInt8}
theorem ex_sidx0 {i : Nat} {c : UInt8} (ht : P.underlying t = some .string) (ho : o.op = .index t x y) (hx : a.eval x = .string ⟨l.toArray⟩) (hy : a.eval y = .int .i64 (i : Int)) (hc : l[i]? = some c) : Ex P a o w (.int .u8 (c.toNat : Int)) w := by
 obtain ⟨hi, rfl⟩ := List.getElem?_eq_some_iff.1 hc
 have h := run_index_string (P := P) w t ⟨l.toArray⟩ .i64 (i : Int) ht
 rw [dif_pos ⟨by omega, by show (i : Int) < (l.length : Int); omega⟩] at h
 have e : (⟨l.toArray⟩ : ByteArray)[((i : Int)).toNat]'(by show ((i : Int)).toNat < l.length; omega) = l[i] := rfl
 rw [e] at h
 unfold Ex
 simp [execOp, ho, hx, hy, h]
end
section
variable {a b : List UInt8} {i : Nat}
end
end Go.Pm
namespace Go.Proofs.YtmhdpjifhfoabaaGreatDoor
open Go.RowKit Go.Pm
def lowZ (n : Int) : Int := if 65 ≤ n ∧ n ≤ 90 then n + 32 else n
def SameC (x arg : List UInt8) : Prop := x.length = arg.length ∧ ∀ (k : Nat) (a b : UInt8), x[k]? = some a → arg[k]? = some b → lowZ (a.toNat : Int) = lowZ (b.toNat : Int)
def IsI (arg : List UInt8) (ws : List (List UInt8)) (r : Int) : Prop := (r = -1 ∧ ∀ x ∈ ws, ¬ SameC x arg) ∨ ∃ (i : Nat) (x : List UInt8), r = (i : Int) ∧ ws[i]? = some x ∧ SameC x arg ∧ ∀ (j : Nat) y, j < i → ws[j]? = some y → ¬ SameC y arg
theorem viewLow (B : Base) (H : List Res) (w : World) (n : Int) (h0 : 0 ≤ n) (h1 : n ≤ 255) (hv : Inv B H w) :
  Calls Tryz.prog 73 #[.int .u8 n] w fun e w' => e = .returned (.int .u8 (lowZ n)) ∧ Inv B H w' := by
 refine cW Tryz.func73 rfl Tryz.ntmps73 ?_
 simp only [al]
 refine sK fun _ k1 => rL (uA rfl ?_)
 refine uW k1 (sK fun _ k2 => ?_)
 refine sK fun _ k3 => rL (uM rfl ?_)
 by_cases hb4 : 65 ≤ n
 ·refine uG (.bool true) rfl (ex_leq rfl rfl rfl (qT hb4)) (uM rfl ?_)
  refine uM rfl ?_
  by_cases hb5 : n ≤ 90
  ·refine uG (.bool true) rfl (ex_leq rfl rfl rfl (qT hb5)) (uK rfl ?_)
   refine uW k3 (cT rfl ?_)
   refine sK fun _ k6 => rL (uM rfl ?_)
   refine uG (.int .u8 (n + 97)) rfl (ex_add rfl rfl rfl (u8_in (by omega))) ?_
   refine uG (.int .u8 (n + 32)) rfl (ex_sub rfl rfl rfl (by rw [u8_in (by omega)]; omega)) (uA rfl ?_)
   refine uW k6 (rR ?_)
   refine tR (bR rfl rfl ?_)
   exact ⟨congrArg (fun n : Int => Ending.returned (Value.int .u8 n)) (by unfold lowZ; split <;> omega), hv⟩
  refine uG (.bool false) rfl (ex_leq rfl rfl rfl (qF hb5)) (uK rfl ?_)
  refine uW k3 (cF rfl ?_)
  refine kS (tK k2 ?_)
  refine sK fun _ k7 => rL (uM rfl ?_)
  refine uA rfl (uW k7 ?_)
  refine rR (bR rfl rfl ?_)
  exact ⟨congrArg (fun n : Int => Ending.returned (Value.int .u8 n)) (by unfold lowZ; split <;> omega), hv⟩
 refine uG (.bool false) rfl (ex_leq rfl rfl rfl (qF hb4)) (uM rfl ?_)
 refine uP rfl ?_
 refine uP rfl (uK rfl ?_)
 refine uW k3 (cF rfl ?_)
 refine kS (tK k2 ?_)
 refine sK fun _ k8 => rL (uM rfl ?_)
 refine uA rfl (uW k8 ?_)
 refine rR (bR rfl rfl ?_)
 exact ⟨congrArg (fun n : Int => Ending.returned (Value.int .u8 n)) (by unfold lowZ; split <;> omega), hv⟩
theorem v5callable73 : Callable Tryz.prog 73 := cb Tryz.func73 (by kernel_rfl)
theorem viewIs (B : Base) (H : List Res) (w : World) (arg : List UInt8) (ka : Option Addr) (kc : Nat) (ws : List (List UInt8)) (hr : RdV B [] ka (textCells ws)) (hm : ws.length ≤ 1000000) (hma : arg.length ≤ 9223372036854775807) (hv : Inv B H w) :
  Calls Tryz.prog 44 #[vS arg, .slice ka ws.length kc] w fun e w' => ∃ r : Int, e = .returned (vI r) ∧ IsI arg ws r ∧ Inv B H w' := by
 refine cW Tryz.func44 rfl Tryz.ntmps44 ?_
 simp only [al]
 refine sK fun _ k1 => rL (uA rfl ?_)
 refine uW k1 (wpIn_scopeW ?_)
 refine sK fun _ k2 => wpIn_label (tK k2 ?_)
 refine sK fun _ k3 => sK fun _ k4 => rL (uM rfl ?_)
 refine uG (vI (ws.length : Int)) rfl (ex_len0 Tryz.underlying22 rfl rfl) (uM rfl ?_)
 refine uW k4 (bB ?_)
 gi_loopw [10] (fun x10 wr => ∃ (i : Nat), x10 = vI i ∧ i ≤ ws.length ∧ (∀ (j : Nat) y, j < i → ws[j]? = some y → ¬ SameC y arg) ∧ Inv B H wr) (fun x10 _ => ws.length - (intOf x10).toNat)
 case atStart => exact ⟨0, rfl, Nat.zero_le _, fun j y h => by omega, hv⟩
 case round =>
  obtain ⟨i, rfl, hi, hno, hv⟩ := hrel
  refine sK fun _ k6 => rL ?_
  by_cases hb7 : (i : Int) < (ws.length : Int)
  ·refine uG (.bool true) rfl (ex_lss rfl rfl rfl (qT hb7)) (uW k6 ?_)
   refine sK fun _ k8 => cT rfl (kS ?_)
   refine tK k8 (sK fun _ k9 => ?_)
   refine bB (sK fun _ k10 => ?_)
   obtain ⟨x, hx⟩ : ∃ x, ws[i]? = some x := ⟨_, List.getElem?_eq_getElem (show i < ws.length by omega)⟩
   obtain ⟨bb, bo, had, hrdx⟩ := text_reads hr hx
   subst had
   refine rL (uM rfl ?_)
   refine uG (.pointer (some ⟨bb, bo + i, none⟩)) rfl (ex_index rfl rfl rfl (run_idx1 (k := i) Tryz.underlying22 s9es22 (by omega))) ?_
   refine uL _ rfl (run_load1 s9na9 (hrdx _ _ _ (Base.Le.refl _) no_res hv 0 _ rfl)) (uA rfl ?_)
   refine uA rfl (uW k10 ?_)
   refine sK fun _ k11 => sK fun _ k12 => rL (uM rfl ?_)
   refine uG (vI (x.length : Int)) rfl (ex_lenStr Tryz.underlying9 rfl rfl) (uM rfl ?_)
   refine uG (vI (arg.length : Int)) rfl (ex_lenStr Tryz.underlying9 rfl rfl) ?_
   by_cases hb13 : (x.length : Int) ≠ (arg.length : Int)
   ·refine uG (.bool true) rfl (ex_neq rfl rfl rfl (qT hb13)) (uW k12 ?_)
    refine cT rfl (xE ?_)
    refine tX (bH ?_)
    refine tK k9 (rL ?_)
    refine uG (vI ((i + 1 : Nat) : Int)) rfl (ex_add rfl rfl rfl (by rw [i64_in (by omega)]; omega)) (uM rfl ?_)
    refine uZ (then_normal ?_)
    go_roundw
    case rel => exact ⟨i + 1, rfl, by omega, fun j9 y9 hj9 hy9 => (by
       rcases Nat.lt_or_ge j9 i with h | h
       ·exact hno j9 y9 h hy9
       obtain rfl : j9 = i := by omega
       rw [hx] at hy9; cases hy9
       exact fun h => by have h9 := h.1; omega), hv⟩
    case measure => show ws.length - (((i + 1 : Nat) : Int)).toNat < ws.length - ((i : Int)).toNat; omega
   refine uG (.bool false) rfl (ex_neq rfl rfl rfl (qF hb13)) (uW k12 ?_)
   refine cF rfl (kS ?_)
   refine tK k11 (sK fun _ k14 => ?_)
   refine sK fun _ k15 => rL (uM rfl ?_)
   refine uG (vI (x.length : Int)) rfl (ex_lenStr Tryz.underlying9 rfl rfl) (uM rfl ?_)
   refine uW k15 (bB ?_)
   gi_loopw [22] (fun x22 wr => ∃ (j : Nat), x22 = vI j ∧ j ≤ x.length ∧ (∀ (k : Nat) (a b : UInt8), k < j → x[k]? = some a → arg[k]? = some b → lowZ (a.toNat : Int) = lowZ (b.toNat : Int)) ∧ Inv B H wr) (fun x22 _ => x.length - (intOf x22).toNat)
   case atStart => exact ⟨0, rfl, Nat.zero_le _, fun k a b h => by omega, hv⟩
   case round =>
    obtain ⟨j, rfl, hj, heq, hv⟩ := hrel
    refine sK fun _ k17 => rL ?_
    by_cases hb18 : (j : Int) < (x.length : Int)
    ·refine uG (.bool true) rfl (ex_lss rfl rfl rfl (qT hb18)) (uW k17 ?_)
     refine sK fun _ k19 => cT rfl (kS ?_)
     refine tK k19 (sK fun _ k20 => ?_)
     refine bB (sK fun _ k21 => ?_)
     refine rL (uM rfl ?_)
     refine uA rfl (uW k21 ?_)
     refine sK fun _ k22 => ?_
     obtain ⟨a, ha⟩ : ∃ y, x[j]? = some y := ⟨_, List.getElem?_eq_getElem (show j < x.length by omega)⟩
     obtain ⟨b, hb⟩ : ∃ y, arg[j]? = some y := ⟨_, List.getElem?_eq_getElem (show j < arg.length by omega)⟩
     refine rW mixed [3, 7] [0,1,2,4,5,6,3,7,8] 37 rfl (by kernel_rfl) hv ?_
     simp only [qm, opAt]
     refine dM (vS x) rfl (dM (vI j) rfl ?_)
     refine dG (.int .u8 (a.toNat : Int)) rfl (ex_sidx0 Tryz.underlying9 rfl rfl rfl ha) ?_
     simp only [zP, po]
     refine dM (vS arg) rfl (dM (vI j) rfl ?_)
     refine dG (.int .u8 (b.toNat : Int)) rfl (ex_sidx0 Tryz.underlying9 rfl rfl rfl hb) ?_
     simp only [zP, po]
     refine dS rfl fun w23 hv => mC v5callable73 rfl ((viewLow B _ _ (a.toNat : Int) (by omega) (by have := a.toNat_lt; omega) hv).mono ?_) rfl
     rintro e w24 ⟨rfl, hv⟩
     refine ⟨_, rfl, dW hv ?_⟩
     refine dS rfl fun w25 hv => mC v5callable73 rfl ((viewLow B _ _ (b.toNat : Int) (by omega) (by have := b.toNat_lt; omega) hv).mono ?_) rfl
     rintro e w26 ⟨rfl, hv⟩
     refine ⟨_, rfl, dW hv ?_⟩
     by_cases hb27 : (lowZ (a.toNat : Int)) ≠ (lowZ (b.toNat : Int))
     ·refine dG (.bool true) rfl (ex_neq rfl rfl rfl (qT hb27)) (dE fun w28 hv => ?_)
      simp only [zP, po]
      refine tK k22 (cT rfl ?_)
      refine xE (bM rfl ?_)
      refine tX (tX ?_)
      refine bM rfl (tX ?_)
      refine bH (tK k9 ?_)
      refine rL (uG (vI ((i + 1 : Nat) : Int)) rfl (ex_add rfl rfl rfl (by rw [i64_in (by omega)]; omega)) ?_)
      refine uM rfl (uZ ?_)
      refine then_normal ?_
      go_roundw
      case rel => exact ⟨i + 1, rfl, by omega, fun j9 y9 hj9 hy9 => (by
         rcases Nat.lt_or_ge j9 i with h | h
         ·exact hno j9 y9 h hy9
         obtain rfl : j9 = i := by omega
         rw [hx] at hy9; cases hy9
         exact fun h => hb27 (h.2 j a b ha hb)), hv⟩
      case measure => show ws.length - (((i + 1 : Nat) : Int)).toNat < ws.length - ((i : Int)).toNat; omega
     refine dG (.bool false) rfl (ex_neq rfl rfl rfl (qF hb27)) (dE fun w29 hv => ?_)
     simp only [zP, po]
     refine tK k22 (cF rfl ?_)
     refine kS (bN ?_)
     refine tK k20 (rL ?_)
     refine uG (vI ((j + 1 : Nat) : Int)) rfl (ex_add rfl rfl rfl (by rw [i64_in (by omega)]; omega)) (uM rfl ?_)
     refine uZ (then_normal ?_)
     go_roundw
     case rel => exact ⟨j + 1, rfl, by omega, fun k9 a9 b9 hk9 ha9 hb9 => (by
        rcases Nat.lt_or_ge k9 j with h | h
        ·exact heq k9 a9 b9 h ha9 hb9
        obtain rfl : k9 = j := by omega
        rw [ha] at ha9; cases ha9
        rw [hb] at hb9; cases hb9
        omega), hv⟩
     case measure => show x.length - (((j + 1 : Nat) : Int)).toNat < x.length - ((j : Int)).toNat; omega
    refine uG (.bool false) rfl (ex_lss rfl rfl rfl (qF hb18)) (uW k17 ?_)
    refine sK fun _ k30 => cF rfl (xE ?_)
    refine tX (tX ?_)
    refine bH (tK k14 ?_)
    refine sK fun _ k31 => rL (uM rfl ?_)
    refine uA rfl (uW k31 ?_)
    refine rR (bZ ?_)
    refine tR (tR ?_)
    refine bZ (tR ?_)
    refine scope_ret (bR rfl rfl ?_)
    exact ⟨_, rfl, .inr ⟨i, x, rfl, hx, ⟨by omega, fun k9 a9 b9 ha9 hb9 => heq k9 a9 b9 (by have := (List.getElem?_eq_some_iff.1 ha9).1; omega) ha9 hb9⟩, hno⟩, hv⟩
  refine uG (.bool false) rfl (ex_lss rfl rfl rfl (qF hb7)) (uW k6 ?_)
  refine sK fun _ k32 => cF rfl (xE ?_)
  refine tX (tX ?_)
  refine bH (tK k3 ?_)
  refine sK fun _ k33 => rL (uA rfl ?_)
  refine uW k33 (rR ?_)
  refine scope_ret (bR rfl rfl ?_)
  obtain rfl : i = ws.length := by omega
  exact ⟨_, rfl, .inl ⟨rfl, fun y hy => (by obtain ⟨j9, hj9⟩ := List.mem_iff_getElem?.1 hy; exact hno j9 y (List.getElem?_eq_some_iff.1 hj9).1 hj9)⟩, hv⟩
end Go.Proofs.YtmhdpjifhfoabaaGreatDoor
namespace Go.Pm
abbrev W64 := List (BitVec 64)
def w0 : W64 := [0#64, 0#64, 0#64, 0#64]
def addW (s : W64) (c : Nat) : W64 := s.set (c / 64) (s.getD (c / 64) 0#64 ||| (1#64 <<< (c % 64)))
def addUpto (s : W64) (lo n : Nat) : W64 := (List.range n).foldl (fun s i => addW s (lo + i)) s
def addRangeW (s : W64) (a b : Nat) : W64 := addUpto s (min a b) (max a b - min a b + 1)
def invW (s : W64) : W64 := s.map (fun x => ~~~ x)
def hasW (s : W64) (c : Nat) : Bool := decide (((s.getD (c / 64) 0#64) >>> (c % 64)) &&& 1#64 = 1#64)
structure Part where
 star : Bool
 ws : W64
section
variable (p : List UInt8)
def chr (i : Nat) : Nat := (p.getD i 0).toNat
def litS (i : Nat) : Nat × Nat := if chr p i = 92 ∧ i + 1 < p.length then (chr p (i + 1), i + 2) else (chr p i, i + 1)
theorem litS_gt (i : Nat) : i < (litS p i).2 := by unfold litS; split <;> simp <;> omega
def highS (i : Nat) (lo : Nat) : Nat × Nat := if i + 1 < p.length ∧ chr p i = 45 ∧ chr p (i + 1) ≠ 93 then litS p (i + 1) else (lo, i)
theorem highS_ge (i lo : Nat) : i ≤ (highS p i lo).2 := by
 unfold highS; split
 ·have := litS_gt p (i + 1); omega
 simp
def classS (neg : Bool) (first i : Nat) (ws : W64) : Option (W64 × Nat) :=
 if h : i < p.length then
  if chr p i = 93 ∧ first < i then some (if neg then invW ws else ws, i + 1)
  else classS neg first (highS p (litS p i).2 (litS p i).1).2 (addRangeW ws (litS p i).1 (highS p (litS p i).2 (litS p i).1).1)
 else none
termination_by p.length - i
decreasing_by
 have h1 := litS_gt p i
 have h2 := highS_ge p (litS p i).2 (litS p i).1
 omega
theorem classS_end {neg : Bool} {first i : Nat} {ws : W64} (h : ¬ i < p.length) : classS p neg first i ws = none := by rw [classS, dif_neg h]
theorem classS_close {neg : Bool} {first i : Nat} {ws : W64} (h : i < p.length) (h2 : chr p i = 93 ∧ first < i) : classS p neg first i ws = some (if neg then invW ws else ws, i + 1) := by rw [classS, dif_pos h, if_pos h2]
theorem classS_step {neg : Bool} {first i : Nat} {ws : W64} (h : i < p.length) (h2 : ¬ (chr p i = 93 ∧ first < i)) : classS p neg first i ws = classS p neg first (highS p (litS p i).2 (litS p i).1).2 (addRangeW ws (litS p i).1 (highS p (litS p i).2 (litS p i).1).1) := by rw [classS, dif_pos h, if_neg h2]
def clsS (i : Nat) : Option (W64 × Nat) := if chr p i = 94 ∧ i < p.length then classS p true (i + 1) (i + 1) w0 else classS p false i i w0
theorem classS_le : ∀ (n : Nat) {neg : Bool} {first i : Nat} {ws : W64} {r : W64 × Nat}, p.length - i ≤ n → classS p neg first i ws = some r → i < r.2 ∧ r.2 ≤ p.length := by
 intro n
 induction n with
 | zero => intro neg first i ws r hn h; rw [classS_end p (by omega)] at h; cases h
 | succ n ih =>
  intro neg first i ws r hn h
  by_cases hi : i < p.length
  ·by_cases hc : chr p i = 93 ∧ first < i
   ·rw [classS_close p hi hc] at h; cases h; exact ⟨by simp, by simp; omega⟩
   rw [classS_step p hi hc] at h
   have h1 := litS_gt p i
   have h2 := highS_ge p (litS p i).2 (litS p i).1
   have := ih (by omega) h
   omega
  rw [classS_end p hi] at h; cases h
theorem clsS_le {i : Nat} {r : W64 × Nat} (h : clsS p i = some r) : i < r.2 ∧ r.2 ≤ p.length := by
 unfold clsS at h
 split at h
 ·have := classS_le p _ (Nat.le_refl _) h; omega
 exact classS_le p _ (Nat.le_refl _) h
section
variable {p} {ended : Bool} {i : Nat}
end
end
def MatchP : List Part → List UInt8 → Prop
 | [], s => s = []
 | p :: ps, s => if p.star = true then ∃ k, k ≤ s.length ∧ MatchP ps (s.drop k) else ∃ c t, s = c :: t ∧ hasW p.ws c.toNat = true ∧ MatchP ps t
section
variable {q : List Part} {s : List UInt8}
structure GInv (q : List Part) (s : List UInt8) (now i st fr : Nat) : Prop where
 n1 : st ≤ now
 n2 : now ≤ q.length
 n3 : i ≤ s.length
 n4 : 0 < st → fr + (now - st) = i
 n5 : 0 < st → ∀ j, j < now - st → ∃ x, q[st + j]? = some x ∧ x.star = false
 n6 : MatchP q s ↔ MatchP (q.drop now) (s.drop i) ∨ (0 < st ∧ ∃ k, fr < k ∧ k ≤ s.length ∧ MatchP (q.drop st) (s.drop k))
section
variable {now i st fr : Nat} {x : Part} {c : UInt8} (h : GInv q s now i st fr)
include h
end
end
end Go.Pm
namespace Go.Proofs.YtmhdpjifhfoabaaGreatDoor
open Go.RowKit Go.Pm
theorem is2 {arg a b : List UInt8} {r : Int} (h : IsI arg [a, b] r) : (r = -1 ∧ ¬ SameC a arg ∧ ¬ SameC b arg) ∨ (r = 0 ∧ SameC a arg) ∨ (r = 1 ∧ ¬ SameC a arg ∧ SameC b arg) := by
 rcases h with ⟨rfl, h⟩ | ⟨i, x, rfl, hx, h1, h2⟩
 ·exact .inl ⟨rfl, h a (by simp), h b (by simp)⟩
 match i, hx with
 | 0, hx => cases hx; exact .inr (.inl ⟨rfl, h1⟩)
 | 1, hx => cases hx; exact .inr (.inr ⟨rfl, h2 0 a (by omega) rfl, h1⟩)
theorem numP_rng {s : List UInt8} {n : Int} (h : NumP s n true) : -9223372036854775808 ≤ n ∧ n ≤ 9223372036854775807 := h.elim (fun h => ⟨h.2.1, h.2.2.1⟩) (fun h => absurd h.1 (by decide))
theorem ints_two {s t : List UInt8} {ns : List Int} {ec : Int} (h : IntsR [s, t] ns ec) : (ec = 0 ∧ ∃ n m, ns = [n, m] ∧ NumP s n true ∧ NumP t m true) ∨ (ec = 41 ∧ ns = [] ∧ (NumP s 0 false ∨ NumP t 0 false)) := by
 rcases h with ⟨h1, h2, h3⟩ | ⟨h1, h2, x, hx, h3⟩
 ·match ns, h2 with
  | [n, m], _ => exact .inl ⟨h1, n, m, rfl, h3 0 s n rfl rfl, h3 1 t m rfl rfl⟩
 rcases List.mem_cons.1 hx with rfl | hx
 ·exact .inr ⟨h1, h2, .inl h3⟩
 rw [List.mem_singleton.1 hx] at h3; exact .inr ⟨h1, h2, .inr h3⟩
theorem valAt_open {C : Base} {v : Val} {p t z : Value} (h : ValAt C v p t z) : ∃ pa pc sa sc za zc, p = .slice pa v.pairs.length pc ∧ t = .slice sa v.texts.length sc ∧ z = .slice za v.zset.length zc ∧ SliceOk pa v.pairs.length pc ∧ RdV C [] pa (pairCells v.pairs) ∧ SliceOk sa v.texts.length sc ∧ RdV C [] sa (textCells v.texts) ∧ SliceOk za v.zset.length zc ∧ RdV C [] za (memCells v.zset) := by
 obtain ⟨⟨a1, c1, h1, h2, h3⟩, ⟨a2, c2, h4, h5, h6⟩, ⟨a3, c3, h7, h8, h9⟩, -⟩ := h
 exact ⟨a1, c1, a2, c2, a3, c3, h1, h4, h7, h2, h3, h5, h6, h8, h9⟩
theorem tx_take (l : List (List UInt8)) (i : Nat) : (textCells l).take i = textCells (l.take i) := by simp [textCells]
theorem tx_drop (l : List (List UInt8)) (i : Nat) : (textCells l).drop i = textCells (l.drop i) := by simp [textCells]
theorem sliced_midV {B : Base} {ad : Option Addr} {n c l h : Nat} {xs : List Value} (size : Nat) (hok : SliceOk ad n c) (hr : RdV B [] ad xs) (hl : xs.length = n * size) (hlh : l ≤ h) (hh : h ≤ n) (hz : 0 < size) : ∃ a2 c2, sliced ad l h c size = .slice a2 (h - l) c2 ∧ SliceOk a2 (h - l) c2 ∧ RdV B [] a2 ((xs.drop (l * size)).take ((h - l) * size)) := by
 obtain ⟨a2, c2, h1, h2, h3⟩ := sliced_fromV size hok hr hl (show l ≤ n by omega) hz
 have e : sliced ad l h c size = .slice a2 (h - l) c2 := by
  unfold sliced at h1 ⊢
  split at h1 <;> rename_i hc <;> simp only [hc, if_true, if_false] at h1 ⊢ <;> (injection h1 with e1 e2 e3; subst e1 e3; rfl)
 refine ⟨a2, c2, e, ⟨by have := h2.le; omega, h2.max, h2.nil⟩, fun i hi => ?_⟩
 rw [List.length_take] at hi
 obtain ⟨b, off, h5, h6⟩ := h3 i (by omega)
 refine ⟨b, off, h5, ?_⟩
 rw [List.getElem_take]
 exact h6
section
variable {P : Program} {t : TypeId} {w : World}
theorem run_lhAny {ad : Option Addr} {n c l h size : Nat} (ht : P.underlying t = some (.slice (P.elem t))) (hs : ∀ w, (sizeOf (P.elem t)).run P w = .ok size w) (h1 : l ≤ h) (h2 : h ≤ c) :
  (Instr.sliceAt t (.slice ad n c) (some (vI l)) (some (vI h)) none).run P w = .ok (sliced ad l h c size) w := by
 rw [run_sliceAt_slice w t _ _ _ _ ht, run_slice_lh w t _ n c ht .i64 .i64 l h (by omega) (by omega) (by omega), hs]
 simp only [Result.andThen, Int.toNat_natCast]
end
theorem keep_zero {M M' : List (List UInt8 × Ver)} {clk exp ec : Int} {key : List UInt8} {x : Val} (hk : key.length ≤ 256) (hp : FullV x → PutOk key x exp) (h : KeepI M clk key x exp ec M') : ec = 0 := by
 rcases h with ⟨-, -, h2, -⟩ | ⟨h1, h2, -⟩ | ⟨-, -, h3, -⟩ | ⟨-, -, ⟨-, h4, -⟩ | ⟨h4, -⟩⟩
 ·exact h2
 ·exact absurd (hp h1) h2
 ·exact h3
 ·exact h4
 omega
def tleaf (s : List UInt8) : Leaf := ⟨3, s, 0⟩
theorem strs_leaf (l : List (List UInt8)) : strsCells l = lvC (l.map tleaf) none := by
 show l.flatMap _ = (l.map tleaf).flatMap leafN
 rw [List.flatMap_map]; rfl
theorem listIn_two {B : Base} {s : List UInt8} {l : List (List UInt8)} {a : Option Addr} {c : Nat} (hok : SliceOk a l.length c) (hr : RdV B [] a (strsCells l)) (hm : l.length ≤ 1000000) :
  ListIn B 2 (rpCells 3 s 0 (vN) ++ rpCells 5 [] 0 (.slice a l.length c)) (rList [rStr s, rStrs l]) := by
 refine .inr ⟨[⟨3, s, 0⟩], l.map tleaf, ⟨5, [], 0⟩, a, c, rfl, ?_, ?_, ?_, ?_, ?_⟩
 ·rw [List.length_map]; rfl
 ·rw [List.length_map]; exact hok
 ·rw [← strs_leaf]; exact hr
 ·rw [List.length_map]; exact hm
 rw [List.map_map]; rfl
abbrev Tx := List (List UInt8)
theorem listR_iff {l : Tx} : listRight l = true ↔ l.length ≤ 512 ∧ ∀ x ∈ l, x.length ≤ 4096 := by
 unfold listRight
 rw [Bool.and_eq_true, decide_eq_true_eq, Bool.not_eq_true', List.any_eq_false]
 refine and_congr Iff.rfl ⟨fun h x hx => ?_, fun h x hx => ?_⟩
 ·have := h x hx; simp only [decide_eq_true_eq] at this; omega
 have := h x hx; simp only [decide_eq_true_eq]; omega
section
variable {M M' : List (List UInt8 × Ver)} {clk exp ec : Int} {key : List UInt8} {x : Val} {y : Ver}
theorem valOk3 {v : Val} (h : ValOk v) (hk : v.kind = 3) : listRight v.texts = true ∧ 0 < v.texts.length := by
 rcases h with ⟨h1, -⟩ | ⟨h1, -⟩ | ⟨h1, h2, h3, -⟩ | ⟨h1, -⟩ | ⟨h1, -⟩
 ·omega
 ·omega
 ·exact ⟨h3, h2⟩
 ·omega
 omega
theorem OkM.list (h : OkM M) (ho : OfI M clk key 3 y ec) : listRight y.val.texts = true := by
 rcases ho with ⟨-, rfl, -⟩ | ⟨-, rfl, -⟩ | ⟨-, h1, h2, h3⟩
 ·rfl
 ·rfl
 exact (valOk3 (h.alive h1 h2).2.1 h3).1
theorem OkM.listPut (h : OkM M) (ho : OfI M clk key 3 y ec) (hne : y.val.texts ≠ []) : key.length ≤ 256 ∧ 0 ≤ y.expire ∧ y.expire ≤ 1099511627776 := by
 rcases ho with ⟨-, rfl, -⟩ | ⟨-, rfl, -⟩ | ⟨-, h1, h2, h3⟩
 ·exact absurd rfl hne
 ·exact absurd rfl hne
 have := h.alive h1 h2; exact ⟨this.1, this.2.2.1, this.2.2.2⟩
end
def listV (l : Tx) : Val := ⟨3, [], [], l, []⟩
def PushI (l : Tx) (front : Bool) (ss out : Tx) (ec : Int) : Prop :=
 (ec ≠ 0 ∧ out = [] ∧ ((∃ s ∈ ss, 4096 < s.length) ∨ 512 < l.length + ss.length)) ∨ (ec = 0 ∧ (∀ s ∈ ss, s.length ≤ 4096) ∧ l.length + ss.length ≤ 512 ∧ out = if front then ss.reverse ++ l else l ++ ss)
def popN (l : Tx) (n : Int) : Nat := min n.toNat l.length
def popL (l : Tx) (front : Bool) (n : Int) : Tx := if front then l.drop (popN l n) else l.take (l.length - popN l n)
def popG (l : Tx) (front : Bool) (n : Int) : Tx := if front then l.take (popN l n) else (l.drop (l.length - popN l n)).reverse
def LPushR (M : List (List UInt8 × Ver)) (clk : Int) (key : List UInt8) (front there : Bool) (xs : Tx) (M' : List (List UInt8 × Ver)) (r : Rp) : Prop :=
 ∃ y ec, OfI M clk key 3 y ec ∧ ((ec ≠ 0 ∧ M' = M ∧ IsF r) ∨ (ec = 0 ∧ ((there = true ∧ y.val.kind ≠ 3 ∧ M' = M ∧ r = rInt 0) ∨ (¬ (there = true ∧ y.val.kind ≠ 3) ∧ ∃ out e2, PushI y.val.texts front xs out e2 ∧ ((e2 ≠ 0 ∧ M' = M ∧ IsF r) ∨ (e2 = 0 ∧ ∃ e3, KeepI M clk key (listV out) y.expire e3 M' ∧ DoneR e3 (rInt (out.length : Int)) r))))))
def LMoveR (M : List (List UInt8 × Ver)) (clk : Int) (k l : List UInt8) (fr to : Bool) (M' : List (List UInt8 × Ver)) (r : Rp) : Prop :=
 ∃ y1 e1, OfI M clk k 3 y1 e1 ∧ ((e1 ≠ 0 ∧ M' = M ∧ IsF r) ∨ (e1 = 0 ∧ ∃ y2 e2, OfI M clk l 3 y2 e2 ∧ ((e2 ≠ 0 ∧ M' = M ∧ IsF r) ∨ (e2 = 0 ∧ ((popG y1.val.texts fr 1 = [] ∧ M' = M ∧ r = rNone) ∨ ∃ g, popG y1.val.texts fr 1 = [g] ∧ ∃ out e3, PushI (if k = l then popL y1.val.texts fr 1 else y2.val.texts) to [g] out e3 ∧
  ((e3 ≠ 0 ∧ M' = M ∧ IsF r) ∨ (e3 = 0 ∧ ∃ M1 e4, KeepI M clk l (listV out) y2.expire e4 M1 ∧ ((e4 ≠ 0 ∧ M' = M1 ∧ IsF r) ∨ (e4 = 0 ∧ ((k = l ∧ M' = M1 ∧ r = rStr g) ∨ (k ≠ l ∧ ∃ e5, KeepI M1 clk k (listV (popL y1.val.texts fr 1)) y1.expire e5 M' ∧ DoneR e5 (rStr g) r)))))))))))
section
variable {M M' : List (List UInt8 × Ver)} {clk : Int} {key k l : List UInt8} {xs : Tx} {r : Rp} {front there fr to : Bool}
theorem isF_str {s : List UInt8} : ¬ IsF (rStr s) := fun h => absurd (show (3 : Int) = 1 from h) (by decide)
theorem LPushR.cmd (hM : OkM M) (h : LPushR M clk key front there xs M' r) : CmdR M M' r := by
 obtain ⟨y, ec, -, ⟨-, rfl, -⟩ | ⟨-, ⟨-, -, rfl, -⟩ | ⟨-, out, e2, -, ⟨-, rfl, -⟩ | ⟨-, e3, hk, hd⟩⟩⟩⟩ := h
 ·exact ⟨hM, fun _ => rfl⟩
 ·exact ⟨hM, fun _ => rfl⟩
 ·exact ⟨hM, fun _ => rfl⟩
 exact hd.keep hM hk isF_int
theorem popL_right {t : Tx} {n : Int} (h : listRight t = true) : listRight (popL t fr n) = true := by
 obtain ⟨h1, h2⟩ := listR_iff.1 h
 unfold popL
 split
 ·exact listR_iff.2 ⟨by rw [List.length_drop]; omega, fun x hx => h2 x (List.mem_of_mem_drop hx)⟩
 exact listR_iff.2 ⟨by rw [List.length_take]; omega, fun x hx => h2 x (List.mem_of_mem_take hx)⟩
theorem LMoveR.cmd (hO : OkM M) (h : LMoveR M clk k l fr to M' r) : CmdR M M' r := by
 obtain ⟨y1, e1, hof, ⟨-, rfl, -⟩ | ⟨-, y2, e2, -, ⟨-, rfl, -⟩ | ⟨-, ⟨-, rfl, -⟩ | ⟨g, hg, out, e3, -, ⟨-, rfl, -⟩ | ⟨-, M1, e4, hk, ⟨he4, rfl, -⟩ | ⟨-, ⟨-, rfl, rfl⟩ | ⟨-, e5, hk2, hd⟩⟩⟩⟩⟩⟩⟩ := h
 ·exact ⟨hO, fun _ => rfl⟩
 ·exact ⟨hO, fun _ => rfl⟩
 ·exact ⟨hO, fun _ => rfl⟩
 ·exact ⟨hO, fun _ => rfl⟩
 ·exact ⟨hO.keep hk, fun _ => keep_not hk he4⟩
 ·exact ⟨hO.keep hk, fun hf => absurd hf isF_str⟩
 have hO1 := hO.keep hk
 refine ⟨hO1.keep hk2, fun hf => ?_⟩
 have hne : y1.val.texts ≠ [] := fun e => by rw [e] at hg; unfold popG popN at hg; cases fr <;> simp at hg
 obtain ⟨h1, h2, h3⟩ := hO.listPut hof hne
 have he5 : e5 = 0 := keep_zero h1 (fun hfull => ⟨h1, .inr (.inr (.inl ⟨rfl, by
  rcases hfull with h9 | h9
  ·exact absurd h9 (by show ¬ (3 : Int) = 1; decide)
  simpa [listV] using h9, popL_right (hO.list hof), rfl, rfl, rfl⟩)), h2, h3⟩) hk2
 rcases hd with ⟨-, rfl⟩ | ⟨h9, -⟩
 ·exact absurd hf isF_str
 exact absurd he5 h9
end
theorem NumP.uniq {s : List UInt8} {n m : Int} {b c : Bool} (h : NumP s n b) (h2 : NumP s m c) : n = m ∧ b = c := by
 rcases h with ⟨rfl, h0, h1, rfl⟩ | ⟨rfl, rfl, h⟩
 ·rcases h2 with ⟨rfl, k0, k1, e⟩ | ⟨rfl, rfl, h2⟩
  ·have := parse_itoa n h0 h1
   rw [e, parse_itoa m k0 k1] at this
   cases this; exact ⟨rfl, rfl⟩
  exact absurd rfl (h2 n h0 h1)
 rcases h2 with ⟨rfl, k0, k1, e⟩ | ⟨rfl, rfl, h2⟩
 ·exact absurd e (h m k0 k1)
 exact ⟨rfl, rfl⟩
end Go.Proofs.YtmhdpjifhfoabaaGreatDoor
namespace Go.Proofs
open Go.Shelf
def Tryz.laysKeys_ren : Go.Shelf.Ren := ⟨fun | 7 => 197 | 10 => 204 | n => n, fun | 23 => 134 | 26 => 9 | 3 => 85 | 28 => 280 | 0 => 0 | 27 => 279 | 33 => 168 | 4 => 4 | n => n, fun | n => n⟩
theorem Tryz.laysKeys : Go.Proofs.SlLaysZ.n7 Tryz.prog Tryz.laysKeys_ren := {
 mixed := by kernel_rfl
 f7 := ⟨Tryz.f197.name, by decide, Tryz.func197.trans (congrArg some (by kernel_rfl))⟩
 f10 := ⟨Tryz.f204.name, by decide, Tryz.func204.trans (congrArg some (by kernel_rfl))⟩
 t0 := Tryz.underlying0
 a0 := Tryz.isAgg0
 z0 := Tryz.sizeOf0
 v0 := Tryz.zeroValue0
 t4 := Tryz.underlying4
 a4 := Tryz.isAgg4
 z4 := Tryz.sizeOf4
 v4 := Tryz.zeroValue4
 t23 := Tryz.underlying134
 a23 := Tryz.isAgg134
 z23 := Tryz.sizeOf134
 v23 := Tryz.zeroValue134
 t26 := Tryz.underlying9
 a26 := Tryz.isAgg9
 z26 := Tryz.sizeOf9
 v26 := Tryz.zeroValue9
 t27 := Tryz.underlying279
 a27 := Tryz.isAgg279
 z27 := Tryz.sizeOf279
 v27 := Tryz.zeroValue279
 t28 := Tryz.underlying280
 a28 := Tryz.isAgg280
 z28 := Tryz.sizeOf280
 v28 := Tryz.zeroValue280
 t33 := Tryz.underlying168
 a33 := Tryz.isAgg168
 z33 := Tryz.sizeOf168
 v33 := Tryz.zeroValue168 }
def Tryz.laysKeys1_ren : Go.Shelf.Ren := ⟨fun | 10 => 204 | n => n, fun | 33 => 168 | 23 => 134 | 0 => 0 | 4 => 4 | 26 => 9 | 3 => 85 | n => n, fun | n => n⟩
theorem Tryz.laysKeys1 : Go.Proofs.SlLaysZ.n10 Tryz.prog Tryz.laysKeys1_ren := {
 mixed := by kernel_rfl
 f10 := ⟨Tryz.f204.name, by decide, Tryz.func204.trans (congrArg some (by kernel_rfl))⟩
 t0 := Tryz.underlying0
 a0 := Tryz.isAgg0
 z0 := Tryz.sizeOf0
 v0 := Tryz.zeroValue0
 t4 := Tryz.underlying4
 a4 := Tryz.isAgg4
 z4 := Tryz.sizeOf4
 v4 := Tryz.zeroValue4
 t23 := Tryz.underlying134
 a23 := Tryz.isAgg134
 z23 := Tryz.sizeOf134
 v23 := Tryz.zeroValue134
 t26 := Tryz.underlying9
 a26 := Tryz.isAgg9
 z26 := Tryz.sizeOf9
 v26 := Tryz.zeroValue9
 t33 := Tryz.underlying168
 a33 := Tryz.isAgg168
 z33 := Tryz.sizeOf168
 v33 := Tryz.zeroValue168 }
def Tryz.laysApp_ren : Go.Shelf.Ren := ⟨fun | 11 => 196 | n => n, fun | 24 => 22 | 26 => 9 | 28 => 280 | 0 => 0 | 33 => 168 | 4 => 4 | n => n, fun | n => n⟩
theorem Tryz.laysApp : Go.Proofs.SlLaysZ.n11 Tryz.prog Tryz.laysApp_ren := {
 mixed := by kernel_rfl
 f11 := ⟨Tryz.f196.name, by decide, Tryz.func196.trans (congrArg some (by kernel_rfl))⟩
 t0 := Tryz.underlying0
 a0 := Tryz.isAgg0
 z0 := Tryz.sizeOf0
 v0 := Tryz.zeroValue0
 t24 := Tryz.underlying22
 a24 := Tryz.isAgg22
 z24 := Tryz.sizeOf22
 v24 := Tryz.zeroValue22
 t26 := Tryz.underlying9
 a26 := Tryz.isAgg9
 z26 := Tryz.sizeOf9
 v26 := Tryz.zeroValue9
 t28 := Tryz.underlying280
 a28 := Tryz.isAgg280
 z28 := Tryz.sizeOf280
 v28 := Tryz.zeroValue280
 i26 := by kernel_rfl }
def Tryz.laysSort_ren : Go.Shelf.Ren := ⟨fun | 190 => 198 | 125 => 111 | 258 => 205 | 128 => 125 | 129 => 126 | 302 => 211 | 303 => 212 | 304 => 213 | 305 => 214 | 306 => 215 | 307 => 216 | 308 => 217 | 309 => 218 | 310 => 219 | 333 => 225 | 329 => 134 | 330 => 135 | 334 => 226 | 335 => 227 | 336 => 228 | 344 => 233 | n => n, fun | 31 => 22 | 9 => 9 | 3 => 3 | 46 => 199 | 0 => 0 | 51 => 212 | 53 => 214 | 4 => 4 | 183 => 205 | 182 => 204 | 131 => 165 | 5 => 5 | 218 => 221 | 222 => 225 | 228 => 236 | 229 => 186 | n => n, fun | n => n⟩
theorem Tryz.laysSort : Go.Proofs.Lays.n190 Tryz.prog Tryz.laysSort_ren := {
 mixed := by kernel_rfl
 f125 := Tryz.func111.trans (congrArg some (by kernel_rfl))
 f128 := Tryz.func125.trans (congrArg some (by kernel_rfl))
 f129 := Tryz.func126.trans (congrArg some (by kernel_rfl))
 f190 := Tryz.func198.trans (congrArg some (by kernel_rfl))
 f258 := Tryz.func205.trans (congrArg some (by kernel_rfl))
 f302 := Tryz.func211.trans (congrArg some (by kernel_rfl))
 f303 := Tryz.func212.trans (congrArg some (by kernel_rfl))
 f304 := Tryz.func213.trans (congrArg some (by kernel_rfl))
 f305 := Tryz.func214.trans (congrArg some (by kernel_rfl))
 f306 := Tryz.func215.trans (congrArg some (by kernel_rfl))
 f307 := Tryz.func216.trans (congrArg some (by kernel_rfl))
 f308 := Tryz.func217.trans (congrArg some (by kernel_rfl))
 f309 := Tryz.func218.trans (congrArg some (by kernel_rfl))
 f310 := Tryz.func219.trans (congrArg some (by kernel_rfl))
 f329 := Tryz.func134.trans (congrArg some (by kernel_rfl))
 f330 := Tryz.func135.trans (congrArg some (by kernel_rfl))
 f333 := Tryz.func225.trans (congrArg some (by kernel_rfl))
 f334 := Tryz.func226.trans (congrArg some (by kernel_rfl))
 f335 := Tryz.func227.trans (congrArg some (by kernel_rfl))
 f336 := Tryz.func228.trans (congrArg some (by kernel_rfl))
 f344 := Tryz.func233.trans (congrArg some (by kernel_rfl))
 t0 := Tryz.underlying0
 a0 := Tryz.isAgg0
 z0 := Tryz.sizeOf0
 v0 := Tryz.zeroValue0
 t3 := Tryz.underlying3
 a3 := Tryz.isAgg3
 z3 := Tryz.sizeOf3
 v3 := Tryz.zeroValue3
 t4 := Tryz.underlying4
 a4 := Tryz.isAgg4
 z4 := Tryz.sizeOf4
 v4 := Tryz.zeroValue4
 t5 := Tryz.underlying5
 a5 := Tryz.isAgg5
 z5 := Tryz.sizeOf5
 v5 := Tryz.zeroValue5
 t9 := Tryz.underlying9
 a9 := Tryz.isAgg9
 z9 := Tryz.sizeOf9
 v9 := Tryz.zeroValue9
 t31 := Tryz.underlying22
 a31 := Tryz.isAgg22
 z31 := Tryz.sizeOf22
 v31 := Tryz.zeroValue22
 t46 := Tryz.underlying199
 a46 := Tryz.isAgg199
 z46 := Tryz.sizeOf199
 v46 := Tryz.zeroValue199
 t51 := Tryz.underlying212
 a51 := Tryz.isAgg212
 z51 := Tryz.sizeOf212
 v51 := Tryz.zeroValue212
 t53 := Tryz.underlying214
 a53 := Tryz.isAgg214
 z53 := Tryz.sizeOf214
 v53 := Tryz.zeroValue214
 t131 := Tryz.underlying165
 a131 := Tryz.isAgg165
 z131 := Tryz.sizeOf165
 v131 := Tryz.zeroValue165
 t182 := Tryz.underlying204
 a182 := Tryz.isAgg204
 z182 := Tryz.sizeOf204
 v182 := Tryz.zeroValue204
 t183 := Tryz.underlying205
 a183 := Tryz.isAgg205
 z183 := Tryz.sizeOf205
 v183 := Tryz.zeroValue205
 t218 := Tryz.underlying221
 a218 := Tryz.isAgg221
 z218 := Tryz.sizeOf221
 v218 := Tryz.zeroValue221
 t222 := Tryz.underlying225
 a222 := Tryz.isAgg225
 z222 := Tryz.sizeOf225
 v222 := Tryz.zeroValue225
 t228 := Tryz.underlying236
 a228 := Tryz.isAgg236
 z228 := Tryz.sizeOf236
 v228 := Tryz.zeroValue236
 t229 := Tryz.underlying186
 a229 := Tryz.isAgg186
 z229 := Tryz.sizeOf186
 v229 := Tryz.zeroValue186 }
end Go.Proofs
namespace Go.Proofs.YtmhdpjifhfoabaaGreatDoor
open Go.RowKit Go.Pm Go.Sort Go.Shelf
abbrev keyT : TypeId := 9
theorem mapKeys (B : Base) (H : List Res) (w : World) (mb : Option Nat) (hv : Pm.Inv B H w) : Calls Tryz.prog 197 #[.map mb] w fun e w' => ∃ b, e = .returned (.func (.func 204) #[] #[.pointer (some ⟨b, 0, none⟩)]) ∧ Pm.Inv B (Res.cell b [.map mb] 134 :: H) w' := by
 have h := AnyZ.keys_in Tryz.laysKeys Fence.wide 5 trivial rfl mb w
 refine (callsIn_wide (n := 5)).1 (h.mono ?_)
 rintro e w' ⟨rfl, rfl⟩
 exact ⟨_, rfl, hv.alloc _ _⟩
abbrev RN (_ : Value) : Option (DataW Unit × List MemPlace) := some (.nil, [])
theorem rd_key (k : List UInt8) (hk : k.length ≤ maxLen) (v : Value) (n : Nat) : WideElems.rd Tryz.prog keyT RN { key := strV k, val := v, born := n } = some (.string k, .nil) := by
 have h : keyOf Tryz.prog keyT (strV k) = some (.string k) := by
  have h1 := WideMaps.keyOf_string_mk (P := Tryz.prog) (k := keyT) Tryz.underlying9 (s := ⟨k.toArray⟩) (by show k.toArray.size ≤ maxLen; simpa using hk)
  simpa using h1
 simp [WideElems.rd, h, RN]
theorem vmap_owns {w : World} {b : Nat} {es : List (List UInt8 × Value)} (h : (Res.vmap b es).holds w) (hk : ∀ x ∈ es, x.1.length ≤ maxLen) (hm : es.length ≤ maxLen) :
  ∃ D : DataW Unit, w.ownsMap Tryz.prog keyT RN b es.length D ∧ (strKeys D).Perm (es.map (·.1)) := by
 obtain ⟨E, clock, h1, h2, h3⟩ := h
 have hl : E.size = es.length := by have := congrArg List.length h3; simpa using this
 have hrd : ∀ x ∈ E.toList, ∃ k, (∃ v, (k, v) ∈ es) ∧ x.key = strV k ∧ WideElems.rd Tryz.prog keyT RN x = some (.string k, .nil) := by
  intro x hx
  obtain ⟨j, hj⟩ := List.mem_iff_getElem?.1 hx
  have h9 := congrArg (fun l => l[j]?) h3
  simp only [List.getElem?_map, hj, Option.map_some] at h9
  cases hx2 : es[j]? with
  | none => rw [hx2] at h9; simp at h9
  | some y =>
   rw [hx2] at h9
   simp only [Option.map_some, kv, Option.some.injEq, Prod.mk.injEq] at h9
   have hy := List.mem_of_getElem? hx2
   obtain ⟨xk, xv, xb⟩ := x
   simp only at h9
   obtain ⟨rfl, rfl⟩ := h9
   exact ⟨y.1, ⟨y.2, hy⟩, rfl, rd_key y.1 (hk y hy) _ _⟩
 refine ⟨_, ⟨E, clock, h1, ⟨by omega, h2, fun x hx => by obtain ⟨k, -, -, h⟩ := hrd x hx; exact ⟨_, h⟩⟩, by omega, rfl⟩, ?_⟩
 have hp : (strKeys (DataW.map ((E.toList.map (WideElems.rg Tryz.prog keyT RN)).foldr DataW.insert []))).Perm ((E.toList.map (WideElems.rg Tryz.prog keyT RN)).map fun p => strOf p.1) := (WideShapes.sorted_perm _).map _
 refine hp.trans (List.Perm.of_eq ?_)
 rw [List.map_map]
 have h4 : E.toList.map (fun e => e.key) = es.map (fun x => strV x.1) := by
  have := congrArg (List.map Prod.fst) h3
  simpa [List.map_map, Function.comp_def, kv] using this
 have h5 : ∀ x ∈ E.toList, strV (((fun p : Lit × DataW Unit => strOf p.1) ∘ WideElems.rg Tryz.prog keyT RN) x) = x.key := by
  intro x hx
  obtain ⟨k, -, hk1, h⟩ := hrd x hx
  simp [Function.comp, WideElems.rg, h, hk1, strOf]
 have h6 : (E.toList.map ((fun p : Lit × DataW Unit => strOf p.1) ∘ WideElems.rg Tryz.prog keyT RN)).map strV = (es.map (·.1)).map strV := by
  rw [List.map_map, List.map_map]
  have : E.toList.map (strV ∘ ((fun p : Lit × DataW Unit => strOf p.1) ∘ WideElems.rg Tryz.prog keyT RN)) = E.toList.map (fun e => e.key) := List.map_congr_left fun x hx => h5 x hx
  rw [this, h4]; rfl
 exact (List.map_inj_right (fun a b e => strV_inj e)).1 h6
theorem row_new {B : Base} {H : List Res} {w w' : World} {e : TypeId} {size n : Nat} {v : Value} {xs : List Value} (hv : Pm.Inv B H w) (h : w'.ownsRow w.heap.size e size v n xs) (hb : Below w.heap.size w w') : Pm.Inv B (Res.row e size v n xs :: H) w' := by
 have h0 : w'.ownsRow 0 e size v n xs := ⟨h.1, h.2.imp id fun ⟨g, cap, cur, h1, _, h3⟩ => ⟨g, cap, cur, h1, Nat.zero_le _, h3⟩⟩
 refine hv.new hb (Res.row e size v n xs) h0 (fun b hb9 => ?_) ?_
 ·rcases h.2 with ⟨rfl, -⟩ | ⟨g, cap, cur, rfl, h2, h3, -⟩
  ·simp [Value.ownBlock] at hb9
  simp [Value.ownBlock] at hb9
  subst hb9
  exact ⟨h2, (Array.getElem?_eq_some_iff.1 h3).1⟩
 show v.ownBlock.toList.Nodup
 cases v.ownBlock with
 | none => exact List.Pairwise.nil
 | some b => simp
theorem appendKeys (B : Base) (H : List Res) (w : World) (b wb : Nat) (es : List (List UInt8 × Value)) (hk : ∀ x ∈ es, x.1.length ≤ maxLen) (hm : es.length ≤ 1000000) (hv : Pm.Inv B (Res.cell b [.map (some wb)] 134 :: Res.vmap wb es :: H) w) :
  Calls Tryz.prog 196 #[.slice none 0 0, .func (.func 204) #[] #[.pointer (some ⟨b, 0, none⟩)]] w fun e w' => ∃ v ss, e = .returned v ∧ ss.Perm (es.map (·.1)) ∧ Pm.Inv B (Res.row keyT 1 v ss.length (textCells ss) :: Res.cell b [.map (some wb)] 134 :: Res.vmap wb es :: H) w' := by
 obtain ⟨D, hown, hperm⟩ := vmap_owns (hv.get 1 rfl) hk (by unfold maxLen; omega)
 have hsz := hown.size_le
 have hg := AnyZ.keys_gives Tryz.laysKeys1 Fence.wide 4 trivial rfl (by omega) b wb es.length D w (hv.lt _ (List.mem_cons_self) b (by simp)) (hv.load 0 0 rfl rfl) hown
 have he : ∀ args w, (callFunc 204 args).run Tryz.prog w = .ok (.enter 204 args) w := Tryz.laysKeys1.f10.enters rfl
 have h := AnyZ.appendSeq_in Tryz.laysApp Fence.wide 5 trivial rfl (by omega) 204 #[.pointer (some ⟨b, 0, none⟩)] trivial he _ (Maps.size D) (by unfold maxLen; omega) (by omega) w hg
 refine (callsIn_wide (n := 5)).1 (h.mono ?_)
 rintro e w' ⟨v, ss, rfl, hS, hrow, -, hb⟩
 exact ⟨v, ss, rfl, hS.trans hperm, row_new hv hrow hb⟩
theorem sortTexts (B : Base) (H : List Res) (w : World) (v : Value) (l : List (List UInt8)) (hm : l.length ≤ 1000000) (hv : Pm.Inv B (Res.row keyT 1 v l.length (textCells l) :: H) w) :
  Calls Tryz.prog 198 #[v] w fun e w' => e = .returned (.tuple #[]) ∧ Pm.Inv B (Res.row keyT 1 v l.length (textCells (l.mergeSort leB)) :: H) w' := by
 rcases (hv.head : w.ownsRow 0 keyT 1 v l.length (textCells l)).2 with ⟨rfl, hz⟩ | ⟨g, cap, cur, rfl, h0, hgb, r1, r2, r3, r4⟩
 ·have hl : l = [] := List.eq_nil_of_length_eq_zero hz
  subst hl
  refine (Any.slices_Sort_string_none Tryz.laysSort none 0 w).mono ?_
  rintro e w' ⟨rfl, rfl⟩
  exact ⟨rfl, by simpa using hv⟩
 have hH : Holds encStr w g 0 l.toArray := holds_of_block hgb (by rw [Nat.mul_one] at r4; exact r4)
 refine (Any.slices_Sort_string Tryz.laysSort g 0 cap l w hH (Array.getElem?_eq_some_iff.1 hgb).1 (by omega)).mono ?_
 rintro e w' ⟨rfl, n, os, rfl⟩
 have hgr := grownBy_sorted (w := w) (g := g) (n := n) (os := os) (l.mergeSort leB).toArray
 have hr := ownsRow_sorted (n := n) (os := os) (ss := l) (ts := l.mergeSort leB) (by simp) h0 hgb r1 r2 r3
 refine ⟨rfl, hv.upd _ ⟨hgr.os, hgr.tape, hgr.output, hgr.size, fun k hk hn => hgr.block k hk (fun e => hn (by cases e; simp [Value.ownBlock]))⟩ hr (fun b hb => .inl hb) (fun b hb => Nat.lt_of_lt_of_le (hv.headLt b hb) hgr.size) (by simp [Value.ownBlock])⟩
end Go.Proofs.YtmhdpjifhfoabaaGreatDoor
namespace Go.Pm
open Go.RowKit
section
variable {kept mid l : List (List UInt8)} {j : Nat} {x g : List UInt8} {p : List UInt8 → Bool}
theorem textCells_app (a b : List (List UInt8)) : textCells (a ++ b) = textCells a ++ textCells b := by simp [textCells]
theorem textCells_get (h : l[j]? = some x) : (textCells l)[j]? = some (strV x) := by rw [textCells, List.getElem?_map, h]; rfl
theorem textCells_set (l : List (List UInt8)) (i : Nat) (x : List UInt8) : (textCells l).set i (strV x) = textCells (l.set i x) := by simp [textCells, List.map_set]
theorem textCells_n (l : List (List UInt8)) : (textCells l).length = l.length := by simp [textCells]
theorem df_get (h : l[j]? = some x) (hl : kept.length + mid.length = j) : (textCells (kept ++ mid ++ l.drop j))[j]? = some (strV x) := by
 refine textCells_get ?_
 rw [List.getElem?_append_right (by rw [List.length_append]; omega), List.length_append, hl, Nat.sub_self, List.getElem?_drop]
 exact h
theorem df_drop (h : l[j]? = some x) : l.drop j = x :: l.drop (j + 1) := by
 obtain ⟨hj, rfl⟩ := List.getElem?_eq_some_iff.1 h
 exact List.drop_eq_getElem_cons hj
theorem df_set (h : l[j]? = some x) : (textCells (kept ++ (g :: mid) ++ l.drop j)).set kept.length (strV x) = textCells (kept ++ [x] ++ (mid ++ [x]) ++ l.drop (j + 1)) := by
 rw [textCells_set, df_drop h, List.append_assoc, List.set_append_right _ _ (Nat.le_refl _), Nat.sub_self]
 simp
theorem df_skip (h : l[j]? = some x) : kept ++ mid ++ l.drop j = kept ++ (mid ++ [x]) ++ l.drop (j + 1) := by
 rw [df_drop h]; simp
theorem df_filter (h : l[j]? = some x) : (l.take (j + 1)).filter p = (l.take j).filter p ++ if p x then [x] else [] := by
 rw [take_next h, List.filter_append]
 cases hp : p x <;> simp [hp]
theorem df_start (h : l[j]? = some x) (hx : p x = true) (hn : ∀ y ∈ l.take j, p y = false) : (l.take (j + 1)).filter (fun y => !p y) = l.take j ∧ l = l.take j ++ [x] ++ l.drop (j + 1) := by
 constructor
 ·rw [df_filter h, hx, List.filter_eq_self.2 (fun y hy => by rw [hn y hy]; rfl)]
  simp
 conv => lhs; rw [← List.take_append_drop j l, df_drop h]
 simp
end
end Go.Pm
namespace Go.Proofs.YtmhdpjifhfoabaaGreatDoor
open Go.RowKit Go.Pm
theorem s24es22 (w : World) : (sizeOf (Tryz.prog.elem 22)).run Tryz.prog w = .ok 1 w := by kernel_rfl
theorem s24na9 (w : World) : (isAgg 9).run Tryz.prog w = .ok false w := by kernel_rfl
theorem indexFuncO (B : Base) (H : List Res) (w : World) (f : FuncId) (cb : Array Value) (ra : Option Addr) (rc : Nat) (l : List (List UInt8)) (pr : List UInt8 → Bool) (hm : l.length ≤ 1000000) (hcal : Callable Tryz.prog f) (hf : ∀ (x : List UInt8) (r : Res) (w : World), Inv B (r :: H) w → Calls Tryz.prog f (#[vS x] ++ cb) w fun e w' => e = .returned (.bool (pr x)) ∧ Inv B (r :: H) w') (hv : Inv B (Res.row 9 1 (.slice ra l.length rc) l.length (textCells l) :: H) w) :
  Calls Tryz.prog 105 #[.slice ra l.length rc, .func (.func f) #[] cb] w fun e w' => ∃ r : Int, e = .returned (vI r) ∧ ((r = -1 ∧ ∀ y ∈ l, pr y = false) ∨ ∃ (i : Nat) (x : List UInt8), r = (i : Int) ∧ l[i]? = some x ∧ pr x = true ∧ ∀ y ∈ l.take i, pr y = false) ∧ Inv B (Res.row 9 1 (.slice ra l.length rc) l.length (textCells l) :: H) w' := by
 refine cW Tryz.func105 rfl Tryz.ntmps105 ?_
 simp only [al]
 refine sK fun _ k1 => rL (uA rfl ?_)
 refine uW k1 (sK fun _ k2 => ?_)
 refine sK fun _ k3 => rL (uM rfl ?_)
 refine uG (vI (l.length : Int)) rfl (ex_len0 Tryz.underlying22 rfl rfl) (uM rfl ?_)
 refine uW k3 (bB ?_)
 gi_loopw [8] (fun x8 wr => ∃ (i : Nat), x8 = vI i ∧ i ≤ l.length ∧ (∀ j x, j < i → l[j]? = some x → pr x = false) ∧ Inv B (Res.row 9 1 (.slice ra l.length rc) l.length (textCells l) :: H) wr) (fun x8 _ => l.length - (intOf x8).toNat)
 case atStart => exact ⟨0, rfl, Nat.zero_le _, fun j x h => by omega, hv⟩
 case round =>
  obtain ⟨i, rfl, hi, hno, hv⟩ := hrel
  refine sK fun _ k5 => rL ?_
  by_cases hb6 : (i : Int) < (l.length : Int)
  ·refine uG (.bool true) rfl (ex_lss rfl rfl rfl (qT hb6)) (uW k5 ?_)
   refine sK fun _ k7 => cT rfl (kS ?_)
   refine tK k7 (sK fun _ k8 => ?_)
   refine bB (sK fun _ k9 => ?_)
   refine rL (uM rfl ?_)
   refine uA rfl (uW k9 ?_)
   refine sK fun _ k10 => ?_
   obtain ⟨x, hx⟩ : ∃ x, l[i]? = some x := ⟨_, List.getElem?_eq_getElem (show i < l.length by omega)⟩
   obtain ⟨b, rfl⟩ := row_some hv.head (by omega)
   refine rL (uM rfl ?_)
   refine uM rfl (uM rfl ?_)
   refine uG (.pointer (some ⟨b, 0 + i, none⟩)) rfl (ex_index rfl rfl rfl (run_idx1 (k := i) Tryz.underlying22 s24es22 (by omega))) ?_
   refine uL _ rfl (run_load1 s24na9 (row_load (hv.get 0 rfl) (textCells_get hx))) ?_
   refine wpi_callV hcal tV wideC rfl (wn rfl) rfl rfl (args := #[vS x]) (by simp only [List.map_toArray, List.map_cons, List.map_nil]; rfl) ((hf x _ _ hv).mono ?_)
   rintro e w11 ⟨rfl, hv⟩
   refine ⟨_, rfl, uW k10 ?_⟩
   refine wpIn_cond_split (t := pr x) rfl (fun hc12 => ?_) (fun hc12 => ?_)
   ·refine sK fun _ k13 => rL (uM rfl ?_)
    refine uA rfl (uW k13 ?_)
    refine rR (bZ ?_)
    refine tR (tR ?_)
    refine bZ (tR ?_)
    refine bR rfl rfl (⟨_, rfl, .inr ⟨i, x, rfl, hx, by simpa using hc12, fun y hy => (by obtain ⟨j, hj⟩ := List.mem_iff_getElem?.1 hy; have h9 := (List.getElem?_eq_some_iff.1 hj).1; rw [List.length_take] at h9; rw [List.getElem?_take_of_lt (by omega)] at hj; exact hno j y (by omega) hj)⟩, hv⟩)
   refine kS (bN ?_)
   refine tK k8 (rL ?_)
   refine uG (vI ((i + 1 : Nat) : Int)) rfl (ex_add rfl rfl rfl (by rw [i64_in (by omega)]; omega)) (uM rfl ?_)
   refine uZ (then_normal ?_)
   go_roundw
   case rel => exact ⟨i + 1, rfl, by omega, fun j x' hj hx' => (by
      rcases Nat.lt_or_ge j i with h | h
      ·exact hno j x' h hx'
      obtain rfl : j = i := by omega
      rw [hx] at hx'; cases hx'
      simpa using hc12), hv⟩
   case measure => show l.length - (((i + 1 : Nat) : Int)).toNat < l.length - ((i : Int)).toNat; omega
  refine uG (.bool false) rfl (ex_lss rfl rfl rfl (qF hb6)) (uW k5 ?_)
  refine sK fun _ k14 => cF rfl (xE ?_)
  refine tX (tX ?_)
  refine bH (tK k2 ?_)
  refine sK fun _ k15 => rL (uA rfl ?_)
  refine uW k15 (rR ?_)
  refine bR rfl rfl ?_
  obtain rfl : i = l.length := by omega
  exact ⟨_, rfl, .inl ⟨rfl, fun y hy => (by obtain ⟨j, hj⟩ := List.mem_iff_getElem?.1 hy; exact hno j y (List.getElem?_eq_some_iff.1 hj).1 hj)⟩, hv⟩
theorem s24callable105 : Callable Tryz.prog 105 := cb Tryz.func105 (by kernel_rfl)
theorem s24sz9 : (Tryz.prog.info? 9).map (·.size) = some 1 := by kernel_rfl
theorem s24mk9 : (Tryz.prog.info? 9).map (fun i => (i.zero, i.size, i.bytes)) = some (some (vS []), 1, 16) := by kernel_rfl
theorem s24el22 : Elem Tryz.prog 22 9 (vS []) 1 16 := elem_of Tryz.underlying22 s24mk9 (by rfl) (by decide)
theorem deleteFunc (B : Base) (H : List Res) (w : World) (f : FuncId) (cb : Array Value) (ra : Option Addr) (rc : Nat) (l : List (List UInt8)) (pr : List UInt8 → Bool) (hm : l.length ≤ 1000000) (hcal : Callable Tryz.prog f) (hf : ∀ (x : List UInt8) (r : Res) (w : World), Inv B (r :: H) w → Calls Tryz.prog f (#[vS x] ++ cb) w fun e w' => e = .returned (.bool (pr x)) ∧ Inv B (r :: H) w') (hv : Inv B (Res.row 9 1 (.slice ra l.length rc) l.length (textCells l) :: H) w) :
  Calls Tryz.prog 176 #[.slice ra l.length rc, .func (.func f) #[] cb] w fun e w' => ∃ ra' rc', e = .returned (.slice ra' (l.filter fun y => !pr y).length rc') ∧ Inv B (Res.row 9 1 (.slice ra' (l.filter fun y => !pr y).length rc') (l.filter fun y => !pr y).length (textCells (l.filter fun y => !pr y)) :: H) w' := by
 refine cW Tryz.func176 rfl Tryz.ntmps176 ?_
 simp only [al]
 refine sK fun _ k1 => rL (uA rfl ?_)
 refine uW k1 (sK fun _ k2 => ?_)
 refine rL (uM rfl ?_)
 refine uM rfl ?_
 refine xC s24callable105 rfl ((indexFuncO B H _ f cb ra rc l pr hm hcal hf hv).mono ?_) rfl
 rintro e w3 ⟨r, rfl, hor, hv⟩
 refine ⟨_, rfl, ?_⟩
 rcases hor with ⟨rfl, hno⟩ | ⟨i0, x0, rfl, hx0, hp0, hno⟩
 ·refine uA rfl (uW k2 ?_)
  refine sK fun _ k4 => sK fun _ k5 => rL (uM rfl ?_)
  refine uG (.bool true) rfl (ex_eql rfl rfl rfl (by decide)) (uW k5 ?_)
  refine cT rfl (sK fun _ k6 => ?_)
  refine rL (uM rfl ?_)
  refine uA rfl (uW k6 ?_)
  refine rR (tR ?_)
  refine bR rfl rfl ?_
  have hfl : l.filter (fun y => !pr y) = l := List.filter_eq_self.2 (fun y hy => by rw [hno y hy]; rfl)
  rw [hfl]
  exact ⟨_, _, rfl, hv⟩
 have hi0 : i0 < l.length := (List.getElem?_eq_some_iff.1 hx0).1
 obtain ⟨b, rfl⟩ := row_some hv.head (by omega)
 obtain ⟨hst, hsl⟩ := df_start hx0 hp0 hno
 refine uA rfl (uW k2 ?_)
 refine sK fun _ k7 => sK fun _ k8 => rL (uM rfl ?_)
 refine uG (.bool false) rfl (ex_eql rfl rfl rfl (qF (by omega))) (uW k8 ?_)
 refine cF rfl (kS ?_)
 refine tK k7 (sK fun _ k9 => ?_)
 refine sK fun _ k10 => rL (uM rfl ?_)
 refine uG (vI ((i0 + 1 : Nat) : Int)) rfl (ex_add rfl rfl rfl (by rw [i64_in (by omega)]; omega)) (uA rfl ?_)
 refine uW k10 (bB ?_)
 gi_loopw [5, 6] (fun x5 x6 wr => ∃ (i j : Nat) (kept mid : List (List UInt8)), x5 = vI i ∧ x6 = vI j ∧ j ≤ l.length ∧ kept = (l.take j).filter (fun y => !pr y) ∧ i = kept.length ∧ 0 < mid.length ∧ i + mid.length = j ∧ Inv B (Res.row 9 1 (.slice (some ⟨b, 0, none⟩) l.length rc) l.length (textCells (kept ++ mid ++ l.drop j)) :: H) wr) (fun x5 x6 _ => l.length - (intOf x6).toNat)
 case atStart => exact ⟨i0, i0 + 1, l.take i0, [x0], rfl, rfl, by omega, hst.symm, by rw [List.length_take]; omega, by simp, by simp, by rw [← hsl]; exact hv⟩
 case round =>
  obtain ⟨i, j, kept, mid, rfl, rfl, hj, hkept, hik, hmid, hij, hv⟩ := hrel
  refine sK fun _ k12 => sK fun _ k13 => rL (uM rfl ?_)
  refine uM rfl ?_
  refine uG (vI (l.length : Int)) rfl (ex_len0 Tryz.underlying22 rfl rfl) ?_
  by_cases hb14 : (j : Int) < (l.length : Int)
  ·refine uG (.bool true) rfl (ex_lss rfl rfl rfl (qT hb14)) (uW k13 ?_)
   refine cT rfl (kS ?_)
   refine tK k12 (sK fun _ k15 => ?_)
   refine bB (sK fun _ k16 => ?_)
   obtain ⟨x, hx⟩ : ∃ x, l[j]? = some x := ⟨_, List.getElem?_eq_getElem (show j < l.length by omega)⟩
   refine rL (uM rfl ?_)
   refine uM rfl ?_
   refine uG (.pointer (some ⟨b, 0 + j, none⟩)) rfl (ex_index rfl rfl rfl (run_idx1 (k := j) Tryz.underlying22 s24es22 (by omega))) ?_
   refine uL (vS x) rfl (run_load1 s24na9 (row_load (hv.get 0 rfl) (df_get (kept := kept) (mid := mid) hx (by omega)))) (uA rfl ?_)
   refine uW k16 (sK fun _ k17 => ?_)
   refine rL (uM rfl ?_)
   refine uM rfl ?_
   refine wpi_callV hcal tV wideC rfl (wn rfl) rfl rfl (args := #[vS x]) (by simp only [List.map_toArray, List.map_cons, List.map_nil]; rfl) ((hf x _ _ hv).mono ?_)
   rintro e w18 ⟨rfl, hv⟩
   refine ⟨_, rfl, uG (.bool (!(pr x))) rfl (ex_not rfl rfl rfl) ?_⟩
   refine uW k17 (wpIn_cond_split (t := !(pr x)) rfl (fun hc19 => ?_) (fun hc19 => ?_))
   ·refine sK fun _ k20 => ?_
    have hpx : pr x = false := by simpa using hc19
    obtain ⟨g0, mid2, hmg⟩ : ∃ g0 m2, mid = g0 :: m2 := (by cases mid with | nil => simp at hmid | cons a m => exact ⟨a, m, rfl⟩)
    subst hmg
    refine rL (uM rfl ?_)
    refine uM rfl (uM rfl ?_)
    refine uG (.pointer (some ⟨b, 0 + i, none⟩)) rfl (ex_index rfl rfl rfl (run_idx1 (k := i) Tryz.underlying22 s24es22 (by omega))) ?_
    refine sl_storeRow (v := vS x) tV (wn rfl) rfl rfl rfl hv s24sz9 (by rw [textCells_n]; simp only [List.length_append, List.length_cons, List.length_drop]; omega) rfl rfl (fun w21 hv => ?_)
    rw [Nat.zero_add] at hv
    refine uW k20 (rL ?_)
    refine uM rfl ?_
    refine uG (vI ((i + 1 : Nat) : Int)) rfl (ex_add rfl rfl rfl (by rw [i64_in (by omega)]; omega)) (uA rfl ?_)
    refine uZ (bN ?_)
    refine tK k15 (rL ?_)
    refine uM rfl ?_
    refine uG (vI ((j + 1 : Nat) : Int)) rfl (ex_add rfl rfl rfl (by rw [i64_in (by omega)]; omega)) (uA rfl ?_)
    refine uZ (then_normal ?_)
    go_roundw
    case rel => exact ⟨i + 1, j + 1, kept ++ [x], mid2 ++ [x], rfl, rfl, by omega, by rw [df_filter hx, ← hkept, hpx]; rfl, by rw [List.length_append]; simp; exact hik, by simp, by simp at hij ⊢; omega, by rw [hik, df_set hx] at hv; exact hv⟩
    case measure => show l.length - (((j + 1 : Nat) : Int)).toNat < l.length - ((j : Int)).toNat; omega
   refine kS (bN ?_)
   refine tK k15 ?_
   have hpx : pr x = true := by simpa using hc19
   refine rL (uM rfl ?_)
   refine uG (vI ((j + 1 : Nat) : Int)) rfl (ex_add rfl rfl rfl (by rw [i64_in (by omega)]; omega)) (uA rfl ?_)
   refine uZ (then_normal ?_)
   go_roundw
   case rel => exact ⟨i, j + 1, kept, mid ++ [x], rfl, rfl, by omega, by rw [df_filter hx, ← hkept, hpx]; simp, hik, by simp, by simp; omega, by rw [← df_skip hx]; exact hv⟩
   case measure => show l.length - (((j + 1 : Nat) : Int)).toNat < l.length - ((j : Int)).toNat; omega
  refine uG (.bool false) rfl (ex_lss rfl rfl rfl (qF hb14)) (uW k13 ?_)
  refine cF rfl (xE ?_)
  refine tX (tX ?_)
  refine bH (tK k9 ?_)
  refine sK fun _ k22 => ?_
  obtain rfl : j = l.length := by omega
  rw [List.drop_length, List.append_nil, textCells_app] at hv
  rw [List.take_length] at hkept
  obtain ⟨L, hL1, hL2, hL3, hL4, hv⟩ := hv.rowCell
  obtain ⟨tl, hLe⟩ : ∃ tl, L = textCells kept ++ textCells mid ++ tl := ⟨L.drop (l.length * 1), by rw [← hL2, List.take_append_drop]⟩
  subst hLe
  have hkn : (textCells kept).length = i := by rw [textCells_n]; exact hik.symm
  refine rL (uM rfl ?_)
  refine uM rfl ?_
  refine uG (.slice (some ⟨b, 0 + i, none⟩) (l.length - i) (rc - i)) rfl (ex_slice (lo' := some (vI i)) rfl rfl (congrArg some rfl) rfl rfl (run_from1 Tryz.underlying22 s24es22 (by omega) (by omega))) ?_
  refine sl_clearAt 0 (pre := textCells kept) (mid := textCells mid) (post := tl) (m := l.length - i) tV (wn rfl) rfl rfl s24el22 (one_cons rfl one_nil) hv rfl rfl (by rw [hkn, Nat.zero_add]) (by rw [textCells_n]; omega) (fun zs w23 hzs hv => ?_)
  simp only [zO] at hv
  refine uW k22 (sK fun _ k24 => ?_)
  refine rL (uM rfl ?_)
  refine uM rfl ?_
  refine uG (.slice (some ⟨b, 0, none⟩) i rc) rfl (ex_slice (hi' := some (vI i)) rfl rfl rfl (congrArg some rfl) rfl (run_hi Tryz.underlying22 s24es22 (by omega))) (uA rfl ?_)
  refine uW k24 (rR ?_)
  refine bR rfl rfl ?_
  have h8 := hv.cellRow (n := i) (c := rc) (size := 1) (by simp only [List.length_append, hzs] at hL1 ⊢; exact hL1) (by omega) hL4
  rw [List.append_assoc, Nat.mul_one, List.take_left' hkn, hik, hkept] at h8
  rw [hik, hkept]
  exact ⟨_, _, rfl, h8⟩
open Go.Sort
def deadNow (M : List (List UInt8 × Ver)) (clk : Int) (k : List UInt8) : Bool := match lookA M k with
 | some y => !aliveB y clk
 | none => false
def namesT (M : List (List UInt8 × Ver)) (clk : Int) : List (List UInt8) := ((M.map (·.1)).mergeSort leB).filter fun k => !deadNow M clk k
theorem vmap_nodup {w : World} {b : Nat} {es : List (List UInt8 × Value)} (h : (Res.vmap b es).holds w) : (es.map (·.1)).Nodup := by
 obtain ⟨E, clock, -, ⟨-, -, h2⟩, h3⟩ := h
 have h4 : E.toList.map (fun e => e.key) = (es.map (·.1)).map strV := by
  have := congrArg (List.map Prod.fst) h3
  simpa [List.map_map, Function.comp_def, kv] using this
 rw [h4] at h2
 exact List.Pairwise.imp (fun hab e => hab (by rw [e])) (List.pairwise_map.1 h2)
theorem adj_ne {l : List (List UInt8)} (h : l.Nodup) (j : Nat) (x y : List UInt8) (hx : l[j]? = some x) (hy : l[j + 1]? = some y) : ¬ y = x := by
 intro e; subst e
 have hj := (List.getElem?_eq_some_iff.1 hx).1
 have := (List.getElem?_inj hj h).1 (hx.trans hy.symm)
 omega
theorem compactTexts (B : Base) (H : List Res) (w : World) (ra : Option Addr) (rc : Nat) (l : List (List UInt8)) (hnd : l.Nodup) (hm : l.length ≤ 1000000) (hv : Inv B (Res.row 9 1 (.slice ra l.length rc) l.length (textCells l) :: H) w) :
  Calls Tryz.prog 199 #[.slice ra l.length rc] w fun e w' => e = .returned (.slice ra l.length rc) ∧ Inv B (Res.row 9 1 (.slice ra l.length rc) l.length (textCells l) :: H) w' := by
 refine cW Tryz.func199 rfl Tryz.ntmps199 ?_
 simp only [al]
 refine sK fun _ k1 => rL (uA rfl ?_)
 refine uW k1 (sK fun _ k2 => ?_)
 refine sK fun _ k3 => rL (uM rfl ?_)
 refine uG (vI (l.length : Int)) rfl (ex_len0 Tryz.underlying22 rfl rfl) ?_
 by_cases hb4 : (l.length : Int) < 2
 ·refine uG (.bool true) rfl (ex_lss rfl rfl rfl (qT hb4)) (uW k3 ?_)
  refine cT rfl (sK fun _ k5 => ?_)
  refine rL (uM rfl ?_)
  refine uA rfl (uW k5 ?_)
  refine rR (tR ?_)
  refine bR rfl rfl (⟨rfl, hv⟩)
 refine uG (.bool false) rfl (ex_lss rfl rfl rfl (qF hb4)) (uW k3 ?_)
 refine cF rfl (kS ?_)
 refine tK k2 (sK fun _ k6 => ?_)
 refine sK fun _ k7 => rL (uA rfl ?_)
 refine uW k7 (bB ?_)
 gi_loopw [3] (fun x3 wr => ∃ (j : Nat), x3 = vI ((j + 1 : Nat) : Int) ∧ j + 1 ≤ l.length ∧ Inv B (Res.row 9 1 (.slice ra l.length rc) l.length (textCells l) :: H) wr) (fun x3 _ => l.length - (intOf x3).toNat)
 case atStart => exact ⟨0, rfl, by omega, hv⟩
 case round =>
  obtain ⟨j, rfl, hj, hv⟩ := hrel
  refine sK fun _ k9 => sK fun _ k10 => rL (uM rfl ?_)
  refine uM rfl ?_
  refine uG (vI (l.length : Int)) rfl (ex_len0 Tryz.underlying22 rfl rfl) ?_
  by_cases hb11 : ((j + 1 : Nat) : Int) < (l.length : Int)
  ·refine uG (.bool true) rfl (ex_lss rfl rfl rfl (qT hb11)) (uW k10 ?_)
   refine cT rfl (kS ?_)
   refine tK k9 (sK fun _ k12 => ?_)
   refine bB (sK fun _ k13 => ?_)
   obtain ⟨x, hx⟩ : ∃ x, l[j]? = some x := ⟨_, List.getElem?_eq_getElem (show j < l.length by omega)⟩
   obtain ⟨y, hy⟩ : ∃ y, l[j + 1]? = some y := ⟨_, List.getElem?_eq_getElem (show j + 1 < l.length by omega)⟩
   obtain ⟨b, rfl⟩ := row_some hv.head (by omega)
   refine rW mixed [] [0,1,2,3,4,5,6,7,8,9] 61 rfl (by kernel_rfl) hv ?_
   simp only [qm, opAt]
   refine dM (.slice (some ⟨b, 0, none⟩) l.length rc) rfl (dM (vI ((j + 1 : Nat) : Int)) rfl ?_)
   refine dG (.pointer (some ⟨b, 0 + (j + 1 : Nat), none⟩)) rfl (ex_index rfl rfl rfl (run_idx1 (k := (j + 1 : Nat)) Tryz.underlying22 s9es22 (by omega))) ?_
   simp only [zP, po]
   refine dL _ rfl (fun hv => ex_load rfl rfl (run_load1 s9na9 (row_load (hv.get 0 rfl) (textCells_get hy)))) (dM (.slice (some ⟨b, 0, none⟩) l.length rc) rfl ?_)
   refine dM (vI ((j + 1 : Nat) : Int)) rfl ?_
   simp only [zP, po]
   refine dG (vI j) rfl (ex_sub rfl rfl rfl (by rw [i64_in (by omega)]; omega)) (dG (.pointer (some ⟨b, 0 + j, none⟩)) rfl (ex_index rfl rfl rfl (run_idx1 (k := j) Tryz.underlying22 s9es22 (by omega))) ?_)
   refine dL _ rfl (fun hv => ex_load rfl rfl (run_load1 s9na9 (row_load (hv.get 0 rfl) (textCells_get hx)))) ?_
   simp only [zP, po]
   refine dG (.bool false) rfl (ex_seql rfl rfl rfl (qF (adj_ne hnd j x y hx hy))) (dE fun w14 hv => ?_)
   simp only [zP, po]
   refine tK k13 (cF rfl ?_)
   refine kS (bN ?_)
   refine tK k12 (rL ?_)
   refine uM rfl ?_
   refine uG (vI ((j + 1 + 1 : Nat) : Int)) rfl (ex_add rfl rfl rfl (by rw [i64_in (by omega)]; omega)) (uA rfl ?_)
   refine uZ (then_normal ?_)
   go_roundw
   case rel => exact ⟨j + 1, rfl, by omega, hv⟩
   case measure => show l.length - (((j + 1 + 1 : Nat) : Int)).toNat < l.length - (((j + 1 : Nat) : Int)).toNat; omega
  refine uG (.bool false) rfl (ex_lss rfl rfl rfl (qF hb11)) (uW k10 ?_)
  refine cF rfl (xE ?_)
  refine tX (tX ?_)
  refine bH (tK k6 ?_)
  refine sK fun _ k15 => rL (uM rfl ?_)
  refine uA rfl (uW k15 ?_)
  refine rR (bR rfl rfl ?_)
  exact ⟨rfl, hv⟩
theorem x6al85 : AL Tryz.prog 85 [vI 0, .bool false, vI 0, vI 0, vS [], vN, vN, vN] := fun w => by kernel_rfl
theorem namesDead (B : Base) (H : List Res) (w : World) (g1 t m wb : Nat) (clk : Int) (es : List (List UInt8 × Value)) (M : List (List UInt8 × Ver)) (key : List UInt8) (hM : VM B es M) (hv : Inv B (Res.cell g1 [vP t] 62 :: Res.cell t [vP m, vI 0, vI clk, .bool false, .map (some wb)] 136 :: Res.vmap wb es :: H) w) :
  Calls Tryz.prog 200 #[vS key, vP g1] w fun e w' => e = .returned (.bool (deadNow M clk key)) ∧ Inv B (Res.cell g1 [vP t] 62 :: Res.cell t [vP m, vI 0, vI clk, .bool false, .map (some wb)] 136 :: Res.vmap wb es :: H) w' := by
 refine cW Tryz.func200 rfl Tryz.ntmps200 ?_
 simp only [al]
 refine sK fun _ k1 => rL (uA rfl ?_)
 refine uW k1 (sK fun _ k2 => ?_)
 refine rL (uL _ rfl (run_load1 x1na62 (hv.load 0 0 rfl rfl)) ?_)
 refine uG (vP t) rfl (ex_nil rfl rfl) ?_
 refine uF (.pointer (some ⟨t, 4, none⟩)) rfl (x2fa136_4 _ _ _) ?_
 refine uL _ rfl (run_load1 x2na134 (hv.load 1 4 rfl rfl)) (uM rfl ?_)
 rcases VM.look key hM with ⟨hl, hlM⟩ | ⟨x, xp, xt, xz, hl, hlM, hxv⟩
 ·refine uG (.tuple #[.agg #[vI 0, .bool false, vI 0, vI 0, vS [], vN, vN, vN], .bool false]) rfl (ex_lookN (z := .agg #[vI 0, .bool false, vI 0, vI 0, vS [], vN, vN, vN]) 2 rfl rfl rfl Tryz.underlying134 Tryz.underlying9 (fun w => by kernel_rfl) hv rfl hl) (uM rfl ?_)
  refine uE rfl (uE rfl ?_)
  refine sl_alloc tV (wn rfl) rfl hv x6al85 (fun b3 w4 hv => ?_)
  refine xS 0 rfl hv x0sz85 rfl (by exact ⟨rfl, rfl, rfl, rfl, rfl, rfl, rfl, rfl, trivial⟩) (fun w5 hv => ?_)
  simp only [zO, sp] at hv
  refine uA rfl (uW k2 ?_)
  refine sK fun _ k6 => rW mixed [7] [0,1,2,3,4,5,6,7,8,9,10] 25 rfl (by kernel_rfl) hv ?_
  simp only [qm, opAt]
  refine dM (.bool false) rfl (dM (.bool false) rfl ?_)
  iterate 7 refine dN rfl ?_
  refine dK false (.bool false) rfl ?_
  simp only [zP, po]
  refine dA (.bool false) rfl (dE fun w7 hv => ?_)
  simp only [zP, po]
  refine tK k6 (rR ?_)
  refine bR rfl rfl (⟨congrArg (fun b => Ending.returned (Value.bool b)) (by unfold deadNow; rw [hlM]), (hv.kp [3, 3, 3] 3 1)⟩)
 refine uG (.tuple #[.agg #[vI x.stamp, .bool x.gone, vI x.expire, vI x.val.kind, vS x.val.text, xp, xt, xz], .bool true]) rfl (ex_lookS (z := .agg #[vI 0, .bool false, vI 0, vI 0, vS [], vN, vN, vN]) 2 rfl rfl rfl Tryz.underlying134 Tryz.underlying9 (fun w => by kernel_rfl) hv rfl hl) (uM rfl ?_)
 refine uE rfl (uE rfl ?_)
 refine sl_alloc tV (wn rfl) rfl hv x6al85 (fun b8 w9 hv => ?_)
 refine xS 0 rfl hv x0sz85 rfl (by exact ⟨rfl, rfl, rfl, rfl, rfl, hxv.p.one, hxv.t.one, hxv.z.one, trivial⟩) (fun w10 hv => ?_)
 simp only [zO, sp] at hv
 refine uA rfl (uW k2 ?_)
 refine sK fun _ k11 => rW mixed [7] [0,1,2,3,4,5,6,7,8,9,10] 25 rfl (by kernel_rfl) hv ?_
 simp only [qm, opAt]
 refine dM (.bool true) rfl (dM (.bool true) rfl ?_)
 refine dL (.agg #[vI x.stamp, .bool x.gone, vI x.expire, vI x.val.kind, vS x.val.text, xp, xt, xz]) rfl (fun hv => ex_load rfl rfl (lM 0 x0wd85 hv rfl rfl rfl rfl)) ?_
 simp only [zP, po]
 refine dL _ rfl (fun hv => ex_load rfl rfl (run_load1 x1na62 (hv.load 1 0 rfl rfl))) (dG (vP t) rfl (ex_nil rfl rfl) ?_)
 refine dG (.pointer (some ⟨t, 2, none⟩)) rfl (ex_field rfl rfl (x2fa136_2 _ _ _)) ?_
 simp only [zP, po]
 refine dL _ rfl (fun hv => ex_load rfl rfl (run_load1 s2na3 (hv.load 2 2 rfl rfl))) (dS rfl fun w12 hv => ?_)
 refine mC x2callable184 rfl ((chainAlive B _ _ x xp xt xz clk hv).mono ?_) rfl
 rintro e w13 ⟨rfl, hv⟩
 refine ⟨_, rfl, dW hv ?_⟩
 refine dG (.bool (!(aliveB x clk))) rfl (ex_not rfl rfl rfl) ?_
 simp only [zP, po]
 refine dK true (.bool (!(aliveB x clk))) rfl (dA (.bool (!(aliveB x clk))) rfl ?_)
 refine dE fun w14 hv => ?_
 simp only [zP, po]
 refine tK k11 (rR ?_)
 refine bR rfl rfl (⟨congrArg (fun b => Ending.returned (Value.bool b)) (by unfold deadNow; rw [hlM]), (hv.kp [3, 3, 3] 3 1)⟩)
theorem x6callable173 : Callable Tryz.prog 173 := cb Tryz.func173 (by kernel_rfl)
theorem x6callable197 : Callable Tryz.prog 197 := cb Tryz.func197 (by kernel_rfl)
theorem x6callable196 : Callable Tryz.prog 196 := cb Tryz.func196 (by kernel_rfl)
theorem x6callable198 : Callable Tryz.prog 198 := cb Tryz.func198 (by kernel_rfl)
theorem x6callable199 : Callable Tryz.prog 199 := cb Tryz.func199 (by kernel_rfl)
theorem x6callable200 : Callable Tryz.prog 200 := cb Tryz.func200 (by kernel_rfl)
theorem txnNames (B : Base) (H : List Res) (w : World) (t m s p wb : Nat) (va : Option Addr) (vc : Nat) (sv : Value) (clk : Int) (es : List (List UInt8 × Value)) (M : List (List UInt8 × Ver)) (hM : VM B es M) (hkl : ∀ k ∈ M.map (·.1), k.length ≤ 256) (hMl : M.length ≤ 1000000) (hv : Inv B (txR t m s p wb va vc sv clk es :: H) w) :
  Calls Tryz.prog 193 #[vP t] w fun e w' => ∃ ra rc, e = .returned (.slice ra (namesT M clk).length rc) ∧ Inv B (Res.row 9 1 (.slice ra (namesT M clk).length rc) (namesT M clk).length (textCells (namesT M clk)) :: txR t m s p wb va vc sv clk es :: H) w' := by
 refine cW Tryz.func193 rfl Tryz.ntmps193 ?_
 simp only [al]
 refine sK fun _ k1 => ?_
 replace hv := Inv.unstar hv
 simp only [txL, List.cons_append, List.nil_append] at hv
 refine rL (sl_box (L := [vP t]) tV (wn rfl) rfl rfl hv (fun w => by kernel_rfl) (fun b2 w3 hv => ?_))
 refine uA rfl (uW k1 ?_)
 refine sK fun _ k4 => rW mixed [15] [0,1,2,3,4,5,6,7,8,9,10,11,12,13,14,15,16] 33 rfl (by kernel_rfl) hv ?_
 simp only [qm, opAt]
 refine dL _ rfl (fun hv => ex_load rfl rfl (run_load1 x1na62 (hv.load 0 0 rfl rfl))) (dG (vP t) rfl (ex_nil rfl rfl) ?_)
 refine dG (vP t) rfl (ex_field rfl rfl (x1fa136_0 _ _ _)) ?_
 simp only [zP, po]
 refine dL _ rfl (fun hv => ex_load rfl rfl (run_load1 x1na53 (hv.load 1 0 rfl rfl))) (dG (vP m) rfl (ex_nil rfl rfl) ?_)
 refine dG (vP m) rfl (ex_field rfl rfl (x2fa96_0 _ _ _)) ?_
 simp only [zP, po]
 refine dL _ rfl (fun hv => ex_load rfl rfl (run_load1 x0na57 (hv.load 2 0 rfl rfl))) (dL _ rfl (fun hv => ex_load rfl rfl (run_load1 x1na62 (hv.load 0 0 rfl rfl))) ?_)
 refine dG (vP t) rfl (ex_nil rfl rfl) ?_
 simp only [zP, po]
 refine dG (.pointer (some ⟨t, 1, none⟩)) rfl (ex_field rfl rfl (x2fa136_1 _ _ _)) (dL _ rfl (fun hv => ex_load rfl rfl (run_load1 s2na3 (hv.load 1 1 rfl rfl))) ?_)
 refine dL _ rfl (fun hv => ex_load rfl rfl (run_load1 x1na62 (hv.load 0 0 rfl rfl))) ?_
 simp only [zP, po]
 refine dG (vP t) rfl (ex_nil rfl rfl) (dG (.pointer (some ⟨t, 2, none⟩)) rfl (ex_field rfl rfl (x2fa136_2 _ _ _)) ?_)
 refine dL _ rfl (fun hv => ex_load rfl rfl (run_load1 s2na3 (hv.load 1 2 rfl rfl))) ?_
 simp only [zP, po]
 refine dS rfl fun w5 hv => ?_
 replace hv := hv.front 6 rfl
 simp only [eS, eZ] at hv
 replace hv := hv.front 6 rfl
 simp only [eS, eZ] at hv
 refine mC x6callable173 rfl ((storeNames0 B _ _ s p 0 clk hv).mono ?_) rfl
 rintro e w6 ⟨rfl, hv⟩
 refine ⟨_, rfl, dW hv ?_⟩
 refine dA (vN) rfl (dE fun w7 hv => ?_)
 simp only [zP, po]
 refine tK k4 (sK fun _ k8 => ?_)
 refine rL (uM rfl ?_)
 refine uL _ rfl (run_load1 x1na62 (hv.load 2 0 rfl rfl)) ?_
 refine uG (vP t) rfl (ex_nil rfl rfl) ?_
 refine uF (.pointer (some ⟨t, 4, none⟩)) rfl (x2fa136_4 _ _ _) ?_
 refine uL _ rfl (run_load1 x2na134 (hv.load 3 4 rfl rfl)) ?_
 refine xC x6callable197 rfl ((mapKeys B _ _ (some wb) hv).mono ?_) rfl
 rintro e w9 ⟨b9, rfl, hv⟩
 refine ⟨_, rfl, ?_⟩
 simp only [zP, po]
 replace hv := hv.front 7 rfl
 simp only [eS, eZ] at hv
 replace hv := hv.front 1 rfl
 simp only [eS, eZ] at hv
 have hnd := vmap_nodup (hv.get 1 rfl)
 have hke := VM.keys hM
 have hle : es.length = M.length := by have := congrArg List.length hke; simpa using this
 refine xC x6callable196 rfl ((appendKeys B _ _ b9 wb es (fun x hx => Nat.le_trans (hkl x.1 (by rw [← hke]; exact List.mem_map.2 ⟨x, hx, rfl⟩)) (by unfold maxLen; omega)) (by omega) hv).mono ?_) rfl
 rintro e w10 ⟨v9, ss, rfl, hperm, hv⟩
 refine ⟨_, rfl, ?_⟩
 obtain ⟨va9, vc9, rfl⟩ := row_slice hv.head
 have hsl : ss.length = M.length := by have := hperm.length_eq; rw [List.length_map] at this; omega
 refine uA rfl (uW k8 ?_)
 refine sK fun _ k11 => rL (uM rfl ?_)
 refine xC x6callable198 rfl ((sortTexts B _ _ _ ss (by omega) hv).mono ?_) rfl
 rintro e w12 ⟨rfl, hv⟩
 refine ⟨_, rfl, ?_⟩
 have hms : ss.mergeSort leB = (M.map (·.1)).mergeSort leB := by rw [mergeSort_of_perm hperm, hke]
 rw [hms] at hv
 obtain ⟨l, hl⟩ : ∃ l, (M.map (·.1)).mergeSort leB = l := ⟨_, rfl⟩
 rw [hl] at hv hms
 have hll : ss.length = l.length := by rw [← hms]; simp
 rw [hll] at hv ⊢
 have hln : l.Nodup := by rw [← hms]; exact ((List.mergeSort_perm ss leB).nodup_iff).2 ((hperm.nodup_iff).2 hnd)
 refine uW k11 (sK fun _ k13 => ?_)
 refine rL (uM rfl ?_)
 refine xC x6callable199 rfl ((compactTexts B _ _ va9 vc9 l hln (by omega) hv).mono ?_) rfl
 rintro e w14 ⟨rfl, hv⟩
 refine ⟨_, rfl, uG (.func (.func 200) #[] #[vP b2]) rfl (ex_makeFunc (c' := #[vP b2]) rfl (by simp only [List.map_toArray, List.map_nil]) (by simp only [List.map_toArray, List.map_cons, List.map_nil]; rfl)) ?_⟩
 have hfn : ∀ (x : List UInt8) (r9 : Res) (w : World), Inv B (r9 :: (Res.cell b9 [.map (some wb)] 134 :: Res.vmap wb es :: Res.cell s [vP p, vI 0, vI 0] 100 :: Res.cell p [vN, vI 0] 133 :: Res.cell b2 [vP t] 62 :: Res.cell t [vP m, vI 0, vI clk, .bool false, .map (some wb)] 136 :: Res.cell m [vP s, sv, vI clk, .slice va 1 vc] 96 :: Res.row 62 1 (.slice va 1 vc) 1 [vP t] :: H)) w → Calls Tryz.prog 200 (#[vS x] ++ #[vP b2]) w fun e w' => e = .returned (.bool (deadNow M clk x)) ∧ Inv B (r9 :: (Res.cell b9 [.map (some wb)] 134 :: Res.vmap wb es :: Res.cell s [vP p, vI 0, vI 0] 100 :: Res.cell p [vN, vI 0] 133 :: Res.cell b2 [vP t] 62 :: Res.cell t [vP m, vI 0, vI clk, .bool false, .map (some wb)] 136 :: Res.cell m [vP s, sv, vI clk, .slice va 1 vc] 96 :: Res.row 62 1 (.slice va 1 vc) 1 [vP t] :: H)) w' := fun x r9 w hv =>
  (namesDead B _ w b2 t m wb clk es M x hM (((((((((hv.front 8 rfl).front 8 rfl).front 6 rfl).front 6 rfl).front 5 rfl).front 5 rfl).front 6 rfl).front 8 rfl).front 8 rfl)).mono fun e w' ⟨h7, h8⟩ => ⟨h7, (((((((((h8.front 8 rfl).front 8 rfl).front 3 rfl).front 3 rfl).front 8 rfl).front 8 rfl).front 6 rfl).front 8 rfl).front 8 rfl)⟩
 refine xC x0callable176 rfl ((deleteFunc B _ _ 200 _ va9 vc9 l (deadNow M clk) (by omega) x6callable200 hfn hv).mono ?_) rfl
 rintro e w15 ⟨ra, rc, rfl, hv⟩
 refine ⟨_, rfl, uA rfl ?_⟩
 refine uW k13 (rR ?_)
 refine bR rfl rfl ?_
 subst hl
 exact ⟨_, _, rfl, Inv.front (Inv.star (K := txL _ _ _ _ _ _ _ _ _ _) ((hv.kp [4, 4, 4, 8, 8, 8] 7 2))) 1 rfl⟩
theorem itoa_small (n : Nat) (h : n ≤ 9) : Lib.itoa (n : Int) = [UInt8.ofNat (48 + n)] := by
 unfold Lib.itoa
 rw [if_neg (by omega), Lib.decDigits, dif_pos (by omega), Int.toNat_natCast]
def LPopR (M : List (List UInt8 × Ver)) (clk : Int) (key : List UInt8) (front : Bool) (ws : Tx) (M' : List (List UInt8 × Ver)) (r : Rp) : Prop :=
 ((∃ t ∈ ws, NumP t 0 false) ∧ M' = M ∧ IsF r) ∨ ∃ ns, IntsR ws ns 0 ∧ ((ns.headD 1 < 0 ∧ M' = M ∧ IsF r) ∨ (0 ≤ ns.headD 1 ∧ ∃ y ec, OfI M clk key 3 y ec ∧ ((ec ≠ 0 ∧ M' = M ∧ IsF r) ∨ (ec = 0 ∧ ((y.val.kind ≠ 3 ∧ M' = M ∧ r = rNone) ∨ (y.val.kind = 3 ∧ ∃ e3, ((popG y.val.texts front (ns.headD 1) = [] ∧ M' = M ∧ e3 = 0) ∨ (popG y.val.texts front (ns.headD 1) ≠ [] ∧ KeepI M clk key (listV (popL y.val.texts front (ns.headD 1))) y.expire e3 M')) ∧
  DoneR e3 (if ns ≠ [] ∨ popG y.val.texts front (ns.headD 1) = [] then rStrs (popG y.val.texts front (ns.headD 1)) else rStr ((popG y.val.texts front (ns.headD 1)).headD [])) r))))))
def spanF (a b : Int) (n : Nat) : Nat × Nat :=
 let s := if a < 0 then max (a + n) 0 else a
 let t := min (if b < 0 then b + n else b) ((n : Int) - 1)
 if s > t then (0, 0) else (s.toNat, (t + 1).toNat)
def rangeF (l : Tx) (a b : Int) : Tx := (l.take (spanF a b l.length).2).drop (spanF a b l.length).1
def LRangeR (M : List (List UInt8 × Ver)) (clk : Int) (key : List UInt8) (ws : Tx) (M' : List (List UInt8 × Ver)) (r : Rp) : Prop :=
 M' = M ∧ (((∃ t ∈ ws, NumP t 0 false) ∧ IsF r) ∨ ∃ a b, IntsR ws [a, b] 0 ∧ ∃ y ec, OfI M clk key 3 y ec ∧ ((ec ≠ 0 ∧ IsF r) ∨ (ec = 0 ∧ r = rStrs (rangeF y.val.texts a b))))
theorem range_all (l : Tx) : rangeF l 0 (-1) = l := by
 unfold rangeF spanF
 simp only [show ¬ (0 : Int) < 0 by decide, if_false, show (-1 : Int) < 0 by decide, if_true]
 by_cases h : l = []
 ·subst h; simp
 have := List.length_pos_iff.2 h
 rw [if_neg (by omega)]
 simp only [Int.toNat_zero, List.drop_zero]
 exact List.take_of_length_le (by omega)
abbrev kL : List UInt8 := [108]
structure HasL (M : List (List UInt8 × Ver)) (t : Tx) : Prop where
 ok : listRight t = true
 at_ : (t = [] ∧ DeadM M 0 kL) ∨ (t ≠ [] ∧ lookA M kL = some ⟨0, false, 0, listV t⟩)
 no : ∀ k, k ≠ kL → lookA M k = none
 one : M = [] ∨ ∃ v, M = [(kL, v)]
theorem upd_kL {M : List (List UInt8 × Ver)} (h : M = [] ∨ ∃ v, M = [(kL, v)]) (v : Ver) : updA M kL v = [] ∨ ∃ u, updA M kL v = [(kL, u)] := by
 rcases h with rfl | ⟨u, rfl⟩
 ·exact .inr ⟨v, rfl⟩
 exact .inr ⟨v, by unfold updA; rw [if_pos rfl]⟩
section
variable {M M' : List (List UInt8 × Ver)} {t out xs : Tx} {y : Ver} {ec : Int} {r : Rp} {x : List UInt8} {fr : Bool}
theorem HasL.nil : HasL [] [] := ⟨rfl, .inl ⟨rfl, fun y h => by cases h⟩, fun k _ => rfl, .inl rfl⟩
theorem HasL.of_ (hs : HasL M t) (ho : OfI M 0 kL 3 y ec) : ec = 0 ∧ y.val.texts = t ∧ y.expire = 0 ∧ (t ≠ [] → y.val.kind = 3) := by
 rcases hs.at_ with ⟨h1, h2⟩ | ⟨h1, h2⟩
 ·rcases ho with ⟨h3, rfl, -⟩ | ⟨-, -, z, h3, h4, -⟩ | ⟨-, h3, h4, -⟩
  ·exact ⟨h3, by rw [h1]; rfl, rfl, fun h9 => absurd h1 h9⟩
  ·rw [h2 z h3] at h4; cases h4
  rw [h2 y h3] at h4; cases h4
 rcases ho with ⟨-, -, h3⟩ | ⟨-, -, z, h3, -, h5⟩ | ⟨h0, h3, -, h5⟩
 ·have := h3 _ h2; cases this
 ·rw [h2] at h3; cases h3; exact absurd rfl h5
 rw [h2] at h3; cases h3; exact ⟨h0, rfl, rfl, fun _ => rfl⟩
theorem HasL.keep (hs : HasL M t) (hO : listRight out = true) (hk : KeepI M 0 kL (listV out) 0 ec M') : ec = 0 ∧ HasL M' out := by
 have hfull : out ≠ [] → FullV (listV out) := fun h9 => .inr (by have := List.length_pos_iff.2 h9; show 0 < 0 + out.length + 0; omega)
 have hnot : ¬ FullV (listV out) → out = [] := fun h9 => Classical.byContradiction fun h8 => h9 (hfull h8)
 have hne : FullV (listV out) → out ≠ [] := by
  rintro (h9 | h9) rfl
  ·exact absurd h9 (by decide)
  exact absurd h9 (by decide)
 have no : ∀ (v : Ver) k, k ≠ kL → lookA (updA M kL v) k = none := fun v k hn => by rw [look_upd, if_neg (Ne.symm hn)]; exact hs.no k hn
 rcases hk with ⟨h1, -, h3, rfl⟩ | ⟨h1, h2, -⟩ | ⟨h1, h2, h3, rfl⟩ | ⟨h1, -, ⟨-, h4, rfl⟩ | ⟨h4, -⟩⟩
 ·exact ⟨h3, hO, .inr ⟨hne h1, by rw [look_upd, if_pos rfl]⟩, no _, upd_kL hs.one _⟩
 ·exact absurd ⟨by decide, .inr (.inr (.inl ⟨rfl, List.length_pos_iff.2 (hne h1), hO, rfl, rfl, rfl⟩)), Int.le_refl _, by decide⟩ h2
 ·obtain rfl := hnot h1
  exact ⟨h3, rfl, .inl ⟨rfl, h2⟩, hs.no, hs.one⟩
 ·obtain rfl := hnot h1
  refine ⟨h4, rfl, .inl ⟨rfl, fun y hy => ?_⟩, no _, upd_kL hs.one _⟩
  rw [look_upd, if_pos rfl] at hy; cases hy; rfl
 exact absurd h4 (by decide)
theorem doneL {r0 : Rp} (he : ec = 0) (hd : DoneR ec r0 r) : r = r0 := hd.elim (fun h9 => h9.2) fun h9 => absurd he h9.1
theorem HasL.push (hs : HasL M t) (hl : t.length + xs.length ≤ 512) (hx : ∀ x ∈ xs, x.length ≤ 4096) (hr : LPushR M 0 kL fr false xs M' r) : HasL M' (if fr then xs.reverse ++ t else t ++ xs) ∧ r = rInt ((t.length : Int) + xs.length) := by
 obtain ⟨y, e0, ho, hr⟩ := hr
 obtain ⟨rfl, hy, he, -⟩ := hs.of_ ho
 rcases hr with ⟨h1, -⟩ | ⟨-, ⟨h1, -⟩ | ⟨-, out, e2, hp, hr⟩⟩
 ·exact absurd rfl h1
 ·cases h1
 rw [hy] at hp
 rcases hp with ⟨-, -, ⟨x, h3, h4⟩ | h3⟩ | ⟨rfl, -, -, rfl⟩
 ·have := hx x h3; omega
 ·omega
 rcases hr with ⟨h1, -⟩ | ⟨-, e3, hk, hd⟩
 ·exact absurd rfl h1
 rw [he] at hk
 obtain ⟨o1, o2⟩ := listR_iff.1 hs.ok
 obtain ⟨h5, h6⟩ := hs.keep (listR_iff.2 ⟨by split <;> simp only [List.length_append, List.length_reverse] <;> omega, fun x h9 => by
  split at h9 <;> simp only [List.mem_append, List.mem_reverse] at h9
  ·exact h9.elim (hx x) (o2 x)
  exact h9.elim (o2 x) (hx x)⟩) hk
 exact ⟨h6, by rw [doneL h5 hd]; congr 1; split <;> simp only [List.length_append, List.length_reverse] <;> omega⟩
theorem HasL.turnL (hs : HasL M (x :: t)) (hr : LMoveR M 0 kL kL true false M' r) : HasL M' (t ++ [x]) ∧ r = rStr x := by
 obtain ⟨y1, e1, ho, hr⟩ := hr
 obtain ⟨rfl, hy, he, -⟩ := hs.of_ ho
 rcases hr with ⟨h1, -⟩ | ⟨-, y2, e2, ho2, hr⟩
 ·exact absurd rfl h1
 obtain ⟨rfl, -, he2, -⟩ := hs.of_ ho2
 rcases hr with ⟨h1, -⟩ | ⟨-, hr⟩
 ·exact absurd rfl h1
 have hg : popG (x :: t) true 1 = [x] := by unfold popG popN; simp
 have hl : popL (x :: t) true 1 = t := by unfold popL popN; simp
 rw [hy, hg, hl] at hr
 obtain ⟨o1, o2⟩ := listR_iff.1 hs.ok
 rcases hr with ⟨h1, -⟩ | ⟨g, h1, out, e3, hp, hr⟩
 ·cases h1
 cases h1
 rw [if_pos rfl] at hp
 rcases hp with ⟨-, -, ⟨s, h3, h4⟩ | h3⟩ | ⟨rfl, -, -, rfl⟩
 ·rw [List.mem_singleton.1 h3] at h4; have := o2 x List.mem_cons_self; omega
 ·simp only [List.length_cons, List.length_nil] at h3 o1; omega
 rcases hr with ⟨h1, -⟩ | ⟨-, M1, e4, hk, hr⟩
 ·exact absurd rfl h1
 rw [he2] at hk
 obtain ⟨rfl, h6⟩ := hs.keep (out := t ++ [x]) (listR_iff.2 ⟨by simp only [List.length_append, List.length_cons, List.length_nil] at o1 ⊢; omega, fun z hz => o2 z (by simp only [List.mem_append, List.mem_singleton] at hz; exact hz.elim (List.mem_cons_of_mem _) fun e => by rw [e]; exact List.mem_cons_self)⟩) hk
 rcases hr with ⟨h1, -⟩ | ⟨-, ⟨-, rfl, rfl⟩ | ⟨h1, -⟩⟩
 ·exact absurd rfl h1
 ·exact ⟨h6, rfl⟩
 exact absurd rfl h1
theorem HasL.range (hs : HasL M t) (hr : LRangeR M 0 kL [[48], [45, 49]] M' r) : M' = M ∧ r = rStrs t := by
 have n0 : NumP [48] 0 true := .inl ⟨rfl, by decide, by decide, (itoa_small 0 (by decide)).symm⟩
 have n1 : NumP [45, 49] (-1) true := .inl ⟨rfl, by decide, by decide, by
  have h := itoa_small 1 (by decide)
  unfold Lib.itoa at h ⊢
  rw [if_neg (by decide)] at h
  rw [if_pos (by decide)]
  exact congrArg (List.cons 45) h.symm⟩
 obtain ⟨hM, ⟨⟨z, h, h2⟩, -⟩ | ⟨a, b, hns, y, e0, ho, hr⟩⟩ := hr
 ·simp only [List.mem_cons, List.not_mem_nil, or_false] at h
  rcases h with rfl | rfl
  ·exact absurd (n0.uniq h2).2 (by decide)
  exact absurd (n1.uniq h2).2 (by decide)
 obtain ⟨rfl, rfl⟩ : a = 0 ∧ b = -1 := by
  rcases hns with ⟨-, -, h1⟩ | ⟨h1, -⟩
  ·exact ⟨((h1 0 _ _ rfl rfl).uniq n0).1, ((h1 1 _ _ rfl rfl).uniq n1).1⟩
  exact absurd h1 (by decide)
 obtain ⟨rfl, hy, -, -⟩ := hs.of_ ho
 rcases hr with ⟨h1, -⟩ | ⟨-, h1⟩
 ·exact absurd rfl h1
 exact ⟨hM, by rw [h1, hy, range_all]⟩
end
def turned (l : Tx) (i : Nat) : Tx := l.drop i ++ l.take i
theorem i1mk9 : (Tryz.prog.info? 9).map (fun i => (i.zero, i.size, i.bytes)) = some (some (vS []), 1, 16) := by kernel_rfl
theorem i1el22 : Elem Tryz.prog 22 9 (vS []) 1 16 := elem_of Tryz.underlying22 i1mk9 (by rfl) (by decide)
theorem cloneOwn1 (B : Base) (H : List Res) (w : World) (a : Addr) (n c : Nat) (xs : List Value) (hok : SliceOk (some a) n c) (hl : xs.length = n * 1) (h1 : ∀ u ∈ xs, u.oneCell' = true) (hn : n ≤ 1000000) (hr : RdV B [] (some a) xs) (hv : Inv B H w) :
  Calls Tryz.prog 88 #[.slice (some a) n c] w fun e w' => ∃ v, e = .returned v ∧ Inv B (Res.row 9 1 v n xs :: H) w' := by
 refine cW Tryz.func88 rfl Tryz.ntmps88 ?_
 simp only [al]
 refine sK fun _ k1 => rL (uA rfl ?_)
 refine uW k1 (sK fun _ k2 => ?_)
 refine sK fun _ k3 => rL (uM rfl ?_)
 refine uG (.bool false) rfl (ex_slnil Tryz.underlying22 rfl rfl rfl rfl) (uW k3 ?_)
 refine cF rfl (kS ?_)
 refine tK k2 (sK fun _ k4 => ?_)
 refine rL (sl_row0 (size := 1) tV (wn rfl) rfl hv (e := 9) (fun w => by kernel_rfl) (fun b5 w6 hv => ?_))
 refine uM rfl ?_
 refine sl_append (news := xs) tV (wn rfl) rfl rfl rfl i1el22 hv hok hl ((hr.more (Base.Le.refl _) (fun _ h => by cases h)).src hv) (h1) (by unfold maxLen; omega) (by omega) (fun rv7 w10 hv => ?_)
 obtain ⟨ra8, rc9, rfl⟩ := row_slice hv.head
 refine uA rfl (uW k4 ?_)
 refine rR (bR rfl rfl ?_)
 rw [Nat.zero_add, List.nil_append] at hv
 exact ⟨_, by rw [Nat.zero_add]; rfl, hv⟩
theorem cloneOwn (B : Base) (H : List Res) (w : World) (ad : Option Addr) (n c : Nat) (xs : List Value) (hok : SliceOk ad n c) (hl : xs.length = n * 1) (h1 : ∀ u ∈ xs, u.oneCell' = true) (hn : n ≤ 1000000) (hr : RdV B [] ad xs) (hv : Inv B H w) :
  Calls Tryz.prog 88 #[.slice ad n c] w fun e w' => ∃ v, e = .returned v ∧ Inv B (Res.row 9 1 v n xs :: H) w' := by
 cases ad with
 | none =>
  have hc0 : c = 0 := hok.nil rfl
  have hn0 : n = 0 := by have := hok.le; omega
  subst hc0 hn0
  have hx : xs = [] := List.eq_nil_of_length_eq_zero (by simpa using hl)
  subst hx
  refine (cloneTexts0 B H w hv).mono ?_
  rintro e w' ⟨rfl, hv⟩
  exact ⟨_, rfl, hv.rowNil _ _⟩
 | some a => exact cloneOwn1 B H w a n c xs hok hl h1 hn hr hv
theorem numPlace (B : Base) (H : List Res) (w : World) (i : Int) (hi : -9223372036854775808 ≤ i ∧ i ≤ 9223372036854775807) (n : Nat) (hn : n ≤ 1000000) (hv : Inv B H w) :
  Calls Tryz.prog 90 #[vI i, vI n] w fun e w' => ∃ (at9 : Int) (ok : Bool), e = .returned (.tuple #[vI at9, .bool ok]) ∧ ((ok = true ∧ 0 ≤ at9 ∧ at9 < (n : Int)) ∨ ok = false) ∧ Inv B H w' := by
 refine cW Tryz.func90 rfl Tryz.ntmps90 ?_
 simp only [al]
 refine sK fun _ k1 => rL (uA rfl ?_)
 refine uA rfl (uW k1 ?_)
 refine sK fun _ k2 => rL (uM rfl ?_)
 refine uG (vI n) rfl (ex_max2 (m := (n : Int)) (n := 0) rfl rfl rfl (if_neg (by omega))) (uA rfl ?_)
 refine uW k2 (sK fun _ k3 => ?_)
 refine sK fun _ k4 => rL (uM rfl ?_)
 by_cases hb5 : i < 0
 ·refine uG (.bool true) rfl (ex_lss rfl rfl rfl (qT hb5)) (uW k4 ?_)
  refine cT rfl (rL ?_)
  refine uM rfl (uM rfl ?_)
  refine uG (vI (i + (n : Int))) rfl (ex_add rfl rfl rfl (i64_in (by omega))) (uA rfl ?_)
  refine uW k3 (sK fun _ k6 => ?_)
  refine sK fun _ k7 => rL (uM rfl ?_)
  by_cases hb8 : (i + (n : Int)) < 0
  ·refine uG (.bool true) rfl (ex_lss rfl rfl rfl (qT hb8)) (uM rfl ?_)
   iterate 3 refine uP rfl ?_
   refine uK rfl (uW k7 ?_)
   refine cT rfl (sK fun _ k9 => ?_)
   refine rL (uA rfl ?_)
   refine uA rfl (uW k9 ?_)
   refine rR (tR ?_)
   refine bodyPost_ret (results_tmp2 rfl _ _ _) rfl (⟨0, false, rfl, .inr rfl, hv⟩)
  refine uG (.bool false) rfl (ex_lss rfl rfl rfl (qF hb8)) (uM rfl ?_)
  refine uM rfl ?_
  refine uM rfl ?_
  by_cases hb10 : (i + (n : Int)) ≥ (n : Int)
  ·refine uG (.bool true) rfl (ex_geq rfl rfl rfl (qT hb10)) (uK rfl ?_)
   refine uW k7 (cT rfl ?_)
   refine sK fun _ k11 => rL (uA rfl ?_)
   refine uA rfl (uW k11 ?_)
   refine rR (tR ?_)
   refine bodyPost_ret (results_tmp2 rfl _ _ _) rfl (⟨0, false, rfl, .inr rfl, hv⟩)
  refine uG (.bool false) rfl (ex_geq rfl rfl rfl (qF hb10)) (uK rfl ?_)
  refine uW k7 (cF rfl ?_)
  refine kS (tK k6 ?_)
  refine sK fun _ k12 => rL (uM rfl ?_)
  refine uA rfl (uA rfl ?_)
  refine uW k12 (rR ?_)
  refine bodyPost_ret (results_tmp2 rfl _ _ _) rfl (⟨_, true, rfl, .inl ⟨rfl, by omega, by omega⟩, hv⟩)
 refine uG (.bool false) rfl (ex_lss rfl rfl rfl (qF hb5)) (uW k4 ?_)
 refine cF rfl (kS ?_)
 refine tK k3 (sK fun _ k13 => ?_)
 refine sK fun _ k14 => rL (uM rfl ?_)
 refine uG (.bool false) rfl (ex_lss rfl rfl rfl (qF hb5)) (uM rfl ?_)
 refine uM rfl ?_
 refine uM rfl ?_
 by_cases hb15 : i ≥ (n : Int)
 ·refine uG (.bool true) rfl (ex_geq rfl rfl rfl (qT hb15)) (uK rfl ?_)
  refine uW k14 (cT rfl ?_)
  refine sK fun _ k16 => rL (uA rfl ?_)
  refine uA rfl (uW k16 ?_)
  refine rR (tR ?_)
  refine bodyPost_ret (results_tmp2 rfl _ _ _) rfl (⟨0, false, rfl, .inr rfl, hv⟩)
 refine uG (.bool false) rfl (ex_geq rfl rfl rfl (qF hb15)) (uK rfl ?_)
 refine uW k14 (cF rfl ?_)
 refine kS (tK k13 ?_)
 refine sK fun _ k17 => rL (uM rfl ?_)
 refine uA rfl (uA rfl ?_)
 refine uW k17 (rR ?_)
 refine bodyPost_ret (results_tmp2 rfl _ _ _) rfl (⟨_, true, rfl, .inl ⟨rfl, by omega, by omega⟩, hv⟩)
theorem numSpan (B : Base) (H : List Res) (w : World) (a b : Int) (ha : -9223372036854775808 ≤ a ∧ a ≤ 9223372036854775807) (hb0 : -9223372036854775808 ≤ b ∧ b ≤ 9223372036854775807) (n : Nat) (hn : n ≤ 1000000) (hv : Inv B H w) :
  Calls Tryz.prog 102 #[vI a, vI b, vI n] w fun e w' => ∃ lo hi : Nat, e = .returned (.tuple #[vI lo, vI hi]) ∧ spanF a b n = (lo, hi) ∧ lo ≤ hi ∧ hi ≤ n ∧ Inv B H w' := by
 refine cW Tryz.func102 rfl Tryz.ntmps102 ?_
 simp only [al]
 refine sK fun _ k1 => rL (uA rfl ?_)
 refine uA rfl (uW k1 ?_)
 refine sK fun _ k2 => rL (uM rfl ?_)
 refine uG (vI n) rfl (ex_max2 (m := (n : Int)) (n := 0) rfl rfl rfl (if_neg (by omega))) (uA rfl ?_)
 refine uW k2 (sK fun _ k3 => ?_)
 refine sK fun _ k4 => rL (uM rfl ?_)
 by_cases hb5 : a < 0
 ·refine uG (.bool true) rfl (ex_lss rfl rfl rfl (qT hb5)) (uW k4 ?_)
  refine cT rfl (rL ?_)
  refine uM rfl (uM rfl ?_)
  refine uG (vI (a + (n : Int))) rfl (ex_add rfl rfl rfl (i64_in (by omega))) ?_
  refine uG (vI (if 0 > (a + (n : Int)) then 0 else (a + (n : Int)))) rfl (ex_max2 (m := (a + (n : Int))) (n := 0) rfl rfl rfl rfl) (uA rfl ?_)
  refine uW k3 (sK fun _ k6 => ?_)
  refine sK fun _ k7 => rL (uM rfl ?_)
  by_cases hb8 : b < 0
  ·refine uG (.bool true) rfl (ex_lss rfl rfl rfl (qT hb8)) (uW k7 ?_)
   refine cT rfl (rL ?_)
   refine uM rfl (uM rfl ?_)
   refine uG (vI (b + (n : Int))) rfl (ex_add rfl rfl rfl (i64_in (by omega))) (uA rfl ?_)
   refine uW k6 (sK fun _ k9 => ?_)
   refine rL (uM rfl ?_)
   refine uM rfl ?_
   refine uG (vI ((n : Int) - 1)) rfl (ex_sub rfl rfl rfl (i64_in (by omega))) ?_
   refine uG (vI (if ((n : Int) - 1) < (b + (n : Int)) then ((n : Int) - 1) else (b + (n : Int)))) rfl (ex_min2 (m := (b + (n : Int))) (n := ((n : Int) - 1)) rfl rfl rfl rfl) (uA rfl ?_)
   refine uW k9 (sK fun _ k10 => ?_)
   refine sK fun _ k11 => ?_
   obtain ⟨s0, hs0⟩ : ∃ s : Int, s = (if 0 > (a + (n : Int)) then 0 else (a + (n : Int))) := ⟨_, rfl⟩
   obtain ⟨t9, ht9⟩ : ∃ s : Int, s = (if ((n : Int) - 1) < (b + (n : Int)) then ((n : Int) - 1) else (b + (n : Int))) := ⟨_, rfl⟩
   rw [← hs0]
   rw [← ht9]
   have hss : (if a < 0 then max (a + (n : Int)) 0 else a) = s0 := by rw [hs0]; (repeat' split) <;> omega
   have htt : min (if b < 0 then b + (n : Int) else b) ((n : Int) - 1) = t9 := by rw [ht9]; (repeat' split) <;> omega
   have hs9 : 0 ≤ s0 := by rw [← hss]; split <;> omega
   have ht8 : t9 ≤ (n : Int) - 1 := by rw [← htt]; omega
   refine rL (uM rfl ?_)
   refine uM rfl ?_
   by_cases hb12 : s0 > t9
   ·refine uG (.bool true) rfl (ex_gtr rfl rfl rfl (qT hb12)) (uW k11 ?_)
    refine cT rfl (sK fun _ k13 => ?_)
    refine rL (uA rfl ?_)
    refine uA rfl (uW k13 ?_)
    refine rR (tR ?_)
    refine bodyPost_ret (results_tmp2 rfl _ _ _) rfl (⟨0, 0, rfl, by unfold spanF; simp only [hss, htt]; exact if_pos (by omega), Nat.le_refl _, Nat.zero_le _, hv⟩)
   refine uG (.bool false) rfl (ex_gtr rfl rfl rfl (qF hb12)) (uW k11 ?_)
   refine cF rfl (kS ?_)
   refine tK k10 (sK fun _ k14 => ?_)
   refine rL (uM rfl ?_)
   refine uM rfl ?_
   refine uG (vI (t9 + 1)) rfl (ex_add rfl rfl rfl (i64_in (by omega))) (uA rfl ?_)
   refine uA rfl (uW k14 ?_)
   refine rR (bodyPost_ret (results_tmp2 rfl _ _ _) rfl ?_)
   exact ⟨(s0).toNat, (t9 + 1).toNat, by show Ending.returned (Value.tuple #[vI s0, vI (t9 + 1)]) = _; rw [Int.toNat_of_nonneg (by omega), Int.toNat_of_nonneg (by omega)], by unfold spanF; simp only [hss, htt]; exact if_neg (by omega), by omega, by omega, hv⟩
  refine uG (.bool false) rfl (ex_lss rfl rfl rfl (qF hb8)) (uW k7 ?_)
  refine cF rfl (kS ?_)
  refine tK k6 (sK fun _ k15 => ?_)
  refine rL (uM rfl ?_)
  refine uM rfl ?_
  refine uG (vI ((n : Int) - 1)) rfl (ex_sub rfl rfl rfl (i64_in (by omega))) ?_
  refine uG (vI (if ((n : Int) - 1) < b then ((n : Int) - 1) else b)) rfl (ex_min2 (m := b) (n := ((n : Int) - 1)) rfl rfl rfl rfl) (uA rfl ?_)
  refine uW k15 (sK fun _ k16 => ?_)
  refine sK fun _ k17 => ?_
  obtain ⟨s0, hs0⟩ : ∃ s : Int, s = (if 0 > (a + (n : Int)) then 0 else (a + (n : Int))) := ⟨_, rfl⟩
  obtain ⟨t9, ht9⟩ : ∃ s : Int, s = (if ((n : Int) - 1) < b then ((n : Int) - 1) else b) := ⟨_, rfl⟩
  rw [← hs0]
  rw [← ht9]
  have hss : (if a < 0 then max (a + (n : Int)) 0 else a) = s0 := by rw [hs0]; (repeat' split) <;> omega
  have htt : min (if b < 0 then b + (n : Int) else b) ((n : Int) - 1) = t9 := by rw [ht9]; (repeat' split) <;> omega
  have hs9 : 0 ≤ s0 := by rw [← hss]; split <;> omega
  have ht8 : t9 ≤ (n : Int) - 1 := by rw [← htt]; omega
  refine rL (uM rfl ?_)
  refine uM rfl ?_
  by_cases hb18 : s0 > t9
  ·refine uG (.bool true) rfl (ex_gtr rfl rfl rfl (qT hb18)) (uW k17 ?_)
   refine cT rfl (sK fun _ k19 => ?_)
   refine rL (uA rfl ?_)
   refine uA rfl (uW k19 ?_)
   refine rR (tR ?_)
   refine bodyPost_ret (results_tmp2 rfl _ _ _) rfl (⟨0, 0, rfl, by unfold spanF; simp only [hss, htt]; exact if_pos (by omega), Nat.le_refl _, Nat.zero_le _, hv⟩)
  refine uG (.bool false) rfl (ex_gtr rfl rfl rfl (qF hb18)) (uW k17 ?_)
  refine cF rfl (kS ?_)
  refine tK k16 (sK fun _ k20 => ?_)
  refine rL (uM rfl ?_)
  refine uM rfl ?_
  refine uG (vI (t9 + 1)) rfl (ex_add rfl rfl rfl (i64_in (by omega))) (uA rfl ?_)
  refine uA rfl (uW k20 ?_)
  refine rR (bodyPost_ret (results_tmp2 rfl _ _ _) rfl ?_)
  exact ⟨(s0).toNat, (t9 + 1).toNat, by show Ending.returned (Value.tuple #[vI s0, vI (t9 + 1)]) = _; rw [Int.toNat_of_nonneg (by omega), Int.toNat_of_nonneg (by omega)], by unfold spanF; simp only [hss, htt]; exact if_neg (by omega), by omega, by omega, hv⟩
 refine uG (.bool false) rfl (ex_lss rfl rfl rfl (qF hb5)) (uW k4 ?_)
 refine cF rfl (kS ?_)
 refine tK k3 (sK fun _ k21 => ?_)
 refine sK fun _ k22 => rL (uM rfl ?_)
 by_cases hb23 : b < 0
 ·refine uG (.bool true) rfl (ex_lss rfl rfl rfl (qT hb23)) (uW k22 ?_)
  refine cT rfl (rL ?_)
  refine uM rfl (uM rfl ?_)
  refine uG (vI (b + (n : Int))) rfl (ex_add rfl rfl rfl (i64_in (by omega))) (uA rfl ?_)
  refine uW k21 (sK fun _ k24 => ?_)
  refine rL (uM rfl ?_)
  refine uM rfl ?_
  refine uG (vI ((n : Int) - 1)) rfl (ex_sub rfl rfl rfl (i64_in (by omega))) ?_
  refine uG (vI (if ((n : Int) - 1) < (b + (n : Int)) then ((n : Int) - 1) else (b + (n : Int)))) rfl (ex_min2 (m := (b + (n : Int))) (n := ((n : Int) - 1)) rfl rfl rfl rfl) (uA rfl ?_)
  refine uW k24 (sK fun _ k25 => ?_)
  refine sK fun _ k26 => ?_
  obtain ⟨s0, hs0⟩ : ∃ s : Int, s = a := ⟨_, rfl⟩
  obtain ⟨t9, ht9⟩ : ∃ s : Int, s = (if ((n : Int) - 1) < (b + (n : Int)) then ((n : Int) - 1) else (b + (n : Int))) := ⟨_, rfl⟩
  skip
  rw [← ht9]
  have hss : (if a < 0 then max (a + (n : Int)) 0 else a) = s0 := by rw [hs0]; (repeat' split) <;> omega
  have htt : min (if b < 0 then b + (n : Int) else b) ((n : Int) - 1) = t9 := by rw [ht9]; (repeat' split) <;> omega
  have hs9 : 0 ≤ s0 := by rw [← hss]; split <;> omega
  have ht8 : t9 ≤ (n : Int) - 1 := by rw [← htt]; omega
  refine rL (uM rfl ?_)
  refine uM rfl ?_
  by_cases hb27 : a > t9
  ·refine uG (.bool true) rfl (ex_gtr rfl rfl rfl (qT hb27)) (uW k26 ?_)
   refine cT rfl (sK fun _ k28 => ?_)
   refine rL (uA rfl ?_)
   refine uA rfl (uW k28 ?_)
   refine rR (tR ?_)
   refine bodyPost_ret (results_tmp2 rfl _ _ _) rfl (⟨0, 0, rfl, by unfold spanF; simp only [hss, htt]; exact if_pos (by omega), Nat.le_refl _, Nat.zero_le _, hv⟩)
  refine uG (.bool false) rfl (ex_gtr rfl rfl rfl (qF hb27)) (uW k26 ?_)
  refine cF rfl (kS ?_)
  refine tK k25 (sK fun _ k29 => ?_)
  refine rL (uM rfl ?_)
  refine uM rfl ?_
  refine uG (vI (t9 + 1)) rfl (ex_add rfl rfl rfl (i64_in (by omega))) (uA rfl ?_)
  refine uA rfl (uW k29 ?_)
  refine rR (bodyPost_ret (results_tmp2 rfl _ _ _) rfl ?_)
  exact ⟨(a).toNat, (t9 + 1).toNat, by show Ending.returned (Value.tuple #[vI a, vI (t9 + 1)]) = _; rw [Int.toNat_of_nonneg (by omega), Int.toNat_of_nonneg (by omega)], by unfold spanF; simp only [hss, htt]; rw [if_neg (by omega), hs0], by omega, by omega, hv⟩
 refine uG (.bool false) rfl (ex_lss rfl rfl rfl (qF hb23)) (uW k22 ?_)
 refine cF rfl (kS ?_)
 refine tK k21 (sK fun _ k30 => ?_)
 refine rL (uM rfl ?_)
 refine uM rfl ?_
 refine uG (vI ((n : Int) - 1)) rfl (ex_sub rfl rfl rfl (i64_in (by omega))) ?_
 refine uG (vI (if ((n : Int) - 1) < b then ((n : Int) - 1) else b)) rfl (ex_min2 (m := b) (n := ((n : Int) - 1)) rfl rfl rfl rfl) (uA rfl ?_)
 refine uW k30 (sK fun _ k31 => ?_)
 refine sK fun _ k32 => ?_
 obtain ⟨s0, hs0⟩ : ∃ s : Int, s = a := ⟨_, rfl⟩
 obtain ⟨t9, ht9⟩ : ∃ s : Int, s = (if ((n : Int) - 1) < b then ((n : Int) - 1) else b) := ⟨_, rfl⟩
 skip
 rw [← ht9]
 have hss : (if a < 0 then max (a + (n : Int)) 0 else a) = s0 := by rw [hs0]; (repeat' split) <;> omega
 have htt : min (if b < 0 then b + (n : Int) else b) ((n : Int) - 1) = t9 := by rw [ht9]; (repeat' split) <;> omega
 have hs9 : 0 ≤ s0 := by rw [← hss]; split <;> omega
 have ht8 : t9 ≤ (n : Int) - 1 := by rw [← htt]; omega
 refine rL (uM rfl ?_)
 refine uM rfl ?_
 by_cases hb33 : a > t9
 ·refine uG (.bool true) rfl (ex_gtr rfl rfl rfl (qT hb33)) (uW k32 ?_)
  refine cT rfl (sK fun _ k34 => ?_)
  refine rL (uA rfl ?_)
  refine uA rfl (uW k34 ?_)
  refine rR (tR ?_)
  refine bodyPost_ret (results_tmp2 rfl _ _ _) rfl (⟨0, 0, rfl, by unfold spanF; simp only [hss, htt]; exact if_pos (by omega), Nat.le_refl _, Nat.zero_le _, hv⟩)
 refine uG (.bool false) rfl (ex_gtr rfl rfl rfl (qF hb33)) (uW k32 ?_)
 refine cF rfl (kS ?_)
 refine tK k31 (sK fun _ k35 => ?_)
 refine rL (uM rfl ?_)
 refine uM rfl ?_
 refine uG (vI (t9 + 1)) rfl (ex_add rfl rfl rfl (i64_in (by omega))) (uA rfl ?_)
 refine uA rfl (uW k35 ?_)
 refine rR (bodyPost_ret (results_tmp2 rfl _ _ _) rfl ?_)
 exact ⟨(a).toNat, (t9 + 1).toNat, by show Ending.returned (Value.tuple #[vI a, vI (t9 + 1)]) = _; rw [Int.toNat_of_nonneg (by omega), Int.toNat_of_nonneg (by omega)], by unfold spanF; simp only [hss, htt]; rw [if_neg (by omega), hs0], by omega, by omega, hv⟩
theorem i1callable90 : Callable Tryz.prog 90 := cb Tryz.func90 (by kernel_rfl)
theorem listIndex (B : Base) (H : List Res) (w : World) (la : Option Addr) (lc : Nat) (l : Tx) (hokl : SliceOk la l.length lc) (hrl : RdV B [] la (textCells l)) (hml : l.length ≤ 1000000) (i : Int) (hi : -9223372036854775808 ≤ i ∧ i ≤ 9223372036854775807) (hv : Inv B H w) :
  Calls Tryz.prog 67 #[.slice la l.length lc, vI i] w fun e w' => ∃ s ok, e = .returned (.tuple #[strV s, .bool ok]) ∧ Inv B H w' := by
 refine cW Tryz.func67 rfl Tryz.ntmps67 ?_
 simp only [al]
 refine sK fun _ k1 => rL (uA rfl ?_)
 refine uA rfl (uW k1 ?_)
 refine sK fun _ k2 => rL (uM rfl ?_)
 refine uM rfl ?_
 refine uG (vI (l.length : Int)) rfl (ex_len0 Tryz.underlying22 rfl rfl) ?_
 refine xC i1callable90 rfl ((numPlace B _ _ i (by omega) l.length hml hv).mono ?_) rfl
 rintro e w3 ⟨at9, ok, rfl, hpl, hv⟩
 refine ⟨_, rfl, ?_⟩
 rcases hpl with ⟨rfl, hp0, hp1⟩ | rfl
 ·obtain ⟨j, rfl⟩ : ∃ j : Nat, at9 = (j : Int) := ⟨at9.toNat, by omega⟩
  refine uM rfl (uE rfl ?_)
  refine uE rfl (uA rfl ?_)
  refine uA rfl (uW k2 ?_)
  refine sK fun _ k4 => sK fun _ k5 => rL (uM rfl ?_)
  refine uG (.bool false) rfl (ex_not rfl rfl rfl) (uW k5 ?_)
  refine cF rfl (kS ?_)
  refine tK k4 (sK fun _ k6 => ?_)
  obtain ⟨x, hx⟩ : ∃ x, l[j]? = some x := ⟨_, List.getElem?_eq_getElem (show j < l.length by omega)⟩
  obtain ⟨bb, bo, had, hrdx⟩ := text_reads hrl hx
  subst had
  refine rL (uM rfl ?_)
  refine uM rfl ?_
  refine uG (.pointer (some ⟨bb, bo + j, none⟩)) rfl (ex_index rfl rfl rfl (run_idx1 (k := j) Tryz.underlying22 s9es22 (by omega))) ?_
  refine uL _ rfl (run_load1 s9na9 (hrdx _ _ _ (Base.Le.refl _) no_res hv 0 _ rfl)) (uA rfl ?_)
  refine uA rfl (uW k6 ?_)
  refine rR (bodyPost_ret (results_tmp2 rfl _ _ _) rfl ?_)
  exact ⟨_, _, rfl, hv⟩
 refine uM rfl (uE rfl ?_)
 refine uE rfl (uA rfl ?_)
 refine uA rfl (uW k2 ?_)
 refine sK fun _ k7 => sK fun _ k8 => rL (uM rfl ?_)
 refine uG (.bool true) rfl (ex_not rfl rfl rfl) (uW k8 ?_)
 refine cT rfl (sK fun _ k9 => ?_)
 refine rL (uA rfl ?_)
 refine uA rfl (uW k9 ?_)
 refine rR (tR ?_)
 refine bodyPost_ret (results_tmp2 rfl _ _ _) rfl (⟨_, _, rfl, hv⟩)
theorem slicesIndex (B : Base) (H : List Res) (w : World) (la : Option Addr) (lc : Nat) (l : Tx) (hokl : SliceOk la l.length lc) (hrl : RdV B [] la (textCells l)) (hml : l.length ≤ 1000000) (f : List UInt8) (hv : Inv B H w) :
  Calls Tryz.prog 91 #[.slice la l.length lc, vS f] w fun e w' => ∃ r : Int, e = .returned (vI r) ∧ -1 ≤ r ∧ r < (l.length : Int) ∧ Inv B H w' := by
 refine cW Tryz.func91 rfl Tryz.ntmps91 ?_
 simp only [al]
 refine sK fun _ k1 => rL (uA rfl ?_)
 refine uW k1 (sK fun _ k2 => ?_)
 refine sK fun _ k3 => rL (uM rfl ?_)
 refine uG (vI (l.length : Int)) rfl (ex_len0 Tryz.underlying22 rfl rfl) (uM rfl ?_)
 refine uW k3 (bB ?_)
 gi_loopw [8] (fun x8 wr => ∃ (i : Nat), x8 = vI i ∧ i ≤ l.length ∧ Inv B H wr) (fun x8 _ => l.length - (intOf x8).toNat)
 case atStart => exact ⟨0, rfl, Nat.zero_le _, hv⟩
 case round =>
  obtain ⟨i, rfl, hi, hv⟩ := hrel
  refine sK fun _ k5 => rL ?_
  by_cases hb6 : (i : Int) < (l.length : Int)
  ·refine uG (.bool true) rfl (ex_lss rfl rfl rfl (qT hb6)) (uW k5 ?_)
   refine sK fun _ k7 => cT rfl (kS ?_)
   refine tK k7 (sK fun _ k8 => ?_)
   refine bB (sK fun _ k9 => ?_)
   refine rL (uM rfl ?_)
   refine uA rfl (uW k9 ?_)
   refine sK fun _ k10 => ?_
   obtain ⟨x, hx⟩ : ∃ x, l[i]? = some x := ⟨_, List.getElem?_eq_getElem (show i < l.length by omega)⟩
   obtain ⟨bb, bo, had, hrdx⟩ := text_reads hrl hx
   subst had
   refine rL (uM rfl ?_)
   refine uM rfl (uM rfl ?_)
   refine uG (.pointer (some ⟨bb, bo + i, none⟩)) rfl (ex_index rfl rfl rfl (run_idx1 (k := i) Tryz.underlying22 s9es22 (by omega))) ?_
   refine uL _ rfl (run_load1 s9na9 (hrdx _ _ _ (Base.Le.refl _) no_res hv 0 _ rfl)) ?_
   by_cases hb11 : f = x
   ·refine uG (.bool true) rfl (ex_seql rfl rfl rfl (qT hb11)) (uW k10 ?_)
    refine cT rfl (sK fun _ k12 => ?_)
    refine rL (uM rfl ?_)
    refine uA rfl (uW k12 ?_)
    refine rR (bZ ?_)
    refine tR (tR ?_)
    refine bZ (tR ?_)
    refine bR rfl rfl (⟨_, rfl, by omega, by omega, hv⟩)
   refine uG (.bool false) rfl (ex_seql rfl rfl rfl (qF hb11)) (uW k10 ?_)
   refine cF rfl (kS ?_)
   refine bN (tK k8 ?_)
   refine rL (uG (vI ((i + 1 : Nat) : Int)) rfl (ex_add rfl rfl rfl (by rw [i64_in (by omega)]; omega)) ?_)
   refine uM rfl (uZ ?_)
   refine then_normal ?_
   go_roundw
   case rel => exact ⟨i + 1, rfl, by omega, hv⟩
   case measure => show l.length - (((i + 1 : Nat) : Int)).toNat < l.length - ((i : Int)).toNat; omega
  refine uG (.bool false) rfl (ex_lss rfl rfl rfl (qF hb6)) (uW k5 ?_)
  refine sK fun _ k13 => cF rfl (xE ?_)
  refine tX (tX ?_)
  refine bH (tK k2 ?_)
  refine sK fun _ k14 => rL (uA rfl ?_)
  refine uW k14 (rR ?_)
  refine bR rfl rfl (⟨_, rfl, by omega, by omega, hv⟩)
theorem i1callable102 : Callable Tryz.prog 102 := cb Tryz.func102 (by kernel_rfl)
theorem listRange (B : Base) (H : List Res) (w : World) (la : Option Addr) (lc : Nat) (l : Tx) (hokl : SliceOk la l.length lc) (hrl : RdV B [] la (textCells l)) (hml : l.length ≤ 1000000) (a b : Int) (ha : -9223372036854775808 ≤ a ∧ a ≤ 9223372036854775807) (hb0 : -9223372036854775808 ≤ b ∧ b ≤ 9223372036854775807) (hv : Inv B H w) :
  Calls Tryz.prog 83 #[.slice la l.length lc, vI a, vI b] w fun e w' => ∃ C oa oc out, B.Le C ∧ e = .returned (.slice oa out.length oc) ∧ SliceOk oa out.length oc ∧ RdV C [] oa (textCells out) ∧ out = rangeF l a b ∧ Inv C H w' := by
 refine cW Tryz.func83 rfl Tryz.ntmps83 ?_
 simp only [al]
 refine sK fun _ k1 => rL (uA rfl ?_)
 refine uW k1 (sK fun _ k2 => ?_)
 refine rL (uM rfl ?_)
 refine uM rfl (uM rfl ?_)
 refine uG (vI (l.length : Int)) rfl (ex_len0 Tryz.underlying22 rfl rfl) ?_
 refine xC i1callable102 rfl ((numSpan B _ _ a b ha hb0 l.length hml hv).mono ?_) rfl
 rintro e w3 ⟨lo, hi, rfl, hsp, hlo, hhi, hv⟩
 refine ⟨_, rfl, uM rfl ?_⟩
 refine uE rfl (uE rfl ?_)
 refine uA rfl (uA rfl ?_)
 refine uW k2 (sK fun _ k4 => ?_)
 obtain ⟨a5, c5, ha5, ok5, hr5⟩ := sliced_midV 1 hokl hrl (textCells_len _) hlo hhi (by decide)
 rw [Nat.mul_one, Nat.mul_one, tx_drop, tx_take] at hr5
 have hrf : (l.drop lo).take (hi - lo) = rangeF l a b := by unfold rangeF; rw [hsp]; exact List.drop_take.symm
 rw [hrf] at hr5
 have hml5 : (rangeF l a b).length = hi - lo := by rw [← hrf, List.length_take, List.length_drop]; omega
 rw [← hml5] at ok5 ha5
 refine rL (uM rfl ?_)
 refine uM rfl (uM rfl ?_)
 refine uG (.slice a5 ((rangeF l a b).length) c5) rfl (ex_slice (lo' := some (vI lo)) (hi' := some (vI hi)) rfl rfl (congrArg some rfl) (congrArg some rfl) rfl ((run_lhAny Tryz.underlying22 s9es22 hlo (by have := hokl.le; omega)).trans (by rw [ha5]))) ?_
 refine xC s1callable88 rfl ((cloneOwn B _ _ a5 (rangeF l a b).length c5 (textCells (rangeF l a b)) ok5 (textCells_len _) (textCells_one _) (by omega) hr5 hv).mono ?_) rfl
 rintro e w5 ⟨v9, rfl, hv⟩
 refine ⟨_, rfl, ?_⟩
 obtain ⟨va, vc, rfl⟩ := row_slice hv.head
 refine uA rfl (uW k4 ?_)
 refine rR (bR rfl rfl ?_)
 obtain ⟨D, hD, hv, hro, hoko, -⟩ := hv.rowBy
 exact ⟨D, va, vc, _, hD, rfl, hoko, hro, rfl, hv⟩
theorem i1callable83 : Callable Tryz.prog 83 := cb Tryz.func83 (by kernel_rfl)
theorem listTrim (B : Base) (H : List Res) (w : World) (la : Option Addr) (lc : Nat) (l : Tx) (hokl : SliceOk la l.length lc) (hrl : RdV B [] la (textCells l)) (hml : l.length ≤ 1000000) (a b : Int) (ha : -9223372036854775808 ≤ a ∧ a ≤ 9223372036854775807) (hb0 : -9223372036854775808 ≤ b ∧ b ≤ 9223372036854775807) (hv : Inv B H w) :
  Calls Tryz.prog 84 #[.slice la l.length lc, vI a, vI b] w fun e w' => ∃ C oa oc out, B.Le C ∧ e = .returned (.slice oa out.length oc) ∧ SliceOk oa out.length oc ∧ RdV C [] oa (textCells out) ∧ out = rangeF l a b ∧ Inv C H w' := by
 refine cW Tryz.func84 rfl Tryz.ntmps84 ?_
 simp only [al]
 refine sK fun _ k1 => rL (uA rfl ?_)
 refine uW k1 (sK fun _ k2 => ?_)
 refine rL (uM rfl ?_)
 refine uM rfl (uM rfl ?_)
 refine xC i1callable83 rfl ((listRange B _ _ la lc l hokl hrl hml a b ha hb0 hv).mono ?_) rfl
 rintro e w3 ⟨D, oa, oc, out, hD, rfl, hoko, hro, hout, hv⟩
 refine ⟨_, rfl, uA rfl ?_⟩
 refine uW k2 (rR ?_)
 refine bR rfl rfl (⟨D, oa, oc, out, hD, rfl, hoko, hro, hout, hv⟩)
end Go.Proofs.YtmhdpjifhfoabaaGreatDoor
