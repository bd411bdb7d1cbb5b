/- view.Is. -/
import Derived.Test.YtgbhdfpobgefgaaGreatDoorCzNamC
import Derived.Test.YtgbhdfpobgefgaaGreatDoorCzNamF
import Derived.Test.YtgbhdfpobgefgaaGreatDoorCzNamE
import Derived.Test.YtgbhdfpobgefgaaGreatDoorCzNamB
import Derived.Test.YtgbhdfpobgefgaaGreatDoorRows
import Derived.Test.YtgbhdfpobgefgaaGreatDoorCzNamD
import Derived.Test.YtgbhdfpobgefgaaGreatDoorCzNamA
set_option maxRecDepth 100000
set_option maxHeartbeats 16000000
set_option synthInstance.maxSize 65536
set_option synthInstance.maxHeartbeats 4000000
namespace Go.Proofs.YtgbhdfpobgefgaaGreatDoor
open Go.RowKit Go.Pm
def lowZ (n : Int) : Int := if 65 ≤ n ∧ n ≤ 90 then n + 32 else n
def SameC (x arg : List UInt8) : Prop := x.length = arg.length ∧ ∀ (k : Nat) (a b : UInt8), x[k]? = some a → arg[k]? = some b → lowZ (a.toNat : Int) = lowZ (b.toNat : Int)
def IsI (arg : List UInt8) (ws : List (List UInt8)) (r : Int) : Prop := (r = -1 ∧ ∀ x ∈ ws, ¬ SameC x arg) ∨ ∃ (i : Nat) (x : List UInt8), r = (i : Int) ∧ ws[i]? = some x ∧ SameC x arg ∧ ∀ (j : Nat) y, j < i → ws[j]? = some y → ¬ SameC y arg
theorem viewLow (B : Base) (H : List Res) (w : World) (n : Int) (h0 : 0 ≤ n) (h1 : n ≤ 255) (hv : Inv B H w) :
  Calls Tryz.prog 119 #[.int .u8 n] w fun e w' => e = .returned (.int .u8 (lowZ n)) ∧ Inv B H w' := by
 refine cW Tryz.func119 rfl Tryz.ntmps119 ?_;simp only [al];apply uN;intro _ _;apply uN;intro _ _ _ _;refine uB (fun hb4 => ?_) fun hb4 => ?_
 ·refine uB (fun hb5 => ?_) fun hb5 => ?_
  ·intro _ _;refine oG (.int .u8 (n + 97)) rfl (ex_add rfl rfl rfl (u8_in (by omega))) ?_;refine oG (.int .u8 (n + 32)) rfl (ex_sub rfl rfl rfl (by rw [u8_in (by omega)]; omega)) ?_;refine bR rfl rfl ?_;exact ⟨congrArg (fun n : Int => Ending.returned (Value.int .u8 n)) (by unfold lowZ; split <;> omega), hv⟩
  intro _ _;apply uN;refine bR rfl rfl ?_;exact ⟨congrArg (fun n : Int => Ending.returned (Value.int .u8 n)) (by unfold lowZ; split <;> omega), hv⟩
 intro _ _;apply uN;refine bR rfl rfl ?_;exact ⟨congrArg (fun n : Int => Ending.returned (Value.int .u8 n)) (by unfold lowZ; split <;> omega), hv⟩
theorem v5callable119 : Callable Tryz.prog 119 := cb Tryz.func119 (by kernel_rfl)
theorem viewIs (B : Base) (H : List Res) (w : World) (arg : List UInt8) (ka : Option Addr) (kc : Nat) (ws : List (List UInt8)) (hr : RdV B [] ka (textCells ws)) (hm : ws.length ≤ 1000000) (hma : arg.length ≤ 9223372036854775807) (hv : Inv B H w) :
  Calls Tryz.prog 83 #[vS arg, .slice ka ws.length kc] w fun e w' => ∃ r : Int, e = .returned (vI r) ∧ IsI arg ws r ∧ Inv B H w' := by
 refine cW Tryz.func83 rfl Tryz.ntmps83 ?_;simp only [al];apply uN;intro _ _;apply uN;refine wpIn_scopeW ?_;apply uN;intro _ _;refine wpIn_label ?_;apply uN;intro _ _ _ _;refine oG (vI (ws.length : Int)) rfl (ex_len0 Tryz.underlying22 rfl rfl) ?_
 gi_loopw [10] (fun x10 wr => ∃ (i : Nat), x10 = vI i ∧ i ≤ ws.length ∧ (∀ (j : Nat) y, j < i → ws[j]? = some y → ¬ SameC y arg) ∧ Inv B H wr) (fun x10 _ => ws.length - (intOf x10).toNat)
 case atStart => exact ⟨0, rfl, Nat.zero_le _, fun j y h => by omega, hv⟩
 case round =>
  obtain ⟨i, rfl, hi, hno, hv⟩ := hrel;apply uN;intro _ _;refine uB (fun hb7 => ?_) fun hb7 => ?_
  ·intro _ _;apply uN;intro _ _ _ _;obtain ⟨x, hx⟩ : ∃ x, ws[i]? = some x := ⟨_, List.getElem?_eq_getElem (show i < ws.length by omega)⟩;obtain ⟨bb, bo, had, hrdx⟩ := text_reads hr hx;subst had;apply uN;refine oG (.pointer (some ⟨bb, bo + i, none⟩)) rfl (ex_index rfl rfl rfl (run_idx1 (k := i) Tryz.underlying22 s9es22 (by omega))) ?_;refine oL _ rfl (run_load1 s9na9 (hrdx _ _ _ (Base.Le.refl _) no_res hv 0 _ rfl)) ?_;intro _ _ _ _;refine oG (vI (x.length : Int)) rfl (ex_lenStr Tryz.underlying9 rfl rfl) ?_;refine oG (vI (arg.length : Int)) rfl (ex_lenStr Tryz.underlying9 rfl rfl) ?_;refine uB (fun hb13 => ?_) fun hb13 => ?_
   ·refine oG (vI ((i + 1 : Nat) : Int)) rfl (ex_add rfl rfl rfl (by rw [i64_in (by omega)]; omega)) ?_;refine then_normal ?_
    go_roundw
    case rel => exact ⟨i + 1, rfl, by omega, fun j9 y9 hj9 hy9 => (by
       rcases Nat.lt_or_ge j9 i with h | h
       ·exact hno j9 y9 h hy9
       obtain rfl : j9 = i := by omega
       rw [hx] at hy9; cases hy9;exact fun h => by have h9 := h.1; omega), hv⟩
    case measure => show ws.length - (((i + 1 : Nat) : Int)).toNat < ws.length - ((i : Int)).toNat; omega
   intro _ _ _ _;refine oG (vI (x.length : Int)) rfl (ex_lenStr Tryz.underlying9 rfl rfl) ?_
   gi_loopw [22] (fun x22 wr => ∃ (j : Nat), x22 = vI j ∧ j ≤ x.length ∧ (∀ (k : Nat) (a b : UInt8), k < j → x[k]? = some a → arg[k]? = some b → lowZ (a.toNat : Int) = lowZ (b.toNat : Int)) ∧ Inv B H wr) (fun x22 _ => x.length - (intOf x22).toNat)
   case atStart => exact ⟨0, rfl, Nat.zero_le _, fun k a b h => by omega, hv⟩
   case round =>
    obtain ⟨j, rfl, hj, heq, hv⟩ := hrel;apply uN;intro _ _;refine uB (fun hb18 => ?_) fun hb18 => ?_
    ·intro _ _;apply uN;intro _ _ _ _;apply uN;intro _ _;obtain ⟨a, ha⟩ : ∃ y, x[j]? = some y := ⟨_, List.getElem?_eq_getElem (show j < x.length by omega)⟩;obtain ⟨b, hb⟩ : ∃ y, arg[j]? = some y := ⟨_, List.getElem?_eq_getElem (show j < arg.length by omega)⟩;refine rW mixed [3, 7] [0,1,2,4,5,6,3,7,8] 37 rfl (by kernel_rfl) hv ?_;simp only [qm, opAt];apply uN;refine dG (.int .u8 (a.toNat : Int)) rfl (ex_sidx0 Tryz.underlying9 rfl rfl rfl ha) ?_;apply uN;refine dG (.int .u8 (b.toNat : Int)) rfl (ex_sidx0 Tryz.underlying9 rfl rfl rfl hb) ?_;simp only [zP, po];refine dS rfl fun w23 hv => mC v5callable119 rfl ((viewLow B _ _ (a.toNat : Int) (by omega) (by have := a.toNat_lt; omega) hv).mono ?_) rfl
     rintro e w24 ⟨rfl, hv⟩;refine ⟨_, rfl, dW hv ?_⟩;refine dS rfl fun w25 hv => mC v5callable119 rfl ((viewLow B _ _ (b.toNat : Int) (by omega) (by have := b.toNat_lt; omega) hv).mono ?_) rfl
     rintro e w26 ⟨rfl, hv⟩;refine ⟨_, rfl, dW hv ?_⟩;by_cases hb27 : (lowZ (a.toNat : Int)) ≠ (lowZ (b.toNat : Int))
     ·refine dG (.bool true) rfl (ex_neq rfl rfl rfl (qT hb27)) (dE fun w28 hv => ?_);apply uN;refine bM rfl ?_;apply uN;refine bM rfl ?_;apply uN;refine oG (vI ((i + 1 : Nat) : Int)) rfl (ex_add rfl rfl rfl (by rw [i64_in (by omega)]; omega)) ?_;refine then_normal ?_
      go_roundw
      case rel => exact ⟨i + 1, rfl, by omega, fun j9 y9 hj9 hy9 => (by
         rcases Nat.lt_or_ge j9 i with h | h
         ·exact hno j9 y9 h hy9
         obtain rfl : j9 = i := by omega
         rw [hx] at hy9; cases hy9;exact fun h => hb27 (h.2 j a b ha hb)), hv⟩
      case measure => show ws.length - (((i + 1 : Nat) : Int)).toNat < ws.length - ((i : Int)).toNat; omega
     refine dG (.bool false) rfl (ex_neq rfl rfl rfl (qF hb27)) (dE fun w29 hv => ?_);apply uN;refine oG (vI ((j + 1 : Nat) : Int)) rfl (ex_add rfl rfl rfl (by rw [i64_in (by omega)]; omega)) ?_;refine then_normal ?_
     go_roundw
     case rel => exact ⟨j + 1, rfl, by omega, fun k9 a9 b9 hk9 ha9 hb9 => (by
        rcases Nat.lt_or_ge k9 j with h | h
        ·exact heq k9 a9 b9 h ha9 hb9
        obtain rfl : k9 = j := by omega
        rw [ha] at ha9; cases ha9;rw [hb] at hb9; cases hb9;omega), hv⟩
     case measure => show x.length - (((j + 1 : Nat) : Int)).toNat < x.length - ((j : Int)).toNat; omega
    intro _ _ _ _;apply uN;refine scope_ret (bR rfl rfl ?_);exact ⟨_, rfl, .inr ⟨i, x, rfl, hx, ⟨by omega, fun k9 a9 b9 ha9 hb9 => heq k9 a9 b9 (by have := (List.getElem?_eq_some_iff.1 ha9).1; omega) ha9 hb9⟩, hno⟩, hv⟩
  intro _ _ _ _;apply uN;refine scope_ret (bR rfl rfl ?_);obtain rfl : i = ws.length := by omega
  exact ⟨_, rfl, .inl ⟨rfl, fun y hy => (by obtain ⟨j9, hj9⟩ := List.mem_iff_getElem?.1 hy; exact hno j9 y (List.getElem?_eq_some_iff.1 hj9).1 hj9)⟩, hv⟩
end Go.Proofs.YtgbhdfpobgefgaaGreatDoor
namespace Go.Pm
abbrev W64 := List (BitVec 64)
def w0 : W64 := [0#64, 0#64, 0#64, 0#64]
def addW (s : W64) (c : Nat) : W64 := s.set (c / 64) (s.getD (c / 64) 0#64 ||| (1#64 <<< (c % 64)))
def addUpto (s : W64) (lo n : Nat) : W64 := (List.range n).foldl (fun s i => addW s (lo + i)) s
def addRangeW (s : W64) (a b : Nat) : W64 := addUpto s (min a b) (max a b - min a b + 1)
def invW (s : W64) : W64 := s.map (fun x => ~~~ x)
def hasW (s : W64) (c : Nat) : Bool := decide (((s.getD (c / 64) 0#64) >>> (c % 64)) &&& 1#64 = 1#64)
theorem addW_len {s : W64} {c : Nat} : (addW s c).length = s.length := by unfold addW; rw [List.length_set]
theorem addUpto_succ {s : W64} {lo n : Nat} : addUpto s lo (n + 1) = addW (addUpto s lo n) (lo + n) := by
 unfold addUpto; rw [List.range_succ, List.foldl_append]; rfl
theorem addUpto_len {s : W64} {lo n : Nat} : (addUpto s lo n).length = s.length := by
 induction n with
 | zero => rfl
 | succ n ih => rw [addUpto_succ, addW_len, ih]
theorem invW_len {s : W64} : (invW s).length = s.length := List.length_map _
structure Part where
 star : Bool
 ws : W64
def starP : Part := ⟨true, w0⟩
def oneP (c : Nat) : Part := ⟨false, addW w0 c⟩
def anyP : Part := ⟨false, invW w0⟩
section
variable (p : List UInt8)
def chr (i : Nat) : Nat := (p.getD i 0).toNat
def litS (i : Nat) : Nat × Nat := if chr p i = 92 ∧ i + 1 < p.length then (chr p (i + 1), i + 2) else (chr p i, i + 1)
theorem litS_gt (i : Nat) : i < (litS p i).2 := by unfold litS; split <;> simp <;> omega
theorem litS_le {i : Nat} (h : i < p.length) : (litS p i).2 ≤ p.length := by unfold litS; split <;> simp <;> omega
def highS (i : Nat) (lo : Nat) : Nat × Nat := if i + 1 < p.length ∧ chr p i = 45 ∧ chr p (i + 1) ≠ 93 then litS p (i + 1) else (lo, i)
theorem highS_ge (i lo : Nat) : i ≤ (highS p i lo).2 := by
 unfold highS; split
 ·have := litS_gt p (i + 1); omega
 simp
theorem highS_le {i lo : Nat} (h : i ≤ p.length) : (highS p i lo).2 ≤ p.length := by
 unfold highS; split
 ·exact litS_le p (by omega)
 simpa using h
def classS (neg : Bool) (first i : Nat) (ws : W64) : Option (W64 × Nat) :=
 if h : i < p.length then
  if chr p i = 93 ∧ first < i then some (if neg then invW ws else ws, i + 1)
  else classS neg first (highS p (litS p i).2 (litS p i).1).2 (addRangeW ws (litS p i).1 (highS p (litS p i).2 (litS p i).1).1)
 else none
termination_by p.length - i
decreasing_by
 have h1 := litS_gt p i;have h2 := highS_ge p (litS p i).2 (litS p i).1;omega
theorem classS_end {neg : Bool} {first i : Nat} {ws : W64} (h : ¬ i < p.length) : classS p neg first i ws = none := by rw [classS, dif_neg h]
theorem classS_close {neg : Bool} {first i : Nat} {ws : W64} (h : i < p.length) (h2 : chr p i = 93 ∧ first < i) : classS p neg first i ws = some (if neg then invW ws else ws, i + 1) := by rw [classS, dif_pos h, if_pos h2]
theorem classS_step {neg : Bool} {first i : Nat} {ws : W64} (h : i < p.length) (h2 : ¬ (chr p i = 93 ∧ first < i)) : classS p neg first i ws = classS p neg first (highS p (litS p i).2 (litS p i).1).2 (addRangeW ws (litS p i).1 (highS p (litS p i).2 (litS p i).1).1) := by rw [classS, dif_pos h, if_neg h2]
def clsS (i : Nat) : Option (W64 × Nat) := if chr p i = 94 ∧ i < p.length then classS p true (i + 1) (i + 1) w0 else classS p false i i w0
theorem classS_le : ∀ (n : Nat) {neg : Bool} {first i : Nat} {ws : W64} {r : W64 × Nat}, p.length - i ≤ n → classS p neg first i ws = some r → i < r.2 ∧ r.2 ≤ p.length := by
 intro n
 induction n with
 | zero => intro neg first i ws r hn h; rw [classS_end p (by omega)] at h; cases h
 | succ n ih =>
  intro neg first i ws r hn h;by_cases hi : i < p.length
  ·by_cases hc : chr p i = 93 ∧ first < i
   ·rw [classS_close p hi hc] at h; cases h; exact ⟨by simp, by simp; omega⟩
   rw [classS_step p hi hc] at h;have h1 := litS_gt p i;have h2 := highS_ge p (litS p i).2 (litS p i).1;have := ih (by omega) h;omega
  rw [classS_end p hi] at h; cases h
theorem clsS_le {i : Nat} {r : W64 × Nat} (h : clsS p i = some r) : i < r.2 ∧ r.2 ≤ p.length := by
 unfold clsS at h
 split at h
 ·have := classS_le p _ (Nat.le_refl _) h; omega
 exact classS_le p _ (Nat.le_refl _) h
def divS (ended : Bool) (i : Nat) : List Part :=
 if h : i < p.length then
  if chr p i = 42 then starP :: divS ended (i + 1)
  else if chr p i = 63 then anyP :: divS ended (i + 1)
  else if chr p i = 91 ∧ ended = true then
   match hc : clsS p (i + 1) with
   | some (ws, j) => ⟨false, ws⟩ :: divS ended j
   | none => oneP (chr p i) :: divS false (i + 1)
  else if chr p i = 92 ∧ i + 1 < p.length then oneP (chr p (i + 1)) :: divS ended (i + 2)
  else oneP (chr p i) :: divS ended (i + 1)
 else []
termination_by p.length - i
decreasing_by
 all_goals first
  | omega
  | (have := clsS_le p hc; simp at this; omega)
section
variable {p} {ended : Bool} {i : Nat}
theorem divS_end (h : ¬ i < p.length) : divS p ended i = [] := by rw [divS, dif_neg h]
theorem divS_star (h : i < p.length) (h1 : chr p i = 42) : divS p ended i = starP :: divS p ended (i + 1) := by rw [divS, dif_pos h, if_pos h1]
theorem divS_any (h : i < p.length) (h1 : chr p i = 63) : divS p ended i = anyP :: divS p ended (i + 1) := by rw [divS, dif_pos h, if_neg (by omega), if_pos h1]
theorem divS_class (h : i < p.length) (h1 : chr p i = 91) (h2 : ended = true) {ws : W64} {j : Nat} (hc : clsS p (i + 1) = some (ws, j)) : divS p ended i = ⟨false, ws⟩ :: divS p ended j := by
 rw [divS, dif_pos h, if_neg (by omega), if_neg (by omega), if_pos ⟨h1, h2⟩]
 split
 ·rename_i ws' j' h9; rw [hc] at h9; cases h9; rfl
 rename_i h9; rw [hc] at h9; cases h9
theorem divS_none (h : i < p.length) (h1 : chr p i = 91) (h2 : ended = true) (hc : clsS p (i + 1) = none) : divS p ended i = oneP (chr p i) :: divS p false (i + 1) := by
 rw [divS, dif_pos h, if_neg (by omega), if_neg (by omega), if_pos ⟨h1, h2⟩]
 split
 ·rename_i ws' j' h9; rw [hc] at h9; cases h9
 rfl
theorem divS_quote (h : i < p.length) (h1 : chr p i = 92) (h2 : i + 1 < p.length) : divS p ended i = oneP (chr p (i + 1)) :: divS p ended (i + 2) := by
 rw [divS, dif_pos h, if_neg (by omega), if_neg (by omega), if_neg (fun h => by omega), if_pos ⟨h1, h2⟩]
theorem divS_one (h : i < p.length) (h1 : chr p i ≠ 42) (h2 : chr p i ≠ 63) (h3 : ¬ (chr p i = 91 ∧ ended = true)) (h4 : ¬ (chr p i = 92 ∧ i + 1 < p.length)) : divS p ended i = oneP (chr p i) :: divS p ended (i + 1) := by
 rw [divS, dif_pos h, if_neg h1, if_neg h2, if_neg h3, if_neg h4]
end
end
theorem chr_at {p : List UInt8} {i : Nat} {c : UInt8} (h : p[i]? = some c) : chr p i = c.toNat := by
 unfold chr; rw [List.getD_eq_getElem?_getD, h]; rfl
def MatchP : List Part → List UInt8 → Prop
 | [], s => s = []
 | p :: ps, s => if p.star = true then ∃ k, k ≤ s.length ∧ MatchP ps (s.drop k) else ∃ c t, s = c :: t ∧ hasW p.ws c.toNat = true ∧ MatchP ps t
section
variable {q : List Part} {s : List UInt8}
theorem matchP_star {n : Nat} {x : Part} (hx : q[n]? = some x) (h : x.star = true) : MatchP (q.drop n) s ↔ ∃ k, k ≤ s.length ∧ MatchP (q.drop (n + 1)) (s.drop k) := by
 obtain ⟨hn, rfl⟩ := List.getElem?_eq_some_iff.1 hx;rw [List.drop_eq_getElem_cons hn];show (if _ then _ else _) ↔ _;rw [if_pos h]
theorem matchP_byte {n : Nat} {x : Part} {c : UInt8} {i : Nat} (hx : q[n]? = some x) (h : x.star = false) (hc : s[i]? = some c) : MatchP (q.drop n) (s.drop i) ↔ hasW x.ws c.toNat = true ∧ MatchP (q.drop (n + 1)) (s.drop (i + 1)) := by
 obtain ⟨hn, rfl⟩ := List.getElem?_eq_some_iff.1 hx;obtain ⟨hi, rfl⟩ := List.getElem?_eq_some_iff.1 hc;rw [List.drop_eq_getElem_cons hn, List.drop_eq_getElem_cons hi];show (if _ then _ else _) ↔ _;rw [if_neg (by rw [h]; decide)]
 constructor
 ·rintro ⟨c, t, h1, h2, h3⟩; cases h1; exact ⟨h2, h3⟩
 rintro ⟨h2, h3⟩; exact ⟨_, _, rfl, h2, h3⟩
theorem matchP_nil {n : Nat} {x : Part} (hx : q[n]? = some x) (h : x.star = false) : ¬ MatchP (q.drop n) [] := by
 obtain ⟨hn, rfl⟩ := List.getElem?_eq_some_iff.1 hx;rw [List.drop_eq_getElem_cons hn];show ¬ (if _ then _ else _);rw [if_neg (by rw [h]; decide)];rintro ⟨c, t, h1, -⟩; cases h1
theorem matchP_over {n : Nat} (h : q.length ≤ n) : MatchP (q.drop n) s ↔ s = [] := by
 rw [List.drop_eq_nil_of_le h]; exact Iff.rfl
theorem consume : ∀ (d n : Nat) {t : List UInt8}, (∀ j, j < d → ∃ x, q[n + j]? = some x ∧ x.star = false) → MatchP (q.drop n) t → d ≤ t.length ∧ MatchP (q.drop (n + d)) (t.drop d)
 | 0, n, t, _, h => ⟨Nat.zero_le _, h⟩
 | d + 1, n, t, hj, h => by
  obtain ⟨x, hx, hs⟩ := hj 0 (Nat.succ_pos _);cases t with
  | nil => exact absurd h (matchP_nil hx hs)
  | cons c t =>
   have h2 := (matchP_byte (s := c :: t) (i := 0) hx hs rfl).1 h;have h3 := consume d (n + 1) (t := t) (fun j hj' => by
    have := hj (j + 1) (by omega);rw [show n + (j + 1) = n + 1 + j by omega] at this;exact this) h2.2
   refine ⟨by simp; exact h3.1, ?_⟩;rw [show n + (d + 1) = n + 1 + d by omega];exact h3.2
theorem absorb {x : Part} {n d : Nat} (hx : q[n]? = some x) (h : x.star = true) (hd : d ≤ s.length) (hm : MatchP (q.drop n) (s.drop d)) : MatchP (q.drop n) s := by
 rw [matchP_star hx h] at hm ⊢;obtain ⟨k, hk, h2⟩ := hm;rw [List.length_drop] at hk;rw [List.drop_drop] at h2;exact ⟨d + k, by omega, h2⟩
structure GInv (q : List Part) (s : List UInt8) (now i st fr : Nat) : Prop where
 n1 : st ≤ now
 n2 : now ≤ q.length
 n3 : i ≤ s.length
 n4 : 0 < st → fr + (now - st) = i
 n5 : 0 < st → ∀ j, j < now - st → ∃ x, q[st + j]? = some x ∧ x.star = false
 n6 : MatchP q s ↔ MatchP (q.drop now) (s.drop i) ∨ (0 < st ∧ ∃ k, fr < k ∧ k ≤ s.length ∧ MatchP (q.drop st) (s.drop k))
theorem GInv.start : GInv q s 0 0 0 0 := ⟨Nat.le_refl _, Nat.zero_le _, Nat.zero_le _, fun h => absurd h (by omega), fun h => absurd h (by omega), by simp⟩
section
variable {now i st fr : Nat} {x : Part} {c : UInt8} (h : GInv q s now i st fr)
include h
theorem GInv.star (hx : q[now]? = some x) (hs : x.star = true) : GInv q s (now + 1) i (now + 1) i := by
 have hn := (List.getElem?_eq_some_iff.1 hx).1;refine ⟨Nat.le_refl _, hn, h.n3, fun _ => by omega, fun _ j hj => by omega, ?_⟩;have e : MatchP q s ↔ MatchP (q.drop now) (s.drop i) := by
  rw [h.n6]
  constructor
  ·rintro (h1 | ⟨h1, k, h2, h3, h4⟩)
   ·exact h1
   have h5 := consume (now - st) st (h.n5 h1) h4;have h6 := h.n4 h1;have h7 := h.n1;rw [show st + (now - st) = now by omega, List.length_drop, List.drop_drop] at h5;refine absorb (d := k - fr) hx hs (by rw [List.length_drop]; omega) ?_;rw [List.drop_drop, show i + (k - fr) = k + (now - st) by omega];exact h5.2
  exact .inl
 rw [e, matchP_star hx hs]
 constructor
 ·rintro ⟨k, hk, h1⟩;rw [List.length_drop] at hk;rw [List.drop_drop] at h1;have := h.n3;rcases Nat.eq_zero_or_pos k with rfl | hk0
  ·exact .inl h1
  exact .inr ⟨by omega, i + k, by omega, by omega, h1⟩
 have := h.n3;rintro (h1 | ⟨-, k, h2, h3, h4⟩)
 ·exact ⟨0, Nat.zero_le _, h1⟩
 exact ⟨k - i, by rw [List.length_drop]; omega, by rw [List.drop_drop, show i + (k - i) = k by omega]; exact h4⟩
theorem GInv.byte (hx : q[now]? = some x) (hs : x.star = false) (hc : s[i]? = some c) (hb : hasW x.ws c.toNat = true) : GInv q s (now + 1) (i + 1) st fr := by
 have hn := (List.getElem?_eq_some_iff.1 hx).1;have hi := (List.getElem?_eq_some_iff.1 hc).1;have h1 := h.n1;refine ⟨by omega, hn, hi, fun h0 => by have := h.n4 h0; omega, fun h0 j hj => ?_, ?_⟩
 ·rcases Nat.lt_or_ge j (now - st) with hj2 | hj2
  ·exact h.n5 h0 j hj2
  exact ⟨x, by rw [show st + j = now by omega]; exact hx, hs⟩
 rw [h.n6, matchP_byte hx hs hc]; simp only [hb, true_and]
theorem GInv.back (h0 : 0 < st) (hc : s[i]? = some c) (hb : ∀ x, q[now]? = some x → x.star = false ∧ hasW x.ws c.toNat = false) : GInv q s st (fr + 1) st (fr + 1) := by
 have hi := (List.getElem?_eq_some_iff.1 hc).1;have h4 := h.n4 h0;have h2 := h.n2;have h1 := h.n1;refine ⟨Nat.le_refl _, by omega, by omega, fun _ => by omega, fun _ j hj => by omega, ?_⟩;have hno : ¬ MatchP (q.drop now) (s.drop i) := by
  rcases Nat.lt_or_ge now q.length with hn | hn
  ·have hx : q[now]? = some q[now] := List.getElem?_eq_getElem hn;obtain ⟨h5, h6⟩ := hb _ hx;rw [matchP_byte hx h5 hc, h6]; simp
  rw [matchP_over hn];intro e;have := congrArg List.length e;rw [List.length_drop] at this
  simp at this; omega
 rw [h.n6]
 constructor
 ·rintro (h5 | ⟨-, k, h5, h6, h7⟩)
  ·exact absurd h5 hno
  rcases Nat.lt_or_ge (fr + 1) k with h8 | h8
  ·exact .inr ⟨h0, k, h8, h6, h7⟩
  obtain rfl : k = fr + 1 := by omega
  exact .inl h7
 rintro (h5 | ⟨-, k, h5, h6, h7⟩)
 ·exact .inr ⟨h0, fr + 1, by omega, by omega, h5⟩
 exact .inr ⟨h0, k, by omega, h6, h7⟩
theorem GInv.fail (h0 : st = 0) (hc : s[i]? = some c) (hb : ∀ x, q[now]? = some x → x.star = false ∧ hasW x.ws c.toNat = false) : ¬ MatchP q s := by
 have hi := (List.getElem?_eq_some_iff.1 hc).1;rw [h.n6];rintro (h5 | ⟨h5, -⟩)
 ·rcases Nat.lt_or_ge now q.length with hn | hn
  ·have hx : q[now]? = some q[now] := List.getElem?_eq_getElem hn;obtain ⟨h6, h7⟩ := hb _ hx;rw [matchP_byte hx h6 hc, h7] at h5; simp at h5
  rw [matchP_over hn] at h5;have := congrArg List.length h5;rw [List.length_drop] at this
  simp at this; omega
 omega
theorem GInv.over (hi : ¬ i < s.length) : MatchP q s ↔ MatchP (q.drop now) [] := by
 have h3 := h.n3;have h1 := h.n1;have e : s.drop i = [] := List.drop_eq_nil_of_le (by omega);rw [h.n6, e]
 constructor
 ·rintro (h5 | ⟨h0, k, h5, h6, h7⟩)
  ·exact h5
  have h8 := consume (now - st) st (h.n5 h0) h7;have := h.n4 h0;rw [List.length_drop] at h8;omega
 exact .inl
end
theorem tail_star {x : Part} {n : Nat} (hx : q[n]? = some x) (h : x.star = true) : MatchP (q.drop n) [] ↔ MatchP (q.drop (n + 1)) [] := by
 rw [matchP_star hx h]
 constructor
 ·rintro ⟨k, hk, h1⟩; rw [List.drop_nil] at h1; exact h1
 intro h1; exact ⟨0, Nat.le_refl _, h1⟩
end
theorem lex3 {a b c a' b' c' S : Nat} (hb : b' ≤ S) (hc : c' ≤ S) (h : a' < a ∨ (a' = a ∧ (b' < b ∨ (b' = b ∧ c' < c)))) : (a' * (S + 1) + b') * (S + 1) + c' < (a * (S + 1) + b) * (S + 1) + c := by
 have h1 : ∀ x y z z' : Nat, x < y → z ≤ S → x * (S + 1) + z < y * (S + 1) + z' := fun x y z z' hxy hz => by
  have := Nat.mul_le_mul_right (S + 1) (show x + 1 ≤ y by omega);rw [Nat.succ_mul] at this; omega
 rcases h with h | ⟨rfl, h | ⟨rfl, h⟩⟩
 ·exact h1 _ _ _ _ (h1 _ _ _ _ h hb) hc
 ·exact h1 _ _ _ _ (by omega) hc
 omega
open Go.RowKit
def wv (x : BitVec 64) : Value := .int .u64 (x.toNat : Int)
def wordsV (s : W64) : List Value := s.map wv
theorem wordsV_len (s : W64) : (wordsV s).length = s.length := List.length_map _
theorem wordsV_get {s : W64} {k : Nat} (h : k < s.length) : (wordsV s)[k]? = some (wv (s.getD k 0#64)) := by
 unfold wordsV;rw [List.getElem?_map, List.getElem?_eq_getElem h, List.getD_eq_getElem?_getD, List.getElem?_eq_getElem h]; rfl
theorem wordsV_set {s : W64} {k : Nat} {x : BitVec 64} : (wordsV s).set k (wv x) = wordsV (s.set k x) := by
 unfold wordsV; rw [List.map_set]
theorem run_idxAK {P : Program} {w : World} {t e : TypeId} {kd : IntKind} {b off k n size : Nat} (ht : P.underlying t = some (.array n e)) (hs : ∀ w, (sizeOf e).run P w = .ok size w) (hk : k < n) :
  (Instr.indexAt t (.pointer (some ⟨b, off, none⟩)) (.int kd (k : Int))).run P w = .ok (.pointer (some ⟨b, off + k * size, none⟩)) w := by
 simp [Instr.indexAt, run_underlying ht, Instr.sureAddr, asIntOf, hs, hk, addr_add]
theorem quo64 {c : Nat} (h : c < 256) : IntKind.u8.wrap (((c : Nat) : Int).tdiv 64) = ((c / 64 : Nat) : Int) := by
 rw [show ((c : Nat) : Int).tdiv 64 = ((c / 64 : Nat) : Int) from rfl, u8_in (by omega)]
theorem rem64 {c : Nat} : ((c : Nat) : Int).tmod 64 = ((c % 64 : Nat) : Int) := rfl
theorem shl1 {k : Nat} (h : k < 64) : IntKind.u64.wrap ((1 : Int) * 2 ^ (min ((k : Nat) : Int).toNat IntKind.u64.bits)) = ((1#64 <<< k).toNat : Int) := by
 have e1 : min ((k : Nat) : Int).toNat IntKind.u64.bits = k := by
  rw [Int.toNat_natCast]; exact Nat.min_eq_left (show k ≤ 64 by omega)
 have hp : (2 : Nat) ^ k < 2 ^ 64 := Nat.pow_lt_pow_right (by omega) h;have e2 : (1#64 <<< k).toNat = 2 ^ k := by
  rw [BitVec.toNat_shiftLeft, BitVec.toNat_ofNat, Nat.shiftLeft_eq];show (1 * 2 ^ k) % 2 ^ 64 = 2 ^ k;rw [Nat.one_mul, Nat.mod_eq_of_lt hp]
 rw [e1, e2, show ((1 : Int) * 2 ^ k) = ((2 ^ k : Nat) : Int) by rw [Int.one_mul, Int.natCast_pow]; rfl, u64_in ⟨by omega, by omega⟩]
theorem shrB {x : BitVec 64} {k : Nat} (h : k < 64) : ((x.toNat : Nat) : Int).fdiv (2 ^ (min ((k : Nat) : Int).toNat IntKind.u64.bits)) = ((x >>> k).toNat : Int) := by
 have e1 : min ((k : Nat) : Int).toNat IntKind.u64.bits = k := by
  rw [Int.toNat_natCast]; exact Nat.min_eq_left (show k ≤ 64 by omega)
 rw [e1, BitVec.toNat_ushiftRight, Nat.shiftRight_eq_div_pow];have hp : (2 : Int) ^ k = ((2 ^ k : Nat) : Int) := by rw [Int.natCast_pow]; rfl
 rw [hp, Int.fdiv_eq_ediv_of_nonneg _ (Int.natCast_nonneg _)]
 rfl
theorem orB {P : Program} {w : World} (x y : BitVec 64) : (Op.intBits .or .u64 (x.toNat : Int) (y.toNat : Int)).run P w = .ok (.int .u64 ((x ||| y).toNat : Int)) w := by
 have e2 : (Op.intBits .or .u64 (x.toNat : Int) (y.toNat : Int)).run P w = .ok (.int .u64 (IntKind.u64.wrap ((BitVec.ofInt 64 (x.toNat : Int) ||| BitVec.ofInt 64 (y.toNat : Int)).toNat : Int))) w := rfl;have := (x ||| y).isLt;rw [e2, BitVec.ofInt_natCast, BitVec.ofInt_natCast, BitVec.ofNat_toNat, BitVec.ofNat_toNat, BitVec.setWidth_eq, BitVec.setWidth_eq, u64_in ⟨by omega, by omega⟩]
theorem andB {P : Program} {w : World} (x : BitVec 64) : (Op.intBits .and .u64 (x.toNat : Int) 1).run P w = .ok (.int .u64 ((x &&& 1#64).toNat : Int)) w := by
 have e2 : (Op.intBits .and .u64 (x.toNat : Int) 1).run P w = .ok (.int .u64 (IntKind.u64.wrap ((BitVec.ofInt 64 (x.toNat : Int) &&& BitVec.ofInt 64 ((1 : Nat) : Int)).toNat : Int))) w := rfl;have := (x &&& 1#64).isLt;rw [e2, BitVec.ofInt_natCast, BitVec.ofInt_natCast, BitVec.ofNat_toNat, BitVec.setWidth_eq, u64_in ⟨by omega, by omega⟩]
theorem notB {P : Program} {w : World} (x : BitVec 64) : (Op.unary .xor (.int .u64 (x.toNat : Int))).run P w = .ok (.int .u64 ((~~~ x).toNat : Int)) w := by
 have e2 : (Op.unary .xor (.int .u64 (x.toNat : Int))).run P w = .ok (.int .u64 (IntKind.u64.wrap ((BitVec.ofInt 64 ((18446744073709551615 : Nat) : Int) ^^^ BitVec.ofInt 64 (x.toNat : Int)).toNat : Int))) w := rfl;have := (~~~ x).isLt;have e3 : BitVec.ofNat 64 18446744073709551615 ^^^ x = ~~~ x := by
  rw [show BitVec.ofNat 64 18446744073709551615 = BitVec.allOnes 64 from rfl, BitVec.allOnes_xor]
 rw [e2, BitVec.ofInt_natCast, BitVec.ofInt_natCast, BitVec.ofNat_toNat, BitVec.setWidth_eq, e3, u64_in ⟨by omega, by omega⟩]
theorem one_of {x : BitVec 64} : ((x.toNat : Int) = 1) ↔ x = 1#64 := by
 constructor
 ·intro h;have : x.toNat = 1 := by omega
  exact BitVec.eq_of_toNat_eq this
 rintro rfl; rfl
def partF (p : Part) : List Value := .bool p.star :: wordsV p.ws
def PartsOk (q : List Part) : Prop := ∀ p ∈ q, p.ws.length = 4
def partC (p : Part) : List Value := [.bool p.star, wv (p.ws.getD 0 0#64), wv (p.ws.getD 1 0#64), wv (p.ws.getD 2 0#64), wv (p.ws.getD 3 0#64)]
theorem partF_eq {p : Part} (h : p.ws.length = 4) : partF p = partC p := by
 obtain ⟨s, ws⟩ := p
 match ws, h with
 | [a, b, c, d], _ => rfl
theorem part_reads {B : Base} {q : List Part} {ad : Option Addr} {i : Nat} {x : Part} (hr : RdV B [] ad (q.flatMap partC)) (hx : q[i]? = some x) : ∃ b off, ad = some ⟨b, off, none⟩ ∧ Reads B [] b (off + i * 5) (partC x) := rowk_reads (k := 5) (fun _ => rfl) (by decide) hr hx
theorem parts_snoc (q : List Part) (x : Part) : q.flatMap partC ++ partC x = (q ++ [x]).flatMap partC := by simp
end Go.Pm
namespace Go.Proofs.YtgbhdfpobgefgaaGreatDoor
open Go.RowKit Go.Pm
theorem glea236 (w : World) : (sizeOf 71).run Tryz.prog w = .ok 1 w := by kernel_rfl
theorem glua236 : Tryz.prog.underlying 236 = some (.array 4 71) := by kernel_rfl
theorem glna71 (w : World) : (isAgg 71).run Tryz.prog w = .ok false w := by kernel_rfl
theorem glsz71 : (Tryz.prog.info? 71).map (·.size) = some 1 := by kernel_rfl
theorem setAddC (B : Base) (H : List Res) (w : World) (b : Nat) (s : Bool) (ws : W64) (hl : ws.length = 4) (c : Nat) (hc : c < 256) (hv : Inv B (Res.cell b (Value.bool s :: wordsV ws) 238 :: H) w) :
  Calls Tryz.prog 184 #[.pointer (some ⟨b, 1, none⟩), .int .u8 (c : Int)] w fun e w' => e = .returned (.tuple #[]) ∧ Inv B (Res.cell b (Value.bool s :: wordsV (addW ws c)) 238 :: H) w' := by
 refine cW Tryz.func184 rfl Tryz.ntmps184 ?_;simp only [al];refine rW mixed [12] [0,1,2,3,4,5,6,7,8,9,10,11,12] 16 rfl (by kernel_rfl) hv ?_;simp only [qm, opAt];apply uN;refine dG (.int .u8 ((c / 64 : Nat) : Int)) rfl (ex_quo (m := (c : Int)) (n := 64) rfl rfl rfl (by decide) (quo64 hc)) ?_;simp only [zP, po];refine dG (.pointer (some ⟨b, 1, none⟩)) rfl (ex_nil rfl rfl) ?_;refine dG (.pointer (some ⟨b, 1 + (c / 64) * 1, none⟩)) rfl (ex_index rfl rfl rfl (run_idxAK (kd := .u8) (k := c / 64) glua236 glea236 (by omega))) ?_;refine dL (.int .u64 ((ws.getD (c / 64) 0#64).toNat : Int)) rfl (fun hv => ex_load rfl rfl (run_load1 glna71 (hv.load 0 (1 + (c / 64) * 1) rfl (by rw [Nat.mul_one, Nat.add_comm, List.getElem?_cons_succ]; exact wordsV_get (by omega))))) ?_;apply uN;refine dG (.int .u8 ((c % 64 : Nat) : Int)) rfl (ex_rem (m := (c : Int)) (n := 64) rfl rfl rfl (by decide) rem64) ?_;refine dG (.int .u64 ((1#64 <<< (c % 64)).toNat : Int)) rfl (ex_shl (m := 1) (n := ((c % 64 : Nat) : Int)) rfl rfl rfl (by omega) (shl1 (Nat.mod_lt _ (by decide)))) ?_;simp only [zP, po];refine dG (.int .u64 ((ws.getD (c / 64) 0#64 ||| (1#64 <<< (c % 64))).toNat : Int)) rfl (ex_bits (m := ((ws.getD (c / 64) 0#64).toNat : Int)) (n := ((1#64 <<< (c % 64)).toNat : Int)) rfl rfl rfl rfl (orB _ _)) ?_;refine dG (.pointer (some ⟨b, 1, none⟩)) rfl (ex_nil rfl rfl) ?_;refine dG (.pointer (some ⟨b, 1 + (c / 64) * 1, none⟩)) rfl (ex_index rfl rfl rfl (run_idxAK (kd := .u8) (k := c / 64) glua236 glea236 (by omega))) ?_;simp only [zP, po];refine dS rfl fun w1 hv => mem_storeAt 0 (v := wv (ws.getD (c / 64) 0#64 ||| (1#64 <<< (c % 64)))) (L' := (Value.bool s :: wordsV (addW ws c))) rfl rfl rfl rfl hv rfl glsz71 (by rw [List.length_cons, wordsV_len]; omega) rfl rfl (by rw [Nat.mul_one, Nat.add_comm, List.set_cons_succ, wordsV_set]; rfl) (fun w2 hv => ?_)
 simp only [zO] at hv;refine dW hv (dE fun w3 hv => ?_);simp only [zP, po]
 go_end0
 exact ⟨rfl, hv⟩
theorem glcallable184 : Callable Tryz.prog 184 := cb Tryz.func184 (by kernel_rfl)
theorem setAddRangeC (B : Base) (H : List Res) (w : World) (b : Nat) (s : Bool) (ws : W64) (hl : ws.length = 4) (a e : Nat) (ha : a < 256) (he : e < 256) (hv : Inv B (Res.cell b (Value.bool s :: wordsV ws) 238 :: H) w) :
  Calls Tryz.prog 183 #[.pointer (some ⟨b, 1, none⟩), .int .u8 (a : Int), .int .u8 (e : Int)] w fun e' w' => e' = .returned (.tuple #[]) ∧ Inv B (Res.cell b (Value.bool s :: wordsV (addRangeW ws a e)) 238 :: H) w' := by
 refine cW Tryz.func183 rfl Tryz.ntmps183 ?_;simp only [al];apply uN;intro _ _;refine oG (.int .u8 ((min a e : Nat) : Int)) rfl (ex_min2 (m := (a : Int)) (n := (e : Int)) rfl rfl rfl (by split <;> omega)) ?_;refine oG (.int .u8 ((max a e : Nat) : Int)) rfl (ex_max2 (m := (a : Int)) (n := (e : Int)) rfl rfl rfl (by split <;> omega)) ?_;intro _ _;refine oG (.int .u8 ((max a e - min a e : Nat) : Int)) rfl (ex_sub rfl rfl rfl (by rw [u8_in (by omega)]; omega)) ?_;refine oG (vI ((max a e - min a e : Nat) : Int)) rfl (ex_int Tryz.underlying5 Tryz.underlying3 rfl rfl (i64_in (by omega))) ?_;refine oG (vI ((max a e - min a e + 1 : Nat) : Int)) rfl (ex_add rfl rfl rfl (by rw [i64_in (by omega)]; omega)) ?_
 gi_loopw [20] (fun x20 wr => ∃ (i : Nat), x20 = vI i ∧ i ≤ max a e - min a e + 1 ∧ Inv B (Res.cell b (Value.bool s :: wordsV (addUpto ws (min a e) i)) 238 :: H) wr) (fun x20 _ => (max a e - min a e + 1) - (intOf x20).toNat)
 case atStart => exact ⟨0, rfl, Nat.zero_le _, hv⟩
 case round =>
  obtain ⟨i, rfl, hi, hv⟩ := hrel;apply uN;intro _ _;refine uB (fun hb5 => ?_) fun hb5 => ?_
  ·intro _ _;apply uN;intro _ _ _ _;apply uN;refine oG (.int .u8 (i : Int)) rfl (ex_int Tryz.underlying3 Tryz.underlying5 rfl rfl (u8_in (by omega))) ?_;refine oG (.int .u8 ((min a e + i : Nat) : Int)) rfl (ex_add rfl rfl rfl (by rw [u8_in (by omega)]; omega)) ?_;refine xC glcallable184 rfl ((setAddC B _ _ b s (addUpto ws (min a e) i) (by rw [addUpto_len]; exact hl) (min a e + i) (by omega) hv).mono ?_) rfl;rintro e w9 ⟨rfl, hv⟩;apply eR;refine oG (vI ((i + 1 : Nat) : Int)) rfl (ex_add rfl rfl rfl (by rw [i64_in (by omega)]; omega)) ?_;refine then_normal ?_
   go_roundw
   case rel => exact ⟨i + 1, rfl, by omega, by rw [addUpto_succ]; exact hv⟩
   case measure => show (max a e - min a e + 1) - (((i + 1 : Nat) : Int)).toNat < (max a e - min a e + 1) - ((i : Int)).toNat; omega
  intro _ _
  go_end0
  obtain rfl : i = max a e - min a e + 1 := by omega
  exact ⟨rfl, hv⟩
theorem inv_get {ws : W64} {i : Nat} (h : i < ws.length) : ((ws.take i).map (fun x => ~~~ x) ++ ws.drop i).getD i 0#64 = ws.getD i 0#64 := by
 rw [List.getD_eq_getElem?_getD, List.getD_eq_getElem?_getD, List.getElem?_append_right (by simp; omega)];simp only [List.length_map, List.length_take, Nat.min_eq_left (Nat.le_of_lt h), Nat.sub_self, List.getElem?_drop, Nat.add_zero]
theorem inv_set {ws : W64} {i : Nat} (h : i < ws.length) : ((ws.take i).map (fun x => ~~~ x) ++ ws.drop i).set i (~~~ (ws.getD i 0#64)) = (ws.take (i + 1)).map (fun x => ~~~ x) ++ ws.drop (i + 1) := by
 have hl : ((ws.take i).map (fun x => ~~~ x)).length = i := by rw [List.length_map, List.length_take, Nat.min_eq_left (Nat.le_of_lt h)]
 rw [List.set_append_right _ _ (by omega), hl, Nat.sub_self, List.drop_eq_getElem_cons h, List.set_cons_zero, List.take_succ_eq_append_getElem h, List.map_append, List.append_assoc, List.getD_eq_getElem?_getD, List.getElem?_eq_getElem h]
 rfl
theorem inv_len {ws : W64} {i : Nat} : ((ws.take i).map (fun x => ~~~ x) ++ ws.drop i).length = ws.length := by
 rw [List.length_append, List.length_map, List.length_take, List.length_drop]; omega
theorem inv_all {ws : W64} (h : ws.length = 4) : (ws.take 4).map (fun x => ~~~ x) ++ ws.drop 4 = invW ws := by
 rw [List.take_of_length_le (by omega), List.drop_eq_nil_of_le (by omega), List.append_nil]; rfl
theorem setInvertC (B : Base) (H : List Res) (w : World) (b : Nat) (s : Bool) (ws : W64) (hl : ws.length = 4) (hv : Inv B (Res.cell b (Value.bool s :: wordsV ws) 238 :: H) w) :
  Calls Tryz.prog 181 #[.pointer (some ⟨b, 1, none⟩)] w fun e w' => e = .returned (.tuple #[]) ∧ Inv B (Res.cell b (Value.bool s :: wordsV (invW ws)) 238 :: H) w' := by
 refine cW Tryz.func181 rfl Tryz.ntmps181 ?_;simp only [al];apply uN;intro _ _;apply uN
 gi_loopw [3] (fun x3 wr => ∃ (i : Nat), x3 = vI i ∧ i ≤ 4 ∧ Inv B (Res.cell b (Value.bool s :: wordsV ((ws.take i).map (fun x => ~~~ x) ++ ws.drop i)) 238 :: H) wr) (fun x3 _ => 4 - (intOf x3).toNat)
 case atStart => exact ⟨0, rfl, Nat.zero_le _, hv⟩
 case round =>
  obtain ⟨i, rfl, hi, hv⟩ := hrel;apply uN;intro _ _;refine uB (fun hb4 => ?_) fun hb4 => ?_
  ·intro _ _;apply uN;intro _ _ _ _;apply uN;refine rW mixed [10] [0,1,2,3,4,5,6,7,8,9,10] 17 rfl (by kernel_rfl) hv ?_;simp only [qm, opAt];apply uN;refine dG (.pointer (some ⟨b, 1, none⟩)) rfl (ex_nil rfl rfl) ?_;refine dG (.pointer (some ⟨b, 1 + i * 1, none⟩)) rfl (ex_index rfl rfl rfl (run_idxAK (kd := .i64) (k := i) glua236 glea236 (by omega))) ?_;simp only [zP, po];refine dL (.int .u64 ((ws.getD i 0#64).toNat : Int)) rfl (fun hv => ex_load rfl rfl (run_load1 glna71 (hv.load 0 (1 + i * 1) rfl (by rw [Nat.mul_one, Nat.add_comm, List.getElem?_cons_succ, wordsV_get (by rw [inv_len]; omega), inv_get (by omega)]; rfl)))) ?_;refine dG (.int .u64 ((~~~ (ws.getD i 0#64)).toNat : Int)) rfl (ex_un rfl rfl (notB _)) ?_;refine dG (.pointer (some ⟨b, 1, none⟩)) rfl (ex_nil rfl rfl) ?_;simp only [zP, po];refine dG (.pointer (some ⟨b, 1 + i * 1, none⟩)) rfl (ex_index rfl rfl rfl (run_idxAK (kd := .i64) (k := i) glua236 glea236 (by omega))) (dS rfl fun w8 hv => ?_);refine mem_storeAt 0 (v := wv (~~~ (ws.getD i 0#64))) (L' := (Value.bool s :: wordsV ((ws.take (i + 1)).map (fun x => ~~~ x) ++ ws.drop (i + 1)))) rfl rfl rfl rfl hv rfl glsz71 (by rw [List.length_cons, wordsV_len, inv_len]; omega) rfl rfl (by rw [Nat.mul_one, Nat.add_comm, List.set_cons_succ, wordsV_set, inv_set (by omega)]) (fun w9 hv => ?_);simp only [zO] at hv;refine dW hv (dE fun w10 hv => ?_);apply uN;refine oG (vI ((i + 1 : Nat) : Int)) rfl (ex_add rfl rfl rfl (by rw [i64_in (by omega)]; omega)) ?_;refine then_normal ?_
   go_roundw
   case rel => exact ⟨i + 1, rfl, by omega, hv⟩
   case measure => show 4 - (((i + 1 : Nat) : Int)).toNat < 4 - ((i : Int)).toNat; omega
  intro _ _
  go_end0
  obtain rfl : i = 4 := by omega
  rw [inv_all hl] at hv;exact ⟨rfl, hv⟩
theorem setHasC (B : Base) (H : List Res) (w : World) (b off : Nat) (ws : W64) (hl : ws.length = 4) (hrd : Reads B [] b off (wordsV ws)) (c : Nat) (hc : c < 256) (hv : Inv B H w) :
  Calls Tryz.prog 143 #[.pointer (some ⟨b, off, none⟩), .int .u8 (c : Int)] w fun e w' => e = .returned (.bool (hasW ws c)) ∧ Inv B H w' := by
 refine cW Tryz.func143 rfl Tryz.ntmps143 ?_;simp only [al];apply uN;intro _ _;apply uN;intro _ _;refine oG (.int .u8 ((c / 64 : Nat) : Int)) rfl (ex_quo (m := (c : Int)) (n := 64) rfl rfl rfl (by decide) (quo64 hc)) ?_;refine oG (.pointer (some ⟨b, off, none⟩)) rfl (ex_nil rfl rfl) ?_;refine oG (.pointer (some ⟨b, off + c / 64 * 1, none⟩)) rfl (ex_index rfl rfl rfl (run_idxAK (kd := .u8) (k := c / 64) glua236 glea236 (by omega))) ?_;refine oL (.int .u64 ((ws.getD (c / 64) 0#64).toNat : Int)) rfl (run_load1 glna71 (hrd _ _ _ (Base.Le.refl _) no_res hv _ _ (by rw [Nat.mul_one]; exact wordsV_get (by omega)))) ?_;refine oG (.int .u8 ((c % 64 : Nat) : Int)) rfl (ex_rem (m := (c : Int)) (n := 64) rfl rfl rfl (by decide) rem64) ?_;refine oG (.int .u64 ((ws.getD (c / 64) 0#64 >>> (c % 64)).toNat : Int)) rfl (ex_shr (m := ((ws.getD (c / 64) 0#64).toNat : Int)) (n := ((c % 64 : Nat) : Int)) rfl rfl rfl (by omega) (shrB (Nat.mod_lt _ (by decide)))) ?_;refine oG (.int .u64 ((ws.getD (c / 64) 0#64 >>> (c % 64) &&& 1#64).toNat : Int)) rfl (ex_bits (m := ((ws.getD (c / 64) 0#64 >>> (c % 64)).toNat : Int)) (n := 1) rfl rfl rfl rfl (andB _)) ?_;refine oG (.bool (hasW ws c)) rfl (ex_eql rfl rfl rfl (by unfold hasW; exact decide_eq_decide.2 one_of)) ?_;refine bR rfl rfl (⟨rfl, hv⟩)
theorem part_cells {p : Part} (h : p.ws.length = 4) : (Value.bool p.star :: wordsV p.ws) = partC p := partF_eq h
theorem glal238 : AL Tryz.prog 238 [.bool false, .int .u64 0, .int .u64 0, .int .u64 0, .int .u64 0] := fun w => by kernel_rfl
theorem glfa238_1 : FA Tryz.prog 238 1 1 := fun w b o => by kernel_rfl
theorem glwd238 : Wide Tryz.prog 238 5 := wide_of (fun w => by kernel_rfl) (by kernel_rfl)
theorem glsz238 : (Tryz.prog.info? 238).map (·.size) = some 5 := by kernel_rfl
theorem globOne (B : Base) (H : List Res) (w : World) (c : Nat) (hc : c < 256) (hv : Inv B H w) :
  Calls Tryz.prog 166 #[.int .u8 (c : Int)] w fun e w' => e = .returned (.agg (partC (oneP c)).toArray) ∧ Inv B H w' := by
 refine cW Tryz.func166 rfl Tryz.ntmps166 ?_;simp only [al];apply uN;intro _ _;refine sl_alloc tV (wn rfl) rfl hv glal238 (fun b2 w3 hv => ?_);apply uN;intro _ _;refine sl_alloc tV (wn rfl) rfl hv glal238 (fun b5 w6 hv => ?_);apply uN;intro _ _;refine oF (.pointer (some ⟨b5, 1, none⟩)) rfl (glfa238_1 _ _ _) ?_;refine xC glcallable184 rfl ((setAddC B _ _ b5 false w0 rfl c hc hv).mono ?_) rfl;rintro e w8 ⟨rfl, hv⟩;apply eR;obtain ⟨pp, hpp⟩ : ∃ q : Part, q = oneP c := ⟨_, rfl⟩;have hpl : pp.ws.length = 4 := by rw [hpp]; first | rfl | exact addW_len
 rw [show (Value.bool false :: wordsV (addW w0 c)) = partC pp from by rw [← part_cells hpl, hpp]; rfl] at hv;simp only [partC] at hv;apply uN;intro _ _;refine oL (.agg #[.bool pp.star, wv (pp.ws.getD 0 0#64), wv (pp.ws.getD 1 0#64), wv (pp.ws.getD 2 0#64), wv (pp.ws.getD 3 0#64)]) rfl (lM 0 glwd238 hv rfl rfl rfl rfl) ?_;refine xS 1 rfl hv glsz238 rfl (by exact ⟨rfl, rfl, rfl, rfl, rfl, trivial⟩) (fun w10 hv => ?_);simp only [zS, zO, sp] at hv;apply uN;refine bC 1 glwd238 hv rfl rfl rfl rfl ?_;subst hpp;exact ⟨rfl, (hv.kp [] 0 2)⟩
theorem glcallable181 : Callable Tryz.prog 181 := cb Tryz.func181 (by kernel_rfl)
theorem globAny (B : Base) (H : List Res) (w : World) (hv : Inv B H w) :
  Calls Tryz.prog 164 #[] w fun e w' => e = .returned (.agg (partC (anyP)).toArray) ∧ Inv B H w' := by
 refine cW Tryz.func164 rfl Tryz.ntmps164 ?_;simp only [al];apply uN;intro _ _;refine sl_alloc tV (wn rfl) rfl hv glal238 (fun b2 w3 hv => ?_);apply uN;intro _ _;refine sl_alloc tV (wn rfl) rfl hv glal238 (fun b5 w6 hv => ?_);apply uN;intro _ _;refine oF (.pointer (some ⟨b5, 1, none⟩)) rfl (glfa238_1 _ _ _) ?_;refine xC glcallable181 rfl ((setInvertC B _ _ b5 false w0 rfl hv).mono ?_) rfl;rintro e w8 ⟨rfl, hv⟩;apply eR;obtain ⟨pp, hpp⟩ : ∃ q : Part, q = anyP := ⟨_, rfl⟩;have hpl : pp.ws.length = 4 := by rw [hpp]; first | rfl | exact addW_len
 rw [show (Value.bool false :: wordsV (invW w0)) = partC pp from by rw [← part_cells hpl, hpp]; rfl] at hv;simp only [partC] at hv;apply uN;intro _ _;refine oL (.agg #[.bool pp.star, wv (pp.ws.getD 0 0#64), wv (pp.ws.getD 1 0#64), wv (pp.ws.getD 2 0#64), wv (pp.ws.getD 3 0#64)]) rfl (lM 0 glwd238 hv rfl rfl rfl rfl) ?_;refine xS 1 rfl hv glsz238 rfl (by exact ⟨rfl, rfl, rfl, rfl, rfl, trivial⟩) (fun w10 hv => ?_);simp only [zS, zO, sp] at hv;apply uN;refine bC 1 glwd238 hv rfl rfl rfl rfl ?_;subst hpp;exact ⟨rfl, (hv.kp [] 0 2)⟩
theorem globLiteral (B : Base) (H : List Res) (w : World) (p : List UInt8) (i : Nat) (hi : i < p.length) (hp : p.length ≤ 1000000) (hv : Inv B H w) :
  Calls Tryz.prog 182 #[vS p, vI i] w fun e w' => e = .returned (.tuple #[.int .u8 ((litS p i).1 : Int), vI ((litS p i).2 : Int)]) ∧ Inv B H w' := by
 refine cW Tryz.func182 rfl Tryz.ntmps182 ?_;simp only [al];apply uN;intro _ _;apply uN;intro _ _ _ _;obtain ⟨y, hy⟩ : ∃ y, p[i]? = some y := ⟨_, List.getElem?_eq_getElem (show i < p.length by omega)⟩;have hyc := chr_at hy;refine oG (.int .u8 (chr p (i) : Int)) rfl ((by rw [hyc]; exact ex_sidx0 Tryz.underlying9 rfl rfl rfl hy)) ?_;refine uB (fun hb4 => ?_) fun hb4 => ?_
 ·refine oG (vI ((i + 1 : Nat) : Int)) rfl (ex_add rfl rfl rfl (by rw [i64_in (by omega)]; omega)) ?_;refine oG (vI (p.length : Int)) rfl (ex_lenStr Tryz.underlying9 rfl rfl) ?_;refine uB (fun hb5 => ?_) fun hb5 => ?_
  ·refine oG (vI ((i + 1 : Nat) : Int)) rfl (ex_add rfl rfl rfl (by rw [i64_in (by omega)]; omega)) ?_;intro _ _;obtain ⟨y, hy⟩ : ∃ y, p[i + 1]? = some y := ⟨_, List.getElem?_eq_getElem (show i + 1 < p.length by omega)⟩;have hyc := chr_at hy;refine oG (.int .u8 (chr p (i + 1) : Int)) rfl ((by rw [hyc]; exact ex_sidx0 Tryz.underlying9 rfl rfl rfl hy)) ?_;refine oG (vI ((i + 2 : Nat) : Int)) rfl (ex_add rfl rfl rfl (by rw [i64_in (by omega)]; omega)) ?_;refine bodyPost_ret (results_tmp2 rfl _ _ _) rfl ?_;have e : litS p i = (chr p (i + 1), i + 2) := if_pos ⟨by omega, by omega⟩;rw [e];exact ⟨rfl, hv⟩
  intro _ _;obtain ⟨y, hy⟩ : ∃ y, p[i]? = some y := ⟨_, List.getElem?_eq_getElem (show i < p.length by omega)⟩;have hyc := chr_at hy;refine oG (.int .u8 (chr p (i) : Int)) rfl ((by rw [hyc]; exact ex_sidx0 Tryz.underlying9 rfl rfl rfl hy)) ?_;refine oG (vI ((i + 1 : Nat) : Int)) rfl (ex_add rfl rfl rfl (by rw [i64_in (by omega)]; omega)) ?_;refine bodyPost_ret (results_tmp2 rfl _ _ _) rfl ?_;have e : litS p i = (chr p i, i + 1) := if_neg (by omega);rw [e];exact ⟨rfl, hv⟩
 intro _ _;obtain ⟨y, hy⟩ : ∃ y, p[i]? = some y := ⟨_, List.getElem?_eq_getElem (show i < p.length by omega)⟩;have hyc := chr_at hy;refine oG (.int .u8 (chr p (i) : Int)) rfl ((by rw [hyc]; exact ex_sidx0 Tryz.underlying9 rfl rfl rfl hy)) ?_;refine oG (vI ((i + 1 : Nat) : Int)) rfl (ex_add rfl rfl rfl (by rw [i64_in (by omega)]; omega)) ?_;refine bodyPost_ret (results_tmp2 rfl _ _ _) rfl ?_;have e : litS p i = (chr p i, i + 1) := if_neg (by omega);rw [e];exact ⟨rfl, hv⟩
theorem chr_lt (p : List UInt8) (i : Nat) : chr p i < 256 := (p.getD i 0).toNat_lt
theorem litS_lt (p : List UInt8) (i : Nat) : (litS p i).1 < 256 := by unfold litS; split <;> exact chr_lt p _
theorem highS_lt (p : List UInt8) (i : Nat) {lo : Nat} (h : lo < 256) : (highS p i lo).1 < 256 := by
 unfold highS; split
 ·exact litS_lt p _
 exact h
theorem clsS_hyp {p : List UInt8} {i k0 : Nat} {neg : Bool} (hneg : neg = true ↔ (chr p i = 94 ∧ i < p.length)) (hk0 : (neg = true ∧ k0 = i + 1) ∨ (neg = false ∧ k0 = i)) : (neg = true ∧ k0 = i + 1 ∧ chr p i = 94 ∧ i < p.length) ∨ (neg = false ∧ k0 = i ∧ ¬ (chr p i = 94 ∧ i < p.length)) := by
 rcases hk0 with ⟨h1, h2⟩ | ⟨h1, h2⟩
 ·exact .inl ⟨h1, h2, hneg.1 h1⟩
 exact .inr ⟨h1, h2, fun h => by rw [hneg.2 h] at h1; cases h1⟩
theorem clsS_of {p : List UInt8} {i : Nat} {b : Bool} {j : Nat} (h : (b = true ∧ j = i + 1 ∧ chr p i = 94 ∧ i < p.length) ∨ (b = false ∧ j = i ∧ ¬ (chr p i = 94 ∧ i < p.length))) : clsS p i = classS p b j j w0 := by
 unfold clsS;rcases h with ⟨rfl, rfl, h⟩ | ⟨rfl, rfl, h⟩
 ·rw [if_pos h]
 rw [if_neg h]
theorem gmal238 : AL Tryz.prog 238 [.bool false, .int .u64 0, .int .u64 0, .int .u64 0, .int .u64 0] := fun w => by kernel_rfl
theorem gmcallable182 : Callable Tryz.prog 182 := cb Tryz.func182 (by kernel_rfl)
theorem gmcallable183 : Callable Tryz.prog 183 := cb Tryz.func183 (by kernel_rfl)
theorem globClass (B : Base) (H : List Res) (w : World) (p : List UInt8) (hp : p.length ≤ 1000000) (i : Nat) (hi : i ≤ p.length) (hv : Inv B H w) :
  Calls Tryz.prog 165 #[vS p, vI i] w fun e w' => ∃ (pp : Part) (j : Nat) (b : Bool), e = .returned (.tuple #[.agg (partC pp).toArray, vI j, .bool b]) ∧ pp.star = false ∧ pp.ws.length = 4 ∧ ((b = true ∧ clsS p i = some (pp.ws, j)) ∨ (b = false ∧ clsS p i = none)) ∧ Inv B H w' := by
 refine cW Tryz.func165 rfl Tryz.ntmps165 ?_;simp only [al];apply uN;intro _ _;refine sl_alloc tV (wn rfl) rfl hv gmal238 (fun b2 w3 hv => ?_);apply uN;intro _ _;refine sl_alloc tV (wn rfl) rfl hv gmal238 (fun b5 w6 hv => ?_);apply uN;intro K7 k7;replace k7 := k7.h;have hJ7 : ∀ (neg : Bool) (j12 j13 j14 j15 j16 j17 j18 j19 j20 j21 : Value) (w8 : World), (neg = true ↔ (chr p i = 94 ∧ i < p.length)) → Inv B (Res.cell b5 [.bool false, .int .u64 0, .int .u64 0, .int .u64 0, .int .u64 0] 238 :: Res.cell b2 [.bool false, .int .u64 0, .int .u64 0, .int .u64 0, .int .u64 0] 238 :: H) w8 → K7 { tmps := List.toArray (vS p :: vI i :: undef :: undef :: vP b2 :: vI 0 :: .bool false :: vP b5 :: .bool neg :: undef :: undef :: undef :: j12 :: j13 :: j14 :: j15 :: j16 :: j17 :: j18 :: j19 :: j20 :: j21 :: undef :: undef :: undef :: undef :: undef :: undef :: undef :: undef :: undef :: undef :: undef :: undef :: undef :: undef :: undef :: undef :: undef :: undef :: undef :: undef :: undef :: undef :: undef :: undef :: undef :: undef :: undef :: undef :: undef :: undef :: undef :: undef :: undef :: undef :: undef :: undef :: undef :: undef :: undef :: undef :: undef :: undef :: undef :: undef :: undef :: undef :: undef :: undef :: undef :: undef :: undef :: undef :: undef :: undef :: undef :: undef :: undef :: undef :: undef :: undef :: []), defers := [] } w8 := by
  intro neg j12 j13 j14 j15 j16 j17 j18 j19 j20 j21 w8 hneg hv;refine k7 _ _ ?_;apply uN;intro K9 k9;replace k9 := k9.h;have hJ9 : ∀ (k0 : Nat) (j22 j23 j24 : Value) (w10 : World), ((neg = true ∧ k0 = i + 1) ∨ (neg = false ∧ k0 = i)) → Inv B (Res.cell b5 [.bool false, .int .u64 0, .int .u64 0, .int .u64 0, .int .u64 0] 238 :: Res.cell b2 [.bool false, .int .u64 0, .int .u64 0, .int .u64 0, .int .u64 0] 238 :: H) w10 → K9 { tmps := List.toArray (vS p :: vI k0 :: undef :: undef :: vP b2 :: vI 0 :: .bool false :: vP b5 :: .bool neg :: undef :: undef :: undef :: j12 :: j13 :: j14 :: j15 :: j16 :: j17 :: j18 :: j19 :: j20 :: j21 :: j22 :: j23 :: j24 :: undef :: undef :: undef :: undef :: undef :: undef :: undef :: undef :: undef :: undef :: undef :: undef :: undef :: undef :: undef :: undef :: undef :: undef :: undef :: undef :: undef :: undef :: undef :: undef :: undef :: undef :: undef :: undef :: undef :: undef :: undef :: undef :: undef :: undef :: undef :: undef :: undef :: undef :: undef :: undef :: undef :: undef :: undef :: undef :: undef :: undef :: undef :: undef :: undef :: undef :: undef :: undef :: undef :: undef :: undef :: undef :: undef :: []), defers := [] } w10 := by
   intro k0 j22 j23 j24 w10 hk0 hv;refine k9 _ _ ?_;have hk0l : k0 ≤ p.length := by
    rcases hk0 with ⟨h9, rfl⟩ | ⟨-, rfl⟩
    ·have := (hneg.1 h9).2; omega
    exact hi
   apply uN;intro _ _ _ _;apply uN
   gi_loopw [1, 10, 11] (fun x1 x10 x11 wr => ∃ (k : Nat) (ws : W64), x1 = vI k ∧ ws.length = 4 ∧ k ≤ p.length ∧ classS p neg (k0) (k0) w0 = classS p neg (k0) k ws ∧ Inv B (Res.cell b5 (Value.bool false :: wordsV ws) 238 :: Res.cell b2 [.bool false, .int .u64 0, .int .u64 0, .int .u64 0, .int .u64 0] 238 :: H) wr) (fun x1 x10 x11 _ => p.length - (intOf x1).toNat)
   case atStart => exact ⟨k0, w0, rfl, rfl, by omega, rfl, ((hv.front 1 rfl).front 1 rfl)⟩
   case round =>
    obtain ⟨k, ws, rfl, hwl, hk, hcl, hv⟩ := hrel;apply uN;intro _ _ _ _;refine oG (vI (p.length : Int)) rfl (ex_lenStr Tryz.underlying9 rfl rfl) ?_;refine uB (fun hb16 => ?_) fun hb16 => ?_
    ·intro _ _ _ _;obtain ⟨y19, hy19⟩ : ∃ y, p[k]? = some y := ⟨_, List.getElem?_eq_getElem (show k < p.length by omega)⟩;have hy19c := chr_at hy19;refine oG (.int .u8 (chr p (k) : Int)) rfl ((by rw [hy19c]; exact ex_sidx0 Tryz.underlying9 rfl rfl rfl hy19)) ?_;refine uB (fun hb20 => ?_) fun hb20 => ?_
     ·refine uB (fun hb21 => ?_) fun hb21 => ?_
      ·intro K22 k22;replace k22 := k22.h;have hJ22 : ∀ (ws2 : W64) (j39 j40 j41 : Value) (w23 : World), (ws2 = (if neg then invW ws else ws)) → (ws2.length = 4) → Inv B (Res.cell b5 (Value.bool false :: wordsV ws2) 238 :: Res.cell b2 [.bool false, .int .u64 0, .int .u64 0, .int .u64 0, .int .u64 0] 238 :: H) w23 → K22 { tmps := List.toArray (vS p :: vI k :: undef :: undef :: vP b2 :: u5 :: u6 :: vP b5 :: .bool neg :: vI k0 :: u10 :: u11 :: j12 :: j13 :: j14 :: j15 :: j16 :: j17 :: j18 :: j19 :: j20 :: j21 :: j22 :: j23 :: j24 :: vI k0 :: vI k :: vS p :: vI (p.length : Int) :: .bool true :: vS p :: vI k :: .int .u8 (chr p (k) : Int) :: .bool true :: .bool true :: vI k :: vI k0 :: .bool true :: .bool true :: j39 :: j40 :: j41 :: u42 :: u43 :: u44 :: u45 :: u46 :: u47 :: u48 :: u49 :: u50 :: u51 :: u52 :: u53 :: u54 :: u55 :: u56 :: u57 :: u58 :: u59 :: u60 :: u61 :: u62 :: u63 :: u64 :: u65 :: u66 :: u67 :: u68 :: u69 :: u70 :: u71 :: u72 :: u73 :: u74 :: u75 :: u76 :: u77 :: u78 :: u79 :: u80 :: undef :: []), defers := [] } w23 := by
        intro ws2 j39 j40 j41 w23 hws2 hwl2 hv;refine k22 _ _ ?_;apply uN;intro _ _;obtain ⟨pp, hpp⟩ : ∃ q : Part, q = ⟨false, ws2⟩ := ⟨_, rfl⟩;have hpl : pp.ws.length = 4 := by rw [hpp]; exact hwl2
        rw [show (Value.bool false :: wordsV (ws2)) = partC pp from by rw [← part_cells hpl, hpp]] at hv;simp only [partC] at hv;apply uN;refine oL (.agg #[.bool pp.star, wv (pp.ws.getD 0 0#64), wv (pp.ws.getD 1 0#64), wv (pp.ws.getD 2 0#64), wv (pp.ws.getD 3 0#64)]) rfl (lM 0 glwd238 hv rfl rfl rfl rfl) ?_;refine oG (vI ((k + 1 : Nat) : Int)) rfl (ex_add rfl rfl rfl (by rw [i64_in (by omega)]; omega)) ?_;refine xS 1 rfl hv glsz238 rfl (by exact ⟨rfl, rfl, rfl, rfl, rfl, trivial⟩) (fun w25 hv => ?_);simp only [zS, zO, sp] at hv;apply uN;refine bodyPost_ret (res_cell3 rfl rfl (lM 1 glwd238 hv rfl rfl rfl rfl)) rfl ?_;have e9 : clsS p i = some (pp.ws, k + 1) := by
         rw [clsS_of (clsS_hyp hneg hk0), hcl, classS_close p (by omega) ⟨by omega, by omega⟩, hpp, ← hws2]
        exact ⟨pp, k + 1, true, rfl, by rw [hpp], hpl, .inl ⟨rfl, e9⟩, (hv.kp [] 0 2)⟩
       apply uN;intro _ _;apply uN;refine wpIn_cond_split (t := neg) rfl (fun hc27 => ?_) (fun hc27 => ?_)
       ·apply uN;refine oF (.pointer (some ⟨b5, 1, none⟩)) rfl (glfa238_1 _ _ _) ?_;refine xC glcallable181 rfl ((setInvertC B _ _ _ false ws hwl hv).mono ?_) rfl;rintro e w28 ⟨rfl, hv⟩;apply eR;exact then_normal (hJ22 (invW ws) _ _ _ _ (by rw [hc27]; rfl) (invW_len.trans hwl) hv)
       apply uN;refine then_normal (hJ22 ws _ _ _ _ (by rw [hc27]; rfl) hwl hv)
      intro _ _;apply uN;intro _ _;refine xC gmcallable182 rfl ((globLiteral B _ _ p (k) (by omega) hp hv).mono ?_) rfl;rintro e w31 ⟨rfl, hv⟩;apply eR;have hlg := litS_gt p (k);have hll := litS_le p (show k < p.length by omega);apply uN;intro _ _;apply uN;intro K33 k33;replace k33 := k33.h;have hJ33 : ∀ (hh k2 : Nat) (j52 j53 j54 j55 j56 j57 j58 j59 j60 j61 j62 j63 j64 j65 j66 j67 j68 j69 j70 j71 j72 j73 j74 j75 j76 : Value) (w34 : World), (highS p (litS p k).2 (litS p k).1 = (hh, k2)) → Inv B (Res.cell b5 (Value.bool false :: wordsV ws) 238 :: Res.cell b2 [.bool false, .int .u64 0, .int .u64 0, .int .u64 0, .int .u64 0] 238 :: H) w34 → K33 { tmps := List.toArray (vS p :: vI k2 :: undef :: undef :: vP b2 :: u5 :: u6 :: vP b5 :: .bool neg :: vI k0 :: .int .u8 ((litS p (k)).1 : Int) :: .int .u8 (hh : Int) :: j12 :: j13 :: j14 :: j15 :: j16 :: j17 :: j18 :: j19 :: j20 :: j21 :: j22 :: j23 :: j24 :: vI k0 :: vI k :: vS p :: vI (p.length : Int) :: .bool true :: vS p :: vI k :: .int .u8 (chr p (k) : Int) :: .bool true :: .bool true :: vI k :: vI k0 :: .bool false :: .bool false :: u39 :: u40 :: u41 :: u42 :: u43 :: u44 :: .tuple #[.int .u8 ((litS p (k)).1 : Int), vI ((litS p (k)).2 : Int)] :: vS p :: vI k :: .tuple #[.int .u8 ((litS p (k)).1 : Int), vI ((litS p (k)).2 : Int)] :: .int .u8 ((litS p (k)).1 : Int) :: vI ((litS p (k)).2 : Int) :: .int .u8 ((litS p (k)).1 : Int) :: j52 :: j53 :: j54 :: j55 :: j56 :: j57 :: j58 :: j59 :: j60 :: j61 :: j62 :: j63 :: j64 :: j65 :: j66 :: j67 :: j68 :: j69 :: j70 :: j71 :: j72 :: j73 :: j74 :: j75 :: j76 :: u77 :: u78 :: u79 :: u80 :: undef :: []), defers := [] } w34 := by
       intro hh k2 j52 j53 j54 j55 j56 j57 j58 j59 j60 j61 j62 j63 j64 j65 j66 j67 j68 j69 j70 j71 j72 j73 j74 j75 j76 w34 hhs hv;refine k33 _ _ ?_;have hk2a : (litS p k).2 ≤ k2 := by have := highS_ge p (litS p k).2 (litS p k).1; rw [hhs] at this; exact this
       have hk2b : k2 ≤ p.length := by have := highS_le p (i := (litS p k).2) (lo := (litS p k).1) (by omega); rw [hhs] at this; exact this
       have hhl : hh < 256 := by have := highS_lt p (litS p k).2 (litS_lt p k); rw [hhs] at this; exact this
       apply uN;refine oF (.pointer (some ⟨b5, 1, none⟩)) rfl (glfa238_1 _ _ _) ?_;refine xC gmcallable183 rfl ((setAddRangeC B _ _ _ false ws hwl ((litS p k).1) hh (litS_lt p _) hhl hv).mono ?_) rfl;rintro e w35 ⟨rfl, hv⟩;apply eR;refine then_normal ?_;simp only [vP, vI, vS]
       go_roundw
       case rel => exact ⟨_, _, rfl, by unfold addRangeW; rw [addUpto_len]; exact hwl, by omega, by rw [hcl, classS_step p (by omega) (by omega), hhs], ((hv.front 1 rfl).front 1 rfl)⟩
       case measure => show p.length - (((k2 : Nat) : Int)).toNat < p.length - ((k : Int)).toNat; omega
      apply uN;intro _ _;refine oG (vI (((litS p (k)).2 + 1 : Nat) : Int)) rfl (ex_add rfl rfl rfl (by rw [i64_in (by omega)]; omega)) ?_;refine oG (vI (p.length : Int)) rfl (ex_lenStr Tryz.underlying9 rfl rfl) ?_;refine uB (fun hb37 => ?_) fun hb37 => ?_
      ·obtain ⟨y38, hy38⟩ : ∃ y, p[(litS p k).2]? = some y := ⟨_, List.getElem?_eq_getElem (show (litS p k).2 < p.length by omega)⟩;have hy38c := chr_at hy38;refine oG (.int .u8 (chr p ((litS p k).2) : Int)) rfl ((by rw [hy38c]; exact ex_sidx0 Tryz.underlying9 rfl rfl rfl hy38)) ?_;refine uB (fun hb39 => ?_) fun hb39 => ?_
       ·refine oG (vI (((litS p (k)).2 + 1 : Nat) : Int)) rfl (ex_add rfl rfl rfl (by rw [i64_in (by omega)]; omega)) ?_;obtain ⟨y40, hy40⟩ : ∃ y, p[(litS p k).2 + 1]? = some y := ⟨_, List.getElem?_eq_getElem (show (litS p k).2 + 1 < p.length by omega)⟩;have hy40c := chr_at hy40;refine oG (.int .u8 (chr p ((litS p k).2 + 1) : Int)) rfl ((by rw [hy40c]; exact ex_sidx0 Tryz.underlying9 rfl rfl rfl hy40)) ?_;refine uB (fun hb41 => ?_) fun hb41 => ?_
        ·refine oG (vI (((litS p (k)).2 + 1 : Nat) : Int)) rfl (ex_add rfl rfl rfl (by rw [i64_in (by omega)]; omega)) ?_;refine xC gmcallable182 rfl ((globLiteral B _ _ p (((litS p (k)).2 + 1 : Nat)) (by omega) hp hv).mono ?_) rfl;rintro e w42 ⟨rfl, hv⟩;apply eR;have hlg2 := litS_gt p (((litS p (k)).2 + 1 : Nat));have hll2 := litS_le p (show ((litS p (k)).2 + 1 : Nat) < p.length by omega);apply uN;exact then_normal (hJ33 ((litS p (((litS p (k)).2 + 1 : Nat))).1) ((litS p (((litS p (k)).2 + 1 : Nat))).2) _ _ _ _ _ _ _ _ _ _ _ _ _ _ _ _ _ _ _ _ _ _ _ _ _ _ (if_pos ⟨by omega, by omega, by omega⟩) hv)
        refine then_normal (hJ33 ((litS p (k)).1) ((litS p (k)).2) _ _ _ _ _ _ _ _ _ _ _ _ _ _ _ _ _ _ _ _ _ _ _ _ _ _ (if_neg (by omega)) hv)
       exact then_normal (hJ33 ((litS p (k)).1) ((litS p (k)).2) _ _ _ _ _ _ _ _ _ _ _ _ _ _ _ _ _ _ _ _ _ _ _ _ _ _ (if_neg (by omega)) hv)
      exact then_normal (hJ33 ((litS p (k)).1) ((litS p (k)).2) _ _ _ _ _ _ _ _ _ _ _ _ _ _ _ _ _ _ _ _ _ _ _ _ _ _ (if_neg (by omega)) hv)
     intro _ _;apply uN;intro _ _;refine xC gmcallable182 rfl ((globLiteral B _ _ p (k) (by omega) hp hv).mono ?_) rfl;rintro e w45 ⟨rfl, hv⟩;apply eR;have hlg := litS_gt p (k);have hll := litS_le p (show k < p.length by omega);apply uN;intro _ _;apply uN;intro K47 k47;replace k47 := k47.h;have hJ47 : ∀ (hh k2 : Nat) (j52 j53 j54 j55 j56 j57 j58 j59 j60 j61 j62 j63 j64 j65 j66 j67 j68 j69 j70 j71 j72 j73 j74 j75 j76 : Value) (w48 : World), (highS p (litS p k).2 (litS p k).1 = (hh, k2)) → Inv B (Res.cell b5 (Value.bool false :: wordsV ws) 238 :: Res.cell b2 [.bool false, .int .u64 0, .int .u64 0, .int .u64 0, .int .u64 0] 238 :: H) w48 → K47 { tmps := List.toArray (vS p :: vI k2 :: undef :: undef :: vP b2 :: u5 :: u6 :: vP b5 :: .bool neg :: vI k0 :: .int .u8 ((litS p (k)).1 : Int) :: .int .u8 (hh : Int) :: j12 :: j13 :: j14 :: j15 :: j16 :: j17 :: j18 :: j19 :: j20 :: j21 :: j22 :: j23 :: j24 :: vI k0 :: vI k :: vS p :: vI (p.length : Int) :: .bool true :: vS p :: vI k :: .int .u8 (chr p (k) : Int) :: .bool false :: .bool false :: undef :: undef :: undef :: .bool false :: u39 :: u40 :: u41 :: u42 :: u43 :: u44 :: .tuple #[.int .u8 ((litS p (k)).1 : Int), vI ((litS p (k)).2 : Int)] :: vS p :: vI k :: .tuple #[.int .u8 ((litS p (k)).1 : Int), vI ((litS p (k)).2 : Int)] :: .int .u8 ((litS p (k)).1 : Int) :: vI ((litS p (k)).2 : Int) :: .int .u8 ((litS p (k)).1 : Int) :: j52 :: j53 :: j54 :: j55 :: j56 :: j57 :: j58 :: j59 :: j60 :: j61 :: j62 :: j63 :: j64 :: j65 :: j66 :: j67 :: j68 :: j69 :: j70 :: j71 :: j72 :: j73 :: j74 :: j75 :: j76 :: u77 :: u78 :: u79 :: u80 :: undef :: []), defers := [] } w48 := by
      intro hh k2 j52 j53 j54 j55 j56 j57 j58 j59 j60 j61 j62 j63 j64 j65 j66 j67 j68 j69 j70 j71 j72 j73 j74 j75 j76 w48 hhs hv;refine k47 _ _ ?_;have hk2a : (litS p k).2 ≤ k2 := by have := highS_ge p (litS p k).2 (litS p k).1; rw [hhs] at this; exact this
      have hk2b : k2 ≤ p.length := by have := highS_le p (i := (litS p k).2) (lo := (litS p k).1) (by omega); rw [hhs] at this; exact this
      have hhl : hh < 256 := by have := highS_lt p (litS p k).2 (litS_lt p k); rw [hhs] at this; exact this
      apply uN;refine oF (.pointer (some ⟨b5, 1, none⟩)) rfl (glfa238_1 _ _ _) ?_;refine xC gmcallable183 rfl ((setAddRangeC B _ _ _ false ws hwl ((litS p k).1) hh (litS_lt p _) hhl hv).mono ?_) rfl;rintro e w49 ⟨rfl, hv⟩;apply eR;refine then_normal ?_;simp only [vP, vI, vS]
      go_roundw
      case rel => exact ⟨_, _, rfl, by unfold addRangeW; rw [addUpto_len]; exact hwl, by omega, by rw [hcl, classS_step p (by omega) (by omega), hhs], ((hv.front 1 rfl).front 1 rfl)⟩
      case measure => show p.length - (((k2 : Nat) : Int)).toNat < p.length - ((k : Int)).toNat; omega
     apply uN;intro _ _;refine oG (vI (((litS p (k)).2 + 1 : Nat) : Int)) rfl (ex_add rfl rfl rfl (by rw [i64_in (by omega)]; omega)) ?_;refine oG (vI (p.length : Int)) rfl (ex_lenStr Tryz.underlying9 rfl rfl) ?_;refine uB (fun hb51 => ?_) fun hb51 => ?_
     ·obtain ⟨y52, hy52⟩ : ∃ y, p[(litS p k).2]? = some y := ⟨_, List.getElem?_eq_getElem (show (litS p k).2 < p.length by omega)⟩;have hy52c := chr_at hy52;refine oG (.int .u8 (chr p ((litS p k).2) : Int)) rfl ((by rw [hy52c]; exact ex_sidx0 Tryz.underlying9 rfl rfl rfl hy52)) ?_;refine uB (fun hb53 => ?_) fun hb53 => ?_
      ·refine oG (vI (((litS p (k)).2 + 1 : Nat) : Int)) rfl (ex_add rfl rfl rfl (by rw [i64_in (by omega)]; omega)) ?_;obtain ⟨y54, hy54⟩ : ∃ y, p[(litS p k).2 + 1]? = some y := ⟨_, List.getElem?_eq_getElem (show (litS p k).2 + 1 < p.length by omega)⟩;have hy54c := chr_at hy54;refine oG (.int .u8 (chr p ((litS p k).2 + 1) : Int)) rfl ((by rw [hy54c]; exact ex_sidx0 Tryz.underlying9 rfl rfl rfl hy54)) ?_;refine uB (fun hb55 => ?_) fun hb55 => ?_
       ·refine oG (vI (((litS p (k)).2 + 1 : Nat) : Int)) rfl (ex_add rfl rfl rfl (by rw [i64_in (by omega)]; omega)) ?_;refine xC gmcallable182 rfl ((globLiteral B _ _ p (((litS p (k)).2 + 1 : Nat)) (by omega) hp hv).mono ?_) rfl;rintro e w56 ⟨rfl, hv⟩;apply eR;have hlg2 := litS_gt p (((litS p (k)).2 + 1 : Nat));have hll2 := litS_le p (show ((litS p (k)).2 + 1 : Nat) < p.length by omega);apply uN;exact then_normal (hJ47 ((litS p (((litS p (k)).2 + 1 : Nat))).1) ((litS p (((litS p (k)).2 + 1 : Nat))).2) _ _ _ _ _ _ _ _ _ _ _ _ _ _ _ _ _ _ _ _ _ _ _ _ _ _ (if_pos ⟨by omega, by omega, by omega⟩) hv)
       refine then_normal (hJ47 ((litS p (k)).1) ((litS p (k)).2) _ _ _ _ _ _ _ _ _ _ _ _ _ _ _ _ _ _ _ _ _ _ _ _ _ _ (if_neg (by omega)) hv)
      exact then_normal (hJ47 ((litS p (k)).1) ((litS p (k)).2) _ _ _ _ _ _ _ _ _ _ _ _ _ _ _ _ _ _ _ _ _ _ _ _ _ _ (if_neg (by omega)) hv)
     exact then_normal (hJ47 ((litS p (k)).1) ((litS p (k)).2) _ _ _ _ _ _ _ _ _ _ _ _ _ _ _ _ _ _ _ _ _ _ _ _ _ _ (if_neg (by omega)) hv)
    intro _ _;refine oG (.agg #[.bool false, .int .u64 0, .int .u64 0, .int .u64 0, .int .u64 0]) rfl (ex_buildN (vs := #[]) rfl (by simp only [List.map_toArray, List.map_nil]) (by kernel_rfl)) ?_;refine xS 1 rfl hv glsz238 rfl (by exact ⟨rfl, rfl, rfl, rfl, rfl, trivial⟩) (fun w58 hv => ?_);simp only [zS, zO, sp] at hv;apply uN;refine bodyPost_ret (res_cell3 rfl rfl (lM 1 glwd238 hv rfl rfl rfl rfl)) rfl ?_;have e9 : clsS p i = none := by
     rw [clsS_of (clsS_hyp hneg hk0), hcl, classS_end p (by omega)]
    exact ⟨⟨false, w0⟩, 0, false, rfl, rfl, rfl, .inr ⟨rfl, e9⟩, (hv.kp [] 0 2)⟩
  apply uN;intro _ _;apply uN;refine wpIn_cond_split (t := neg) rfl (fun hc60 => ?_) (fun hc60 => ?_)
  ·apply uN;refine oG (vI ((i + 1 : Nat) : Int)) rfl (ex_add rfl rfl rfl (by rw [i64_in (by omega)]; omega)) ?_;refine then_normal (hJ9 (i + 1 : Nat) _ _ _ _ (.inl ⟨hc60, rfl⟩) hv)
  apply uN;refine then_normal (hJ9 i _ _ _ _ (.inr ⟨hc60, rfl⟩) hv)
 have hw0 : ([.bool false, .int .u64 0, .int .u64 0, .int .u64 0, .int .u64 0]) = Value.bool false :: wordsV w0 := rfl;rw [hw0] at hv;apply uN;refine oG (vI (p.length : Int)) rfl (ex_lenStr Tryz.underlying9 rfl rfl) ?_;refine uB (fun hb61 => ?_) fun hb61 => ?_
 ·obtain ⟨y62, hy62⟩ : ∃ y, p[i]? = some y := ⟨_, List.getElem?_eq_getElem (show i < p.length by omega)⟩;have hy62c := chr_at hy62;refine oG (.int .u8 (chr p (i) : Int)) rfl ((by rw [hy62c]; exact ex_sidx0 Tryz.underlying9 rfl rfl rfl hy62)) ?_;refine uB (fun hb63 => ?_) fun hb63 => ?_
  ·exact then_normal (hJ7 true _ _ _ _ _ _ _ _ _ _ _ (⟨fun _ => ⟨by omega, by omega⟩, fun _ => rfl⟩) hv)
  exact then_normal (hJ7 false _ _ _ _ _ _ _ _ _ _ _ (⟨fun h9 => (by cases h9), fun h9 => (by omega)⟩) hv)
 refine then_normal (hJ7 false _ _ _ _ _ _ _ _ _ _ _ (⟨fun h9 => (by cases h9), fun h9 => (by omega)⟩) hv)
theorem gdmk238 : (Tryz.prog.info? 238).map (fun i => (i.zero, i.size, i.bytes)) = some (some (.agg #[.bool false, .int .u64 0, .int .u64 0, .int .u64 0, .int .u64 0]), 5, 40) := by kernel_rfl
theorem gdel233 : Elem Tryz.prog 233 238 (.agg #[.bool false, .int .u64 0, .int .u64 0, .int .u64 0, .int .u64 0]) 5 40 := elem_of Tryz.underlying233 gdmk238 (by rfl) (by decide)
theorem gdcallable164 : Callable Tryz.prog 164 := cb Tryz.func164 (by kernel_rfl)
theorem gdcallable165 : Callable Tryz.prog 165 := cb Tryz.func165 (by kernel_rfl)
theorem gdal238 : AL Tryz.prog 238 [.bool false, .int .u64 0, .int .u64 0, .int .u64 0, .int .u64 0] := fun w => by kernel_rfl
theorem gdcallable166 : Callable Tryz.prog 166 := cb Tryz.func166 (by kernel_rfl)
theorem globDivide (B : Base) (H : List Res) (w : World) (p : List UInt8) (hp : p.length ≤ 1000000) (hv : Inv B H w) :
  Calls Tryz.prog 142 #[vS p] w fun e' w' => ∃ D ra rc q, B.Le D ∧ e' = .returned (.slice ra q.length rc) ∧ divS p true 0 = q ∧ q.length ≤ p.length ∧ PartsOk q ∧ SliceOk ra q.length rc ∧ RdV D [] ra (q.flatMap partC) ∧ Inv D H w' := by
 refine cW Tryz.func142 rfl Tryz.ntmps142 ?_;simp only [al];apply uN;intro _ _;apply uN;intro _ _;apply uN;intro _ _;apply uN;intro _ _ _ _;apply uN
 gi_loopw [3, 4, 5] (fun x3 x4 x5 wr => ∃ (i : Nat) (q : List Part) (e : Bool) (ra : Option Addr) (rc : Nat), x3 = .slice ra q.length rc ∧ x4 = .bool e ∧ x5 = vI i ∧ i ≤ p.length ∧ q.length ≤ i ∧ PartsOk q ∧ divS p true 0 = q ++ divS p e i ∧ Inv B (Res.row 238 5 (.slice ra q.length rc) q.length (q.flatMap partC) :: H) wr) (fun x3 x4 x5 _ => p.length - (intOf x5).toNat)
 case atStart => exact ⟨0, [], true, none, 0, rfl, rfl, rfl, Nat.zero_le _, Nat.le_refl _, (fun x h => (by cases h)), rfl, hv.rowNil 238 5⟩
 case round =>
  obtain ⟨i, q, e, ra, rc, rfl, rfl, rfl, hi, hq, hpo, hdv, hv⟩ := hrel;apply uN;intro _ _ _ _;refine oG (vI (p.length : Int)) rfl (ex_lenStr Tryz.underlying9 rfl rfl) ?_;refine uB (fun hb9 => ?_) fun hb9 => ?_
  ·intro _ _;obtain ⟨y11, hy11⟩ : ∃ y, p[i]? = some y := ⟨_, List.getElem?_eq_getElem (show i < p.length by omega)⟩;have hy11c := chr_at hy11;refine oG (.int .u8 (chr p (i) : Int)) rfl ((by rw [hy11c]; exact ex_sidx0 Tryz.underlying9 rfl rfl rfl hy11)) ?_;intro _ _;refine oG (vI ((i + 1 : Nat) : Int)) rfl (ex_add rfl rfl rfl (by rw [i64_in (by omega)]; omega)) ?_;intro _ _;refine uB (fun hb14 => ?_) fun hb14 => ?_
   ·refine oG (.agg #[.bool true, .int .u64 0, .int .u64 0, .int .u64 0, .int .u64 0]) rfl (ex_buildN (vs := #[(0, .bool true)]) rfl (by simp only [List.map_toArray, List.map_cons, List.map_nil]; rfl) (by kernel_rfl)) ?_;refine sl_rowAgg (L := [.bool true, .int .u64 0, .int .u64 0, .int .u64 0, .int .u64 0]) tV (wn rfl) rfl rfl hv gdel233 rfl (by decide) (fun b15 w16 hv => ?_);simp only [zP, po];replace hv := hv.front 1 rfl;simp only [eS, eZ] at hv;refine sl_append (news := [.bool true, .int .u64 0, .int .u64 0, .int .u64 0, .int .u64 0]) tV (wn rfl) rfl rfl rfl gdel233 hv (ok_full (by omega)) rfl (rd_all (hv.get 1 rfl)) (by intro u hu; simp only [List.mem_cons, List.not_mem_nil, or_false] at hu; rcases hu with rfl | rfl | rfl | rfl | rfl <;> rfl) (by unfold maxLen; omega) (by omega) (fun rv17 w20 hv => ?_);obtain ⟨ra18, rc19, rfl⟩ := row_slice hv.head;apply uN;refine then_normal ?_
    go_roundw
    case rel => exact ⟨i + 1, q ++ [starP], e, _, _, by rw [List.length_append, List.length_singleton], rfl, rfl, by omega, by rw [List.length_append, List.length_singleton]; omega, fun x9 h9 => (List.mem_append.1 h9).elim (hpo x9) (fun h8 => by rw [List.mem_singleton.1 h8]; exact rfl), by rw [hdv, divS_star (by omega) (by omega), List.append_assoc]; rfl, by rw [List.length_append, List.length_singleton, ← parts_snoc]; exact (hv.kp [] 1 1)⟩
    case measure => show p.length - ((i + 1 : Nat) : Int).toNat < p.length - ((i : Int)).toNat; omega
   intro _ _;refine uB (fun hb22 => ?_) fun hb22 => ?_
   ·refine xC gdcallable164 rfl ((globAny B _ _ hv).mono ?_) rfl;rintro e w23 ⟨rfl, hv⟩;apply eR;simp only [zP, po];refine sl_rowAgg (L := [.bool anyP.star, wv (anyP.ws.getD 0 0#64), wv (anyP.ws.getD 1 0#64), wv (anyP.ws.getD 2 0#64), wv (anyP.ws.getD 3 0#64)]) tV (wn rfl) rfl rfl hv gdel233 rfl (by decide) (fun b24 w25 hv => ?_);simp only [zP, po];replace hv := hv.front 1 rfl;simp only [eS, eZ] at hv;refine sl_append (news := [.bool anyP.star, wv (anyP.ws.getD 0 0#64), wv (anyP.ws.getD 1 0#64), wv (anyP.ws.getD 2 0#64), wv (anyP.ws.getD 3 0#64)]) tV (wn rfl) rfl rfl rfl gdel233 hv (ok_full (by omega)) rfl (rd_all (hv.get 1 rfl)) (by intro u hu; simp only [List.mem_cons, List.not_mem_nil, or_false] at hu; rcases hu with rfl | rfl | rfl | rfl | rfl <;> rfl) (by unfold maxLen; omega) (by omega) (fun rv26 w29 hv => ?_);obtain ⟨ra27, rc28, rfl⟩ := row_slice hv.head;apply uN;refine then_normal ?_
    go_roundw
    case rel => exact ⟨i + 1, q ++ [anyP], e, _, _, by rw [List.length_append, List.length_singleton], rfl, rfl, by omega, by rw [List.length_append, List.length_singleton]; omega, fun x9 h9 => (List.mem_append.1 h9).elim (hpo x9) (fun h8 => by rw [List.mem_singleton.1 h8]; exact invW_len), by rw [hdv, divS_any (by omega) (by omega), List.append_assoc]; rfl, by rw [List.length_append, List.length_singleton, ← parts_snoc]; exact (hv.kp [] 1 1)⟩
    case measure => show p.length - ((i + 1 : Nat) : Int).toNat < p.length - ((i : Int)).toNat; omega
   intro _ _;refine uB (fun hb31 => ?_) fun hb31 => ?_
   ·refine wpIn_cond_split (t := e) rfl (fun hc32 => ?_) (fun hc32 => ?_)
    ·apply uN;intro _ _;refine xC gdcallable165 rfl ((globClass B _ _ p hp (i + 1) (by omega) hv).mono ?_) rfl;rintro e w34 ⟨pp, j, b, rfl, hps, hpl, hcl, hv⟩;apply eR;rcases hcl with ⟨rfl, hcl⟩ | ⟨rfl, hcl⟩
     ·have hjl := clsS_le p hcl;apply uN;refine sl_alloc tV (wn rfl) rfl hv gdal238 (fun b35 w36 hv => ?_);simp only [zP, po];refine xS 0 rfl hv glsz238 rfl (by exact ⟨rfl, rfl, rfl, rfl, rfl, trivial⟩) (fun w37 hv => ?_);simp only [zO] at hv;apply uN;intro _ _ _ _;refine oG (.bool false) rfl (ex_not rfl rfl rfl) ?_;intro _ _;refine oL (.agg #[.bool pp.star, wv (pp.ws.getD 0 0#64), wv (pp.ws.getD 1 0#64), wv (pp.ws.getD 2 0#64), wv (pp.ws.getD 3 0#64)]) rfl (lM 0 glwd238 hv rfl rfl rfl rfl) ?_;refine sl_rowAgg (L := [.bool pp.star, wv (pp.ws.getD 0 0#64), wv (pp.ws.getD 1 0#64), wv (pp.ws.getD 2 0#64), wv (pp.ws.getD 3 0#64)]) tV (wn rfl) rfl rfl hv gdel233 rfl (by decide) (fun b41 w42 hv => ?_);simp only [zP, po];replace hv := hv.front 2 rfl;simp only [eS, eZ] at hv;refine sl_append (news := [.bool pp.star, wv (pp.ws.getD 0 0#64), wv (pp.ws.getD 1 0#64), wv (pp.ws.getD 2 0#64), wv (pp.ws.getD 3 0#64)]) tV (wn rfl) rfl rfl rfl gdel233 hv (ok_full (by omega)) rfl (rd_all (hv.get 1 rfl)) (by intro u hu; simp only [List.mem_cons, List.not_mem_nil, or_false] at hu; rcases hu with rfl | rfl | rfl | rfl | rfl <;> rfl) (by unfold maxLen; omega) (by omega) (fun rv43 w46 hv => ?_);obtain ⟨ra44, rc45, rfl⟩ := row_slice hv.head;apply uN;refine then_normal ?_
      go_roundw
      case rel => exact ⟨j, q ++ [pp], e, _, _, by rw [List.length_append, List.length_singleton], rfl, rfl, by omega, by rw [List.length_append, List.length_singleton]; omega, fun x9 h9 => (List.mem_append.1 h9).elim (hpo x9) (fun h8 => by rw [List.mem_singleton.1 h8]; exact hpl), by rw [hdv, divS_class (by omega) (by omega) hc32 hcl, List.append_assoc]; rw [show pp = (⟨false, pp.ws⟩ : Part) from by cases pp; simp only at hps; rw [hps]]; rfl, by rw [List.length_append, List.length_singleton, ← parts_snoc]; exact (hv.kp [] 1 2)⟩
      case measure => show p.length - ((j : Nat) : Int).toNat < p.length - ((i : Int)).toNat; omega
     apply uN;refine sl_alloc tV (wn rfl) rfl hv gdal238 (fun b47 w48 hv => ?_);simp only [zP, po];refine xS 0 rfl hv glsz238 rfl (by exact ⟨rfl, rfl, rfl, rfl, rfl, trivial⟩) (fun w49 hv => ?_);simp only [zO] at hv;apply uN;intro _ _ _ _;refine oG (.bool true) rfl (ex_not rfl rfl rfl) ?_;intro _ _;apply uN;intro _ _;refine xC gdcallable166 rfl ((globOne B _ _ (chr p (i)) (chr_lt p _) hv).mono ?_) rfl;rintro e w54 ⟨rfl, hv⟩;apply eR;simp only [zP, po];refine sl_rowAgg (L := [.bool ((oneP (chr p (i))).star), wv ((oneP (chr p (i))).ws.getD 0 0#64), wv ((oneP (chr p (i))).ws.getD 1 0#64), wv ((oneP (chr p (i))).ws.getD 2 0#64), wv ((oneP (chr p (i))).ws.getD 3 0#64)]) tV (wn rfl) rfl rfl hv gdel233 rfl (by decide) (fun b55 w56 hv => ?_);simp only [zP, po];replace hv := hv.front 2 rfl;simp only [eS, eZ] at hv;refine sl_append (news := [.bool ((oneP (chr p (i))).star), wv ((oneP (chr p (i))).ws.getD 0 0#64), wv ((oneP (chr p (i))).ws.getD 1 0#64), wv ((oneP (chr p (i))).ws.getD 2 0#64), wv ((oneP (chr p (i))).ws.getD 3 0#64)]) tV (wn rfl) rfl rfl rfl gdel233 hv (ok_full (by omega)) rfl (rd_all (hv.get 1 rfl)) (by intro u hu; simp only [List.mem_cons, List.not_mem_nil, or_false] at hu; rcases hu with rfl | rfl | rfl | rfl | rfl <;> rfl) (by unfold maxLen; omega) (by omega) (fun rv57 w60 hv => ?_);obtain ⟨ra58, rc59, rfl⟩ := row_slice hv.head;apply uN;refine then_normal ?_
     go_roundw
     case rel => exact ⟨i + 1, q ++ [oneP (chr p (i))], false, _, _, by rw [List.length_append, List.length_singleton], rfl, rfl, by omega, by rw [List.length_append, List.length_singleton]; omega, fun x9 h9 => (List.mem_append.1 h9).elim (hpo x9) (fun h8 => by rw [List.mem_singleton.1 h8]; exact addW_len), by rw [hdv, divS_none (by omega) (by omega) hc32 hcl, List.append_assoc]; rfl, by rw [List.length_append, List.length_singleton, ← parts_snoc]; exact (hv.kp [] 1 2)⟩
     case measure => show p.length - ((i + 1 : Nat) : Int).toNat < p.length - ((i : Int)).toNat; omega
    apply uN;intro _ _;refine uB (fun hb62 => ?_) fun hb62 => ?_
    ·refine oG (vI (p.length : Int)) rfl (ex_lenStr Tryz.underlying9 rfl rfl) ?_;refine uB (fun hb63 => ?_) fun hb63 => ?_
     ·intro _ _;obtain ⟨y65, hy65⟩ : ∃ y, p[i + 1]? = some y := ⟨_, List.getElem?_eq_getElem (show i + 1 < p.length by omega)⟩;have hy65c := chr_at hy65;refine oG (.int .u8 (chr p (i + 1) : Int)) rfl ((by rw [hy65c]; exact ex_sidx0 Tryz.underlying9 rfl rfl rfl hy65)) ?_;refine xC gdcallable166 rfl ((globOne B _ _ (chr p (i + 1)) (chr_lt p _) hv).mono ?_) rfl;rintro e w66 ⟨rfl, hv⟩;apply eR;simp only [zP, po];refine sl_rowAgg (L := [.bool ((oneP (chr p (i + 1))).star), wv ((oneP (chr p (i + 1))).ws.getD 0 0#64), wv ((oneP (chr p (i + 1))).ws.getD 1 0#64), wv ((oneP (chr p (i + 1))).ws.getD 2 0#64), wv ((oneP (chr p (i + 1))).ws.getD 3 0#64)]) tV (wn rfl) rfl rfl hv gdel233 rfl (by decide) (fun b67 w68 hv => ?_);simp only [zP, po];replace hv := hv.front 1 rfl;simp only [eS, eZ] at hv;refine sl_append (news := [.bool ((oneP (chr p (i + 1))).star), wv ((oneP (chr p (i + 1))).ws.getD 0 0#64), wv ((oneP (chr p (i + 1))).ws.getD 1 0#64), wv ((oneP (chr p (i + 1))).ws.getD 2 0#64), wv ((oneP (chr p (i + 1))).ws.getD 3 0#64)]) tV (wn rfl) rfl rfl rfl gdel233 hv (ok_full (by omega)) rfl (rd_all (hv.get 1 rfl)) (by intro u hu; simp only [List.mem_cons, List.not_mem_nil, or_false] at hu; rcases hu with rfl | rfl | rfl | rfl | rfl <;> rfl) (by unfold maxLen; omega) (by omega) (fun rv69 w72 hv => ?_);obtain ⟨ra70, rc71, rfl⟩ := row_slice hv.head;apply uN;refine oG (vI (((i + 1 : Nat) + 1 : Nat) : Int)) rfl (ex_add rfl rfl rfl (by rw [i64_in (by omega)]; omega)) ?_;refine then_normal ?_
      go_roundw
      case rel => exact ⟨i + 2, q ++ [oneP (chr p (i + 1))], e, _, _, by rw [List.length_append, List.length_singleton], rfl, rfl, by omega, by rw [List.length_append, List.length_singleton]; omega, fun x9 h9 => (List.mem_append.1 h9).elim (hpo x9) (fun h8 => by rw [List.mem_singleton.1 h8]; exact addW_len), by rw [hdv, divS_quote (by omega) (by omega) (by omega), List.append_assoc]; rfl, by rw [List.length_append, List.length_singleton, ← parts_snoc]; exact (hv.kp [] 1 1)⟩
      case measure => show p.length - ((i + 2 : Nat) : Int).toNat < p.length - ((i : Int)).toNat; omega
     refine xC gdcallable166 rfl ((globOne B _ _ (chr p (i)) (chr_lt p _) hv).mono ?_) rfl;rintro e w73 ⟨rfl, hv⟩;apply eR;simp only [zP, po];refine sl_rowAgg (L := [.bool ((oneP (chr p (i))).star), wv ((oneP (chr p (i))).ws.getD 0 0#64), wv ((oneP (chr p (i))).ws.getD 1 0#64), wv ((oneP (chr p (i))).ws.getD 2 0#64), wv ((oneP (chr p (i))).ws.getD 3 0#64)]) tV (wn rfl) rfl rfl hv gdel233 rfl (by decide) (fun b74 w75 hv => ?_);simp only [zP, po];replace hv := hv.front 1 rfl;simp only [eS, eZ] at hv;refine sl_append (news := [.bool ((oneP (chr p (i))).star), wv ((oneP (chr p (i))).ws.getD 0 0#64), wv ((oneP (chr p (i))).ws.getD 1 0#64), wv ((oneP (chr p (i))).ws.getD 2 0#64), wv ((oneP (chr p (i))).ws.getD 3 0#64)]) tV (wn rfl) rfl rfl rfl gdel233 hv (ok_full (by omega)) rfl (rd_all (hv.get 1 rfl)) (by intro u hu; simp only [List.mem_cons, List.not_mem_nil, or_false] at hu; rcases hu with rfl | rfl | rfl | rfl | rfl <;> rfl) (by unfold maxLen; omega) (by omega) (fun rv76 w79 hv => ?_);obtain ⟨ra77, rc78, rfl⟩ := row_slice hv.head;apply uN;refine then_normal ?_
     go_roundw
     case rel => exact ⟨i + 1, q ++ [oneP (chr p (i))], e, _, _, by rw [List.length_append, List.length_singleton], rfl, rfl, by omega, by rw [List.length_append, List.length_singleton]; omega, fun x9 h9 => (List.mem_append.1 h9).elim (hpo x9) (fun h8 => by rw [List.mem_singleton.1 h8]; exact addW_len), by rw [hdv, divS_one (by omega) (by omega) (by omega) (fun h9 => by rw [hc32] at h9; exact absurd h9.2 (by decide)) (fun h9 => by omega), List.append_assoc]; rfl, by rw [List.length_append, List.length_singleton, ← parts_snoc]; exact (hv.kp [] 1 1)⟩
     case measure => show p.length - ((i + 1 : Nat) : Int).toNat < p.length - ((i : Int)).toNat; omega
    refine xC gdcallable166 rfl ((globOne B _ _ (chr p (i)) (chr_lt p _) hv).mono ?_) rfl;rintro e w80 ⟨rfl, hv⟩;apply eR;simp only [zP, po];refine sl_rowAgg (L := [.bool ((oneP (chr p (i))).star), wv ((oneP (chr p (i))).ws.getD 0 0#64), wv ((oneP (chr p (i))).ws.getD 1 0#64), wv ((oneP (chr p (i))).ws.getD 2 0#64), wv ((oneP (chr p (i))).ws.getD 3 0#64)]) tV (wn rfl) rfl rfl hv gdel233 rfl (by decide) (fun b81 w82 hv => ?_);simp only [zP, po];replace hv := hv.front 1 rfl;simp only [eS, eZ] at hv;refine sl_append (news := [.bool ((oneP (chr p (i))).star), wv ((oneP (chr p (i))).ws.getD 0 0#64), wv ((oneP (chr p (i))).ws.getD 1 0#64), wv ((oneP (chr p (i))).ws.getD 2 0#64), wv ((oneP (chr p (i))).ws.getD 3 0#64)]) tV (wn rfl) rfl rfl rfl gdel233 hv (ok_full (by omega)) rfl (rd_all (hv.get 1 rfl)) (by intro u hu; simp only [List.mem_cons, List.not_mem_nil, or_false] at hu; rcases hu with rfl | rfl | rfl | rfl | rfl <;> rfl) (by unfold maxLen; omega) (by omega) (fun rv83 w86 hv => ?_);obtain ⟨ra84, rc85, rfl⟩ := row_slice hv.head;apply uN;refine then_normal ?_
    go_roundw
    case rel => exact ⟨i + 1, q ++ [oneP (chr p (i))], e, _, _, by rw [List.length_append, List.length_singleton], rfl, rfl, by omega, by rw [List.length_append, List.length_singleton]; omega, fun x9 h9 => (List.mem_append.1 h9).elim (hpo x9) (fun h8 => by rw [List.mem_singleton.1 h8]; exact addW_len), by rw [hdv, divS_one (by omega) (by omega) (by omega) (fun h9 => by rw [hc32] at h9; exact absurd h9.2 (by decide)) (fun h9 => by omega), List.append_assoc]; rfl, by rw [List.length_append, List.length_singleton, ← parts_snoc]; exact (hv.kp [] 1 1)⟩
    case measure => show p.length - ((i + 1 : Nat) : Int).toNat < p.length - ((i : Int)).toNat; omega
   intro _ _;refine uB (fun hb88 => ?_) fun hb88 => ?_
   ·refine oG (vI (p.length : Int)) rfl (ex_lenStr Tryz.underlying9 rfl rfl) ?_;refine uB (fun hb89 => ?_) fun hb89 => ?_
    ·intro _ _;obtain ⟨y91, hy91⟩ : ∃ y, p[i + 1]? = some y := ⟨_, List.getElem?_eq_getElem (show i + 1 < p.length by omega)⟩;have hy91c := chr_at hy91;refine oG (.int .u8 (chr p (i + 1) : Int)) rfl ((by rw [hy91c]; exact ex_sidx0 Tryz.underlying9 rfl rfl rfl hy91)) ?_;refine xC gdcallable166 rfl ((globOne B _ _ (chr p (i + 1)) (chr_lt p _) hv).mono ?_) rfl;rintro e w92 ⟨rfl, hv⟩;apply eR;simp only [zP, po];refine sl_rowAgg (L := [.bool ((oneP (chr p (i + 1))).star), wv ((oneP (chr p (i + 1))).ws.getD 0 0#64), wv ((oneP (chr p (i + 1))).ws.getD 1 0#64), wv ((oneP (chr p (i + 1))).ws.getD 2 0#64), wv ((oneP (chr p (i + 1))).ws.getD 3 0#64)]) tV (wn rfl) rfl rfl hv gdel233 rfl (by decide) (fun b93 w94 hv => ?_);simp only [zP, po];replace hv := hv.front 1 rfl;simp only [eS, eZ] at hv;refine sl_append (news := [.bool ((oneP (chr p (i + 1))).star), wv ((oneP (chr p (i + 1))).ws.getD 0 0#64), wv ((oneP (chr p (i + 1))).ws.getD 1 0#64), wv ((oneP (chr p (i + 1))).ws.getD 2 0#64), wv ((oneP (chr p (i + 1))).ws.getD 3 0#64)]) tV (wn rfl) rfl rfl rfl gdel233 hv (ok_full (by omega)) rfl (rd_all (hv.get 1 rfl)) (by intro u hu; simp only [List.mem_cons, List.not_mem_nil, or_false] at hu; rcases hu with rfl | rfl | rfl | rfl | rfl <;> rfl) (by unfold maxLen; omega) (by omega) (fun rv95 w98 hv => ?_);obtain ⟨ra96, rc97, rfl⟩ := row_slice hv.head;apply uN;refine oG (vI (((i + 1 : Nat) + 1 : Nat) : Int)) rfl (ex_add rfl rfl rfl (by rw [i64_in (by omega)]; omega)) ?_;refine then_normal ?_
     go_roundw
     case rel => exact ⟨i + 2, q ++ [oneP (chr p (i + 1))], e, _, _, by rw [List.length_append, List.length_singleton], rfl, rfl, by omega, by rw [List.length_append, List.length_singleton]; omega, fun x9 h9 => (List.mem_append.1 h9).elim (hpo x9) (fun h8 => by rw [List.mem_singleton.1 h8]; exact addW_len), by rw [hdv, divS_quote (by omega) (by omega) (by omega), List.append_assoc]; rfl, by rw [List.length_append, List.length_singleton, ← parts_snoc]; exact (hv.kp [] 1 1)⟩
     case measure => show p.length - ((i + 2 : Nat) : Int).toNat < p.length - ((i : Int)).toNat; omega
    refine xC gdcallable166 rfl ((globOne B _ _ (chr p (i)) (chr_lt p _) hv).mono ?_) rfl;rintro e w99 ⟨rfl, hv⟩;apply eR;simp only [zP, po];refine sl_rowAgg (L := [.bool ((oneP (chr p (i))).star), wv ((oneP (chr p (i))).ws.getD 0 0#64), wv ((oneP (chr p (i))).ws.getD 1 0#64), wv ((oneP (chr p (i))).ws.getD 2 0#64), wv ((oneP (chr p (i))).ws.getD 3 0#64)]) tV (wn rfl) rfl rfl hv gdel233 rfl (by decide) (fun b100 w101 hv => ?_);simp only [zP, po];replace hv := hv.front 1 rfl;simp only [eS, eZ] at hv;refine sl_append (news := [.bool ((oneP (chr p (i))).star), wv ((oneP (chr p (i))).ws.getD 0 0#64), wv ((oneP (chr p (i))).ws.getD 1 0#64), wv ((oneP (chr p (i))).ws.getD 2 0#64), wv ((oneP (chr p (i))).ws.getD 3 0#64)]) tV (wn rfl) rfl rfl rfl gdel233 hv (ok_full (by omega)) rfl (rd_all (hv.get 1 rfl)) (by intro u hu; simp only [List.mem_cons, List.not_mem_nil, or_false] at hu; rcases hu with rfl | rfl | rfl | rfl | rfl <;> rfl) (by unfold maxLen; omega) (by omega) (fun rv102 w105 hv => ?_);obtain ⟨ra103, rc104, rfl⟩ := row_slice hv.head;apply uN;refine then_normal ?_
    go_roundw
    case rel => exact ⟨i + 1, q ++ [oneP (chr p (i))], e, _, _, by rw [List.length_append, List.length_singleton], rfl, rfl, by omega, by rw [List.length_append, List.length_singleton]; omega, fun x9 h9 => (List.mem_append.1 h9).elim (hpo x9) (fun h8 => by rw [List.mem_singleton.1 h8]; exact addW_len), by rw [hdv, divS_one (by omega) (by omega) (by omega) (fun h9 => by omega) (fun h9 => by omega), List.append_assoc]; rfl, by rw [List.length_append, List.length_singleton, ← parts_snoc]; exact (hv.kp [] 1 1)⟩
    case measure => show p.length - ((i + 1 : Nat) : Int).toNat < p.length - ((i : Int)).toNat; omega
   refine xC gdcallable166 rfl ((globOne B _ _ (chr p (i)) (chr_lt p _) hv).mono ?_) rfl;rintro e w106 ⟨rfl, hv⟩;apply eR;simp only [zP, po];refine sl_rowAgg (L := [.bool ((oneP (chr p (i))).star), wv ((oneP (chr p (i))).ws.getD 0 0#64), wv ((oneP (chr p (i))).ws.getD 1 0#64), wv ((oneP (chr p (i))).ws.getD 2 0#64), wv ((oneP (chr p (i))).ws.getD 3 0#64)]) tV (wn rfl) rfl rfl hv gdel233 rfl (by decide) (fun b107 w108 hv => ?_);simp only [zP, po];replace hv := hv.front 1 rfl;simp only [eS, eZ] at hv;refine sl_append (news := [.bool ((oneP (chr p (i))).star), wv ((oneP (chr p (i))).ws.getD 0 0#64), wv ((oneP (chr p (i))).ws.getD 1 0#64), wv ((oneP (chr p (i))).ws.getD 2 0#64), wv ((oneP (chr p (i))).ws.getD 3 0#64)]) tV (wn rfl) rfl rfl rfl gdel233 hv (ok_full (by omega)) rfl (rd_all (hv.get 1 rfl)) (by intro u hu; simp only [List.mem_cons, List.not_mem_nil, or_false] at hu; rcases hu with rfl | rfl | rfl | rfl | rfl <;> rfl) (by unfold maxLen; omega) (by omega) (fun rv109 w112 hv => ?_);obtain ⟨ra110, rc111, rfl⟩ := row_slice hv.head;apply uN;refine then_normal ?_
   go_roundw
   case rel => exact ⟨i + 1, q ++ [oneP (chr p (i))], e, _, _, by rw [List.length_append, List.length_singleton], rfl, rfl, by omega, by rw [List.length_append, List.length_singleton]; omega, fun x9 h9 => (List.mem_append.1 h9).elim (hpo x9) (fun h8 => by rw [List.mem_singleton.1 h8]; exact addW_len), by rw [hdv, divS_one (by omega) (by omega) (by omega) (fun h9 => by omega) (fun h9 => by omega), List.append_assoc]; rfl, by rw [List.length_append, List.length_singleton, ← parts_snoc]; exact (hv.kp [] 1 1)⟩
   case measure => show p.length - ((i + 1 : Nat) : Int).toNat < p.length - ((i : Int)).toNat; omega
  intro _ _;apply uN;refine bR rfl rfl ?_;obtain rfl : i = p.length := by omega
  rw [divS_end (ended := e) (i := p.length) (by omega), List.append_nil] at hdv;obtain ⟨D, hD, hv, hro, hoko, -⟩ := (hv).rowBy;exact ⟨D, ra, rc, q, hD, rfl, hdv, hq, hpo, hoko, hro, hv⟩
theorem part_words {B : Base} {b off : Nat} {x : Part} (hl : x.ws.length = 4) (h : Reads B [] b off (partC x)) : Reads B [] b (off + 1) (wordsV x.ws) := fun C K w hB hR hv j v hj => by
 rw [← partF_eq hl] at h;have := h C K w hB hR hv (j + 1) v (by rw [← hj]; rfl);rw [show off + (j + 1) = off + 1 + j by omega] at this;exact this
theorem gdcallable142 : Callable Tryz.prog 142 := cb Tryz.func142 (by kernel_rfl)
theorem gdes233 (w : World) : (sizeOf (Tryz.prog.elem 233)).run Tryz.prog w = .ok 5 w := by kernel_rfl
theorem gdfa238_0 : FA Tryz.prog 238 0 0 := fun w b o => by kernel_rfl
theorem gdna4 (w : World) : (isAgg 4).run Tryz.prog w = .ok false w := by kernel_rfl
theorem gdcallable143 : Callable Tryz.prog 143 := cb Tryz.func143 (by kernel_rfl)
theorem globMatch (B : Base) (H : List Res) (w : World) (p : List UInt8) (hp : p.length ≤ 1000000) (s : List UInt8) (hs : s.length ≤ 1000000) (hv : Inv B H w) :
  Calls Tryz.prog 127 #[vS p, vS s] w fun e' w' => ∃ b, e' = .returned (.bool b) ∧ (b = true ↔ MatchP (divS p true 0) s) ∧ Inv B H w' := by
 refine cW Tryz.func127 rfl Tryz.ntmps127 ?_;simp only [al];apply uN;intro _ _;apply uN;intro _ _;refine xC gdcallable142 rfl ((globDivide B _ _ p hp hv).mono ?_) rfl;rintro e w3 ⟨D, ra, rc, q, hD, rfl, hdv, hql, hpo, hoko, hrq, hv⟩;apply eR;have hS : s.length ≤ 1000000 := hs;apply uN;intro _ _;apply uN;intro _ _;apply uN;intro _ _
 gi_loopw [6, 7, 8, 9] (fun x6 x7 x8 x9 wr => ∃ (now i st fr : Nat), x6 = vI now ∧ x7 = vI i ∧ x8 = vI ((st : Int) - 1) ∧ x9 = vI fr ∧ GInv q s now i st fr ∧ fr ≤ i ∧ Inv D H wr) (fun x6 x7 x8 x9 _ => ((q.length + 1 - (intOf x8 + 1).toNat) * (s.length + 1) + (s.length - (intOf x9).toNat)) * (s.length + 1) + (s.length - (intOf x7).toNat))
 case atStart => exact ⟨0, 0, 0, 0, rfl, rfl, rfl, rfl, GInv.start, Nat.le_refl _, hv⟩
 case round =>
  obtain ⟨now, i, st, fr, rfl, rfl, rfl, rfl, hgi, hfi, hv⟩ := hrel;have hn1 := hgi.n1;have hn2 := hgi.n2;have hn3 := hgi.n3;have hn4 := hgi.n4;apply uN;intro _ _ _ _;refine oG (vI (s.length : Int)) rfl (ex_lenStr Tryz.underlying9 rfl rfl) ?_;refine uB (fun hb10 => ?_) fun hb10 => ?_
  ·intro _ _;refine oG (vI (q.length : Int)) rfl (ex_len0 Tryz.underlying233 rfl rfl) ?_;refine uB (fun hb12 => ?_) fun hb12 => ?_
   ·obtain ⟨x, hx⟩ : ∃ x, q[now]? = some x := ⟨_, List.getElem?_eq_getElem (by omega)⟩;obtain ⟨bb, bo, had, hrdx⟩ := part_reads hrq hx;subst had;have hxl := hpo x (List.mem_of_getElem? hx);refine oG (.pointer (some ⟨bb, bo + now * 5, none⟩)) rfl (ex_index rfl rfl rfl (run_idx (k := now) Tryz.underlying233 gdes233 (by omega))) ?_;refine oF (.pointer (some ⟨bb, bo + now * 5, none⟩)) rfl (gdfa238_0 _ _ _) ?_;refine oL _ rfl (run_load1 gdna4 (hrdx _ _ _ (Base.Le.refl _) no_res hv 0 _ rfl)) ?_;refine wpIn_cond_split (t := x.star) rfl (fun hc13 => ?_) (fun hc13 => ?_)
    ·apply uN;intro _ _;have hxs : x.star = true := hc13;apply uN;refine oG (vI ((now + 1 : Nat) : Int)) rfl (ex_add rfl rfl rfl (by rw [i64_in (by omega)]; omega)) ?_;refine then_normal ?_
     go_roundw
     case rel => exact ⟨now + 1, i, now + 1, i, rfl, rfl, by congr 1; omega, rfl, hgi.star hx hxs, by omega, hv⟩
     case measure => show ((q.length + 1 - ((now : Int) + 1).toNat) * (s.length + 1) + (s.length - ((i : Int)).toNat)) * (s.length + 1) + (s.length - ((i : Int)).toNat) < ((q.length + 1 - (((st : Int) - 1) + 1).toNat) * (s.length + 1) + (s.length - ((fr : Int)).toNat)) * (s.length + 1) + (s.length - ((i : Int)).toNat); have hn1 := hgi.n1; have hn2 := hgi.n2; have hn3 := hgi.n3; refine lex3 (by omega) (by omega) ?_; omega
    apply uN;intro _ _;refine rW mixed [12] [0,1,2,3,4,5,6,7,8,9,10,11,12,13,14] 76 rfl (by kernel_rfl) hv ?_;simp only [qm, opAt];apply uN;refine dG (vI (q.length : Int)) rfl (ex_len0 Tryz.underlying233 rfl rfl) ?_;simp only [zP, po];refine dG (.bool true) rfl (ex_lss rfl rfl rfl (qT hb12)) ?_;apply uN;refine dG (.pointer (some ⟨bb, bo + now * 5, none⟩)) rfl (ex_index rfl rfl rfl (run_idx (k := now) Tryz.underlying233 gdes233 (by omega))) ?_;refine dG (.pointer (some ⟨bb, bo + now * 5 + 1, none⟩)) rfl (ex_field rfl rfl (glfa238_1 _ _ _)) ?_;apply uN;obtain ⟨y16, hy16⟩ : ∃ y, s[i]? = some y := ⟨_, List.getElem?_eq_getElem (show i < s.length by omega)⟩;have hy16c := chr_at hy16;refine dG (.int .u8 (chr s (i) : Int)) rfl ((by rw [hy16c]; exact ex_sidx0 Tryz.underlying9 rfl rfl rfl hy16)) ?_;simp only [zP, po];refine dS rfl fun w17 hv => mC gdcallable143 rfl ((setHasC D _ _ bb (bo + now * 5 + 1) x.ws hxl (part_words hxl hrdx) (chr s i) (chr_lt s _) hv).mono ?_) rfl
    rintro e w18 ⟨rfl, hv⟩;refine ⟨_, rfl, dW hv ?_⟩;apply uN;refine dE fun w19 hv => ?_
    apply uN;refine wpIn_cond_split (t := hasW x.ws (chr s i)) rfl (fun hc20 => ?_) (fun hc20 => ?_)
    ·apply uN;intro _ _;have hxs := hc13;have hyc9 := hy16;have hxb : hasW x.ws y16.toNat = true := by rw [← hy16c]; exact hc20
     apply uN;refine oG (vI ((now + 1 : Nat) : Int)) rfl (ex_add rfl rfl rfl (by rw [i64_in (by omega)]; omega)) ?_;refine oG (vI ((i + 1 : Nat) : Int)) rfl (ex_add rfl rfl rfl (by rw [i64_in (by omega)]; omega)) ?_;refine then_normal ?_
     go_roundw
     case rel => exact ⟨now + 1, i + 1, st, fr, rfl, rfl, rfl, rfl, hgi.byte hx hxs hyc9 hxb, by omega, hv⟩
     case measure => show ((q.length + 1 - (((st : Int) - 1) + 1).toNat) * (s.length + 1) + (s.length - ((fr : Int)).toNat)) * (s.length + 1) + (s.length - (((i + 1 : Nat) : Int)).toNat) < ((q.length + 1 - (((st : Int) - 1) + 1).toNat) * (s.length + 1) + (s.length - ((fr : Int)).toNat)) * (s.length + 1) + (s.length - ((i : Int)).toNat); have hn1 := hgi.n1; have hn2 := hgi.n2; have hn3 := hgi.n3; refine lex3 (by omega) (by omega) ?_; omega
    apply uN;intro _ _;obtain ⟨y9, hyc9⟩ : ∃ y, s[i]? = some y := ⟨_, List.getElem?_eq_getElem (show i < s.length by omega)⟩;have hycc := chr_at hyc9;have hno : ∀ x9, q[now]? = some x9 → x9.star = false ∧ hasW x9.ws y9.toNat = false := fun x9 h9 => by
     rw [hx] at h9; cases h9;exact ⟨hc13, by rw [← hycc]; exact hc20⟩
    apply uN;refine uB (fun hb23 => ?_) fun hb23 => ?_
    ·intro _ _;refine oG (vI ((fr + 1 : Nat) : Int)) rfl (ex_add rfl rfl rfl (by rw [i64_in (by omega)]; omega)) ?_;refine oG (vI st) rfl (ex_add rfl rfl rfl (by rw [i64_in (by omega)]; omega)) ?_;refine then_normal ?_
     go_roundw
     case rel => exact ⟨st, fr + 1, st, fr + 1, rfl, rfl, rfl, rfl, hgi.back (by omega) hyc9 hno, by omega, hv⟩
     case measure => show ((q.length + 1 - (((st : Int) - 1) + 1).toNat) * (s.length + 1) + (s.length - (((fr + 1 : Nat) : Int)).toNat)) * (s.length + 1) + (s.length - (((fr + 1 : Nat) : Int)).toNat) < ((q.length + 1 - (((st : Int) - 1) + 1).toNat) * (s.length + 1) + (s.length - ((fr : Int)).toNat)) * (s.length + 1) + (s.length - ((i : Int)).toNat); have hn1 := hgi.n1; have hn2 := hgi.n2; have hn3 := hgi.n3; refine lex3 (by omega) (by omega) ?_; omega
    intro _ _;apply uN;refine bR rfl rfl ?_;subst hdv;exact ⟨false, rfl, ⟨fun h => (by cases h), fun h => absurd h (hgi.fail (by omega) hyc9 hno)⟩, hv.weak hD⟩
   intro _ _;refine rW mixed [12] [0,1,2,3,4,5,6,7,8,9,10,11,12,13,14] 76 rfl (by kernel_rfl) hv ?_;simp only [qm, opAt];apply uN;refine dG (vI (q.length : Int)) rfl (ex_len0 Tryz.underlying233 rfl rfl) ?_;simp only [zP, po];refine dG (.bool false) rfl (ex_lss rfl rfl rfl (qF hb12)) ?_;apply uN;refine dE fun w27 hv => ?_
   apply uN;intro _ _;obtain ⟨y9, hyc9⟩ : ∃ y, s[i]? = some y := ⟨_, List.getElem?_eq_getElem (show i < s.length by omega)⟩;have hycc := chr_at hyc9;have hno : ∀ x9, q[now]? = some x9 → x9.star = false ∧ hasW x9.ws y9.toNat = false := fun x9 h9 => by have := (List.getElem?_eq_some_iff.1 h9).1; omega
   apply uN;refine uB (fun hb29 => ?_) fun hb29 => ?_
   ·intro _ _;refine oG (vI ((fr + 1 : Nat) : Int)) rfl (ex_add rfl rfl rfl (by rw [i64_in (by omega)]; omega)) ?_;refine oG (vI st) rfl (ex_add rfl rfl rfl (by rw [i64_in (by omega)]; omega)) ?_;refine then_normal ?_
    go_roundw
    case rel => exact ⟨st, fr + 1, st, fr + 1, rfl, rfl, rfl, rfl, hgi.back (by omega) hyc9 hno, by omega, hv⟩
    case measure => show ((q.length + 1 - (((st : Int) - 1) + 1).toNat) * (s.length + 1) + (s.length - (((fr + 1 : Nat) : Int)).toNat)) * (s.length + 1) + (s.length - (((fr + 1 : Nat) : Int)).toNat) < ((q.length + 1 - (((st : Int) - 1) + 1).toNat) * (s.length + 1) + (s.length - ((fr : Int)).toNat)) * (s.length + 1) + (s.length - ((i : Int)).toNat); have hn1 := hgi.n1; have hn2 := hgi.n2; have hn3 := hgi.n3; refine lex3 (by omega) (by omega) ?_; omega
   intro _ _;apply uN;refine bR rfl rfl ?_;subst hdv;exact ⟨false, rfl, ⟨fun h => (by cases h), fun h => absurd h (hgi.fail (by omega) hyc9 hno)⟩, hv.weak hD⟩
  intro _ _;have hov := hgi.over (by omega);clear hgi
  gi_loopw [6] (fun x6 wr => ∃ (now : Nat), x6 = vI now ∧ now ≤ q.length ∧ (MatchP q s ↔ MatchP (q.drop now) []) ∧ Inv D H wr) (fun x6 _ => q.length - (intOf x6).toNat)
  case atStart => exact ⟨now, rfl, hn2, hov, hv⟩
  case round =>
   obtain ⟨now, rfl, hnq, hmt, hv⟩ := hrel;apply uN;intro _ _ _ _;refine oG (vI (q.length : Int)) rfl (ex_len0 Tryz.underlying233 rfl rfl) ?_;refine uB (fun hb36 => ?_) fun hb36 => ?_
   ·obtain ⟨x, hx⟩ : ∃ x, q[now]? = some x := ⟨_, List.getElem?_eq_getElem (by omega)⟩;obtain ⟨bb, bo, had, hrdx⟩ := part_reads hrq hx;subst had;have hxl := hpo x (List.mem_of_getElem? hx);refine oG (.pointer (some ⟨bb, bo + now * 5, none⟩)) rfl (ex_index rfl rfl rfl (run_idx (k := now) Tryz.underlying233 gdes233 (by omega))) ?_;refine oF (.pointer (some ⟨bb, bo + now * 5, none⟩)) rfl (gdfa238_0 _ _ _) ?_;refine oL _ rfl (run_load1 gdna4 (hrdx _ _ _ (Base.Le.refl _) no_res hv 0 _ rfl)) ?_;refine wpIn_cond_split (t := x.star) rfl (fun hc37 => ?_) (fun hc37 => ?_)
    ·apply uN;refine oG (vI ((now + 1 : Nat) : Int)) rfl (ex_add rfl rfl rfl (by rw [i64_in (by omega)]; omega)) ?_;refine then_normal ?_
     go_roundw
     case rel => exact ⟨now + 1, rfl, by omega, hmt.trans (tail_star hx hc37), hv⟩
     case measure => show q.length - (((now + 1 : Nat) : Int)).toNat < q.length - ((now : Int)).toNat; omega
    apply uN;intro _ _;refine oG (vI (q.length : Int)) rfl (ex_len0 Tryz.underlying233 rfl rfl) ?_;refine uB (fun hb39 => ?_) fun hb39 => ?_
    ·refine bR rfl rfl ?_;obtain rfl : now = q.length := by omega
     subst hdv;exact ⟨true, rfl, ⟨fun _ => hmt.2 ((matchP_over (Nat.le_refl _)).2 rfl), fun _ => rfl⟩, hv.weak hD⟩
    refine bR rfl rfl ?_;subst hdv;exact ⟨false, rfl, ⟨fun h => (by cases h), fun h => absurd (hmt.1 h) (matchP_nil hx hc37)⟩, hv.weak hD⟩
   intro _ _;refine oG (vI (q.length : Int)) rfl (ex_len0 Tryz.underlying233 rfl rfl) ?_;refine uB (fun hb41 => ?_) fun hb41 => ?_
   ·refine bR rfl rfl ?_;obtain rfl : now = q.length := by omega
    subst hdv;exact ⟨true, rfl, ⟨fun _ => hmt.2 ((matchP_over (Nat.le_refl _)).2 rfl), fun _ => rfl⟩, hv.weak hD⟩
   refine bR rfl rfl ?_;exfalso; omega
end Go.Proofs.YtgbhdfpobgefgaaGreatDoor
