/- zset.compare, zset.Right. -/
import Derived.Test.YtffmbdagjpdieaaSpB
import Derived.Test.YtffmbdagjpdieaaSpE
import Derived.Test.YtffmbdagjpdieaaRows
set_option maxRecDepth 100000
namespace Go.Proofs.Ytffmbdagjpdieaa
open Go.RowKit Go.Pm
def cmpI (a b : Int) : Int := if a < b then -1 else if a > b then 1 else 0
def cmpS (a b : List UInt8) : Int := if Op.bytesLess a b = true then -1 else if Op.bytesLess b a = true then 1 else 0
def orI (a b : Int) : Int := if a ≠ 0 then a else b
def cmpM (a b : Int × List UInt8) : Int := orI (cmpI a.1 b.1) (cmpS a.2 b.2)
set_option maxHeartbeats 2000000 in
theorem nanI (B : Base) (H : List Res) (w : World) (n : Int) (hv : Inv B H w) :
  Calls Try.prog 96 #[.int .i64 n] w fun e w' => e = .returned (.bool false) ∧ Inv B H w' := by
 refine (callsIn_wide (n := 5)).1 ?_
 refine callsIn_of_wp Try.func96 rfl trivial ?_
 simp only [Try.ntmps96, List.size_toArray, List.length_cons, List.length_nil, Nat.reduceAdd, Nat.reduceSub, Array.replicate_succ, Array.replicate_zero, List.push_toArray, List.append_toArray, List.nil_append, List.cons_append]
 refine sK fun K1 hK1 => rL ?_
 refine xA (.bool false) rfl rfl rfl ?_
 refine wL ?_
 simp only [zP, zI, zS, zO]
 refine tN (hK1 _ _ ?_)
 clear hK1 K1
 refine sK fun K2 hK2 => rL ?_
 refine xM (.int .i64 n) rfl rfl rfl ?_
 refine xM (.int .i64 n) rfl rfl rfl ?_
 refine xG (.bool false) rfl rfl (ex_neq (k := .i64) (m := n) (n := n) rfl rfl rfl (decide_eq_false (by simp))) ?_
 simp only [zP, zI, zS, zO]
 refine xA (.bool false) rfl rfl rfl ?_
 refine wL ?_
 simp only [zP, zI, zS, zO]
 refine tN (hK2 _ _ ?_)
 clear hK2 K2
 refine wpIn_ret ?_
 refine bR rfl rfl ?_
 exact ⟨rfl, hv⟩
set_option maxHeartbeats 2000000 in
theorem nanS (B : Base) (H : List Res) (w : World) (s : List UInt8) (hv : Inv B H w) :
  Calls Try.prog 97 #[.string ⟨s.toArray⟩] w fun e w' => e = .returned (.bool false) ∧ Inv B H w' := by
 refine (callsIn_wide (n := 5)).1 ?_
 refine callsIn_of_wp Try.func97 rfl trivial ?_
 simp only [Try.ntmps97, List.size_toArray, List.length_cons, List.length_nil, Nat.reduceAdd, Nat.reduceSub, Array.replicate_succ, Array.replicate_zero, List.push_toArray, List.append_toArray, List.nil_append, List.cons_append]
 refine sK fun K1 hK1 => rL ?_
 refine xA (.bool false) rfl rfl rfl ?_
 refine wL ?_
 simp only [zP, zI, zS, zO]
 refine tN (hK1 _ _ ?_)
 clear hK1 K1
 refine sK fun K2 hK2 => rL ?_
 refine xM (.string ⟨s.toArray⟩) rfl rfl rfl ?_
 refine xM (.string ⟨s.toArray⟩) rfl rfl rfl ?_
 refine xG (.bool false) rfl rfl (ex_sneq (s := s) (s' := s) rfl rfl rfl (decide_eq_false (by simp))) ?_
 simp only [zP, zI, zS, zO]
 refine xA (.bool false) rfl rfl rfl ?_
 refine wL ?_
 simp only [zP, zI, zS, zO]
 refine tN (hK2 _ _ ?_)
 clear hK2 K2
 refine wpIn_ret ?_
 refine bR rfl rfl ?_
 exact ⟨rfl, hv⟩
theorem s11callable96 : Callable Try.prog 96 := ⟨_, Try.func96, by kernel_rfl, by kernel_rfl⟩
set_option maxHeartbeats 2000000 in
theorem cmpInt (B : Base) (H : List Res) (w : World) (a b : Int) (hv : Inv B H w) :
  Calls Try.prog 94 #[.int .i64 a, .int .i64 b] w fun e w' => e = .returned (.int .i64 (cmpI a b)) ∧ Inv B H w' := by
 refine (callsIn_wide (n := 5)).1 ?_
 refine callsIn_of_wp Try.func94 rfl trivial ?_
 simp only [Try.ntmps94, List.size_toArray, List.length_cons, List.length_nil, Nat.reduceAdd, Nat.reduceSub, Array.replicate_succ, Array.replicate_zero, List.push_toArray, List.append_toArray, List.nil_append, List.cons_append]
 refine sK fun K1 hK1 => rL ?_
 refine xA (.int .i64 0) rfl rfl rfl ?_
 refine wL ?_
 simp only [zP, zI, zS, zO]
 refine tN (hK1 _ _ ?_)
 clear hK1 K1
 refine sK fun K2 hK2 => rL ?_
 refine xM (.int .i64 a) rfl rfl rfl ?_
 refine xC s11callable96 rfl rfl (l := [.int .i64 a]) rfl ((nanI B _ _ _ hv).mono ?_)
 rintro e w3 ⟨rfl, hv⟩
 refine ⟨_, rfl, ?_⟩
 refine xA (.bool false) rfl rfl rfl ?_
 refine wL ?_
 simp only [zP, zI, zS, zO]
 refine tN (hK2 _ _ ?_)
 clear hK2 K2
 refine sK fun K4 hK4 => rL ?_
 refine xM (.int .i64 b) rfl rfl rfl ?_
 refine xC s11callable96 rfl rfl (l := [.int .i64 b]) rfl ((nanI B _ _ _ hv).mono ?_)
 rintro e w5 ⟨rfl, hv⟩
 refine ⟨_, rfl, ?_⟩
 refine xA (.bool false) rfl rfl rfl ?_
 refine wL ?_
 simp only [zP, zI, zS, zO]
 refine tN (hK4 _ _ ?_)
 clear hK4 K4
 refine sK fun K6 hK6 => ?_
 refine sK fun K7 hK7 => rL ?_
 refine xM (.bool false) rfl rfl rfl ?_
 refine wL ?_
 simp only [zP, zI, zS, zO]
 refine tN (hK7 _ _ ?_)
 clear hK7 K7
 refine wpIn_cond_false rfl ?_
 refine wpIn_skip ?_
 refine tN (hK6 _ _ ?_)
 clear hK6 K6
 refine sK fun K8 hK8 => ?_
 refine sK fun K9 hK9 => rL ?_
 refine xM (.bool false) rfl rfl rfl ?_
 refine wL ?_
 simp only [zP, zI, zS, zO]
 refine tN (hK9 _ _ ?_)
 clear hK9 K9
 refine wpIn_cond_false rfl ?_
 refine wpIn_skip ?_
 refine tN (hK8 _ _ ?_)
 clear hK8 K8
 refine sK fun K10 hK10 => ?_
 refine sK fun K11 hK11 => rL ?_
 refine xM (.int .i64 a) rfl rfl rfl ?_
 refine xM (.int .i64 b) rfl rfl rfl ?_
 by_cases hb12 : a < b
 ·refine xG (.bool true) rfl rfl (ex_lss (k := .i64) (m := a) (n := b) rfl rfl rfl (decide_eq_true hb12)) ?_
  refine wL ?_
  simp only [zP, zI, zS, zO]
  refine tN (hK11 _ _ ?_)
  clear hK11 K11
  refine wpIn_cond_true rfl ?_
  refine sK fun K13 hK13 => rL ?_
  refine xA (.int .i64 (-1)) rfl rfl rfl ?_
  refine wL ?_
  simp only [zP, zI, zS, zO]
  refine tN (hK13 _ _ ?_)
  clear hK13 K13
  refine wpIn_ret ?_
  refine then_ret ?_
  clear hK10 K10
  refine bR rfl rfl ?_
  exact ⟨congrArg (fun b => Ending.returned (Value.int .i64 b)) (by unfold cmpI; simp [*]), hv⟩
 refine xG (.bool false) rfl rfl (ex_lss (k := .i64) (m := a) (n := b) rfl rfl rfl (decide_eq_false hb12)) ?_
 refine wL ?_
 simp only [zP, zI, zS, zO]
 refine tN (hK11 _ _ ?_)
 clear hK11 K11
 refine wpIn_cond_false rfl ?_
 refine wpIn_skip ?_
 refine tN (hK10 _ _ ?_)
 clear hK10 K10
 refine sK fun K14 hK14 => ?_
 refine sK fun K15 hK15 => rL ?_
 refine xM (.int .i64 a) rfl rfl rfl ?_
 refine xM (.int .i64 b) rfl rfl rfl ?_
 by_cases hb16 : a > b
 ·refine xG (.bool true) rfl rfl (ex_gtr (k := .i64) (m := a) (n := b) rfl rfl rfl (decide_eq_true hb16)) ?_
  refine wL ?_
  simp only [zP, zI, zS, zO]
  refine tN (hK15 _ _ ?_)
  clear hK15 K15
  refine wpIn_cond_true rfl ?_
  refine sK fun K17 hK17 => rL ?_
  refine xA (.int .i64 1) rfl rfl rfl ?_
  refine wL ?_
  simp only [zP, zI, zS, zO]
  refine tN (hK17 _ _ ?_)
  clear hK17 K17
  refine wpIn_ret ?_
  refine then_ret ?_
  clear hK14 K14
  refine bR rfl rfl ?_
  exact ⟨congrArg (fun b => Ending.returned (Value.int .i64 b)) (by unfold cmpI; simp [*]), hv⟩
 refine xG (.bool false) rfl rfl (ex_gtr (k := .i64) (m := a) (n := b) rfl rfl rfl (decide_eq_false hb16)) ?_
 refine wL ?_
 simp only [zP, zI, zS, zO]
 refine tN (hK15 _ _ ?_)
 clear hK15 K15
 refine wpIn_cond_false rfl ?_
 refine wpIn_skip ?_
 refine tN (hK14 _ _ ?_)
 clear hK14 K14
 refine sK fun K18 hK18 => rL ?_
 refine xA (.int .i64 0) rfl rfl rfl ?_
 refine wL ?_
 simp only [zP, zI, zS, zO]
 refine tN (hK18 _ _ ?_)
 clear hK18 K18
 refine wpIn_ret ?_
 refine bR rfl rfl ?_
 exact ⟨congrArg (fun b => Ending.returned (Value.int .i64 b)) (by unfold cmpI; simp [*]), hv⟩
theorem s11callable97 : Callable Try.prog 97 := ⟨_, Try.func97, by kernel_rfl, by kernel_rfl⟩
set_option maxHeartbeats 2000000 in
theorem cmpStr (B : Base) (H : List Res) (w : World) (a b : (List UInt8)) (hv : Inv B H w) :
  Calls Try.prog 95 #[.string ⟨a.toArray⟩, .string ⟨b.toArray⟩] w fun e w' => e = .returned (.int .i64 (cmpS a b)) ∧ Inv B H w' := by
 refine (callsIn_wide (n := 5)).1 ?_
 refine callsIn_of_wp Try.func95 rfl trivial ?_
 simp only [Try.ntmps95, List.size_toArray, List.length_cons, List.length_nil, Nat.reduceAdd, Nat.reduceSub, Array.replicate_succ, Array.replicate_zero, List.push_toArray, List.append_toArray, List.nil_append, List.cons_append]
 refine sK fun K1 hK1 => rL ?_
 refine xA (.int .i64 0) rfl rfl rfl ?_
 refine wL ?_
 simp only [zP, zI, zS, zO]
 refine tN (hK1 _ _ ?_)
 clear hK1 K1
 refine sK fun K2 hK2 => rL ?_
 refine xM (.string ⟨a.toArray⟩) rfl rfl rfl ?_
 refine xC s11callable97 rfl rfl (l := [.string ⟨a.toArray⟩]) rfl ((nanS B _ _ _ hv).mono ?_)
 rintro e w3 ⟨rfl, hv⟩
 refine ⟨_, rfl, ?_⟩
 refine xA (.bool false) rfl rfl rfl ?_
 refine wL ?_
 simp only [zP, zI, zS, zO]
 refine tN (hK2 _ _ ?_)
 clear hK2 K2
 refine sK fun K4 hK4 => rL ?_
 refine xM (.string ⟨b.toArray⟩) rfl rfl rfl ?_
 refine xC s11callable97 rfl rfl (l := [.string ⟨b.toArray⟩]) rfl ((nanS B _ _ _ hv).mono ?_)
 rintro e w5 ⟨rfl, hv⟩
 refine ⟨_, rfl, ?_⟩
 refine xA (.bool false) rfl rfl rfl ?_
 refine wL ?_
 simp only [zP, zI, zS, zO]
 refine tN (hK4 _ _ ?_)
 clear hK4 K4
 refine sK fun K6 hK6 => ?_
 refine sK fun K7 hK7 => rL ?_
 refine xM (.bool false) rfl rfl rfl ?_
 refine wL ?_
 simp only [zP, zI, zS, zO]
 refine tN (hK7 _ _ ?_)
 clear hK7 K7
 refine wpIn_cond_false rfl ?_
 refine wpIn_skip ?_
 refine tN (hK6 _ _ ?_)
 clear hK6 K6
 refine sK fun K8 hK8 => ?_
 refine sK fun K9 hK9 => rL ?_
 refine xM (.bool false) rfl rfl rfl ?_
 refine wL ?_
 simp only [zP, zI, zS, zO]
 refine tN (hK9 _ _ ?_)
 clear hK9 K9
 refine wpIn_cond_false rfl ?_
 refine wpIn_skip ?_
 refine tN (hK8 _ _ ?_)
 clear hK8 K8
 refine sK fun K10 hK10 => ?_
 refine sK fun K11 hK11 => rL ?_
 refine xM (.string ⟨a.toArray⟩) rfl rfl rfl ?_
 refine xM (.string ⟨b.toArray⟩) rfl rfl rfl ?_
 refine xG (.bool (Op.bytesLess a b)) rfl rfl (ex_slss (s := a) (s' := b) rfl rfl rfl rfl) ?_
 refine wL ?_
 simp only [zP, zI, zS, zO]
 refine tN (hK11 _ _ ?_)
 clear hK11 K11
 refine wpIn_cond_split (t := Op.bytesLess a b) rfl (fun hc12 => ?_) (fun hc12 => ?_)
 ·refine sK fun K13 hK13 => rL ?_
  refine xA (.int .i64 (-1)) rfl rfl rfl ?_
  refine wL ?_
  simp only [zP, zI, zS, zO]
  refine tN (hK13 _ _ ?_)
  clear hK13 K13
  refine wpIn_ret ?_
  refine then_ret ?_
  clear hK10 K10
  refine bR rfl rfl ?_
  exact ⟨congrArg (fun b => Ending.returned (Value.int .i64 b)) (by unfold cmpS; simp [*]), hv⟩
 refine wpIn_skip ?_
 refine tN (hK10 _ _ ?_)
 clear hK10 K10
 refine sK fun K14 hK14 => ?_
 refine sK fun K15 hK15 => rL ?_
 refine xM (.string ⟨a.toArray⟩) rfl rfl rfl ?_
 refine xM (.string ⟨b.toArray⟩) rfl rfl rfl ?_
 refine xG (.bool (Op.bytesLess b a)) rfl rfl (ex_sgtr (s := a) (s' := b) rfl rfl rfl rfl) ?_
 refine wL ?_
 simp only [zP, zI, zS, zO]
 refine tN (hK15 _ _ ?_)
 clear hK15 K15
 refine wpIn_cond_split (t := Op.bytesLess b a) rfl (fun hc16 => ?_) (fun hc16 => ?_)
 ·refine sK fun K17 hK17 => rL ?_
  refine xA (.int .i64 1) rfl rfl rfl ?_
  refine wL ?_
  simp only [zP, zI, zS, zO]
  refine tN (hK17 _ _ ?_)
  clear hK17 K17
  refine wpIn_ret ?_
  refine then_ret ?_
  clear hK14 K14
  refine bR rfl rfl ?_
  exact ⟨congrArg (fun b => Ending.returned (Value.int .i64 b)) (by unfold cmpS; simp [*]), hv⟩
 refine wpIn_skip ?_
 refine tN (hK14 _ _ ?_)
 clear hK14 K14
 refine sK fun K18 hK18 => rL ?_
 refine xA (.int .i64 0) rfl rfl rfl ?_
 refine wL ?_
 simp only [zP, zI, zS, zO]
 refine tN (hK18 _ _ ?_)
 clear hK18 K18
 refine wpIn_ret ?_
 refine bR rfl rfl ?_
 exact ⟨congrArg (fun b => Ending.returned (Value.int .i64 b)) (by unfold cmpS; simp [*]), hv⟩
theorem s11es132 (w : World) : (sizeOf (Try.prog.elem 132)).run Try.prog w = .ok 1 w := by kernel_rfl
set_option maxHeartbeats 2000000 in
theorem cmpOr (B : Base) (H : List Res) (w : World) (ad : Option Addr) (a b : Int) (R : List Res) (hRH : ∀ r ∈ R, r ∈ H) (hr : RdW B R ad [.int .i64 a, .int .i64 b]) (hv : Inv B H w) :
  Calls Try.prog 93 #[.slice ad 2 2] w fun e w' => e = .returned (.int .i64 (orI a b)) ∧ Inv B H w' := by
 refine (callsIn_wide (n := 5)).1 ?_
 refine callsIn_of_wp Try.func93 rfl trivial ?_
 simp only [Try.ntmps93, List.size_toArray, List.length_cons, List.length_nil, Nat.reduceAdd, Nat.reduceSub, Array.replicate_succ, Array.replicate_zero, List.push_toArray, List.append_toArray, List.nil_append, List.cons_append]
 refine sK fun K1 hK1 => rL ?_
 refine xA (.int .i64 0) rfl rfl rfl ?_
 refine wL ?_
 simp only [zP, zI, zS, zO]
 refine tN (hK1 _ _ ?_)
 clear hK1 K1
 refine sK fun K2 hK2 => rL ?_
 refine xA (.int .i64 0) rfl rfl rfl ?_
 refine wL ?_
 simp only [zP, zI, zS, zO]
 refine tN (hK2 _ _ ?_)
 clear hK2 K2
 refine sK fun K3 hK3 => ?_
 refine sK fun K4 hK4 => rL ?_
 refine xM (.slice ad 2 2) rfl rfl rfl ?_
 refine xG (.int .i64 2) rfl rfl (ex_len0 Try.underlying132 rfl rfl) ?_
 refine xM (.int .i64 0) rfl rfl rfl ?_
 refine wL ?_
 simp only [zP, zI, zS, zO]
 refine tN (hK4 _ _ ?_)
 clear hK4 K4
 refine wpIn_block ?_
 gi_loopw [8] (fun x8 wr => ∃ (i : Nat), x8 = .int .i64 (i : Int) ∧ i ≤ 2 ∧ (0 < i → a = 0) ∧ (1 < i → b = 0) ∧ Inv B H wr) (fun x8 _ => 2 - (intOf x8).toNat)
 case atStart => exact ⟨0, rfl, Nat.zero_le _, fun h => by omega, fun h => by omega, hv⟩
 case round =>
  obtain ⟨i, rfl, hi, ha0, hb0, hv⟩ := hrel
  refine sK fun K6 hK6 => rL ?_
  by_cases hb7 : (i : Int) < 2
  ·refine xG (.bool true) rfl rfl (ex_lss (k := .i64) (m := (i : Int)) (n := 2) rfl rfl rfl (decide_eq_true hb7)) ?_
   refine wL ?_
   simp only [zP, zI, zS, zO]
   refine tN (hK6 _ _ ?_)
   clear hK6 K6
   refine sK fun K8 hK8 => ?_
   refine wpIn_cond_true rfl ?_
   refine wpIn_skip ?_
   refine tN (hK8 _ _ ?_)
   clear hK8 K8
   refine sK fun K9 hK9 => ?_
   refine wpIn_block ?_
   refine sK fun K10 hK10 => ?_
   obtain ⟨x, hx⟩ : ∃ x : Int, ([a, b] : List Int)[i]? = some x := ⟨_, List.getElem?_eq_getElem (by simp; omega)⟩
   have hxv : ([.int .i64 a, .int .i64 b] : List Value)[i]? = some (.int .i64 x) := by
    rcases (show i = 0 ∨ i = 1 by omega) with h | h <;> subst h <;> simp at hx ⊢ <;> exact hx
   obtain ⟨bb, bo, had, hrd⟩ := row1_reads hr hxv
   subst had
   refine rL ?_
   refine xG (.pointer (some ⟨bb, bo + i, none⟩)) rfl rfl (ex_index rfl rfl rfl (run_idx1 (k := i) Try.underlying132 s11es132 (by omega))) ?_
   refine xL (.int .i64 x) rfl rfl rfl (run_load1 s2na3 (hrd _ _ _ (Base.Le.refl _) (fun r9 hr9 => (hRH r9 hr9)) hv 0 _ rfl)) ?_
   refine xA (.int .i64 x) rfl rfl rfl ?_
   refine wL ?_
   simp only [zP, zI, zS, zO]
   refine tN (hK10 _ _ ?_)
   clear hK10 K10
   refine sK fun K11 hK11 => rL ?_
   refine xM (.int .i64 x) rfl rfl rfl ?_
   refine xM (.int .i64 0) rfl rfl rfl ?_
   by_cases hb12 : x ≠ 0
   ·refine xG (.bool true) rfl rfl (ex_neq (k := .i64) (m := x) (n := 0) rfl rfl rfl (decide_eq_true hb12)) ?_
    refine wL ?_
    simp only [zP, zI, zS, zO]
    refine tN (hK11 _ _ ?_)
    clear hK11 K11
    refine wpIn_cond_true rfl ?_
    refine sK fun K13 hK13 => rL ?_
    refine xM (.int .i64 x) rfl rfl rfl ?_
    refine xA (.int .i64 x) rfl rfl rfl ?_
    refine wL ?_
    simp only [zP, zI, zS, zO]
    refine tN (hK13 _ _ ?_)
    clear hK13 K13
    refine wpIn_ret ?_
    refine blk_ret ?_
    refine then_ret ?_
    clear hK9 K9
    refine then_ret ?_
    refine blk_ret ?_
    refine then_ret ?_
    clear hK3 K3
    refine bR rfl rfl ?_
    exact ⟨congrArg (fun b => Ending.returned (Value.int .i64 b)) (by unfold orI; rcases (show i = 0 ∨ i = 1 by omega) with h | h <;> subst h <;> simp at hx <;> subst hx <;> (try rw [if_neg (by have := ha0 (by omega); omega)]) <;> (try rw [if_pos (by omega)])), hv⟩
   refine xG (.bool false) rfl rfl (ex_neq (k := .i64) (m := x) (n := 0) rfl rfl rfl (decide_eq_false hb12)) ?_
   refine wL ?_
   simp only [zP, zI, zS, zO]
   refine tN (hK11 _ _ ?_)
   clear hK11 K11
   refine wpIn_cond_false rfl ?_
   refine wpIn_skip ?_
   refine blk_normal ?_
   refine tN (hK9 _ _ ?_)
   clear hK9 K9
   refine rL ?_
   refine xG (.int .i64 ((i + 1 : Nat) : Int)) rfl rfl (ex_add (m := (i : Int)) (n := 1) rfl rfl rfl (by rw [i64_in (by omega)]; omega)) ?_
   refine xM (.int .i64 ((i + 1 : Nat) : Int)) rfl rfl rfl ?_
   refine wL ?_
   simp only [zP, zI, zS, zO]
   refine then_normal ?_
   go_roundw
   case rel => exact ⟨i + 1, rfl, by omega, fun _ => by rcases (show i = 0 ∨ i = 1 by omega) with h | h <;> subst h <;> simp at hx <;> omega, fun _ => by rcases (show i = 0 ∨ i = 1 by omega) with h | h <;> subst h <;> simp at hx <;> omega, hv⟩
   case measure => show 2 - (((i + 1 : Nat) : Int)).toNat < 2 - ((i : Int)).toNat; omega
  refine xG (.bool false) rfl rfl (ex_lss (k := .i64) (m := (i : Int)) (n := 2) rfl rfl rfl (decide_eq_false hb7)) ?_
  refine wL ?_
  simp only [zP, zI, zS, zO]
  refine tN (hK6 _ _ ?_)
  clear hK6 K6
  refine sK fun K14 hK14 => ?_
  refine wpIn_cond_false rfl ?_
  refine wpIn_exit ?_
  refine then_exit ?_
  clear hK14 K14
  refine then_exit ?_
  refine blk_hit ?_
  refine tN (hK3 _ _ ?_)
  clear hK3 K3
  refine sK fun K15 hK15 => rL ?_
  refine xM (.int .i64 0) rfl rfl rfl ?_
  refine xA (.int .i64 0) rfl rfl rfl ?_
  refine wL ?_
  simp only [zP, zI, zS, zO]
  refine tN (hK15 _ _ ?_)
  clear hK15 K15
  refine wpIn_ret ?_
  refine bR rfl rfl ?_
  exact ⟨congrArg (fun b => Ending.returned (Value.int .i64 b)) (by unfold orI; rw [if_neg (by have := ha0 (by omega); omega)]; have := hb0 (by omega); omega), hv⟩
theorem s11fa85_0 (w : World) (b o : Nat) : (Instr.fieldAt 85 (.pointer (some ⟨b, o, none⟩)) 0).run Try.prog w = .ok (.pointer (some ⟨b, o + 0, none⟩)) w := by kernel_rfl
theorem s11callable94 : Callable Try.prog 94 := ⟨_, Try.func94, by kernel_rfl, by kernel_rfl⟩
theorem s11callable95 : Callable Try.prog 95 := ⟨_, Try.func95, by kernel_rfl, by kernel_rfl⟩
theorem s11callable93 : Callable Try.prog 93 := ⟨_, Try.func93, by kernel_rfl, by kernel_rfl⟩
set_option maxHeartbeats 2000000 in
theorem zsetCompare (B : Base) (H : List Res) (w : World) (x y : Int × List UInt8) (hv : Inv B H w) :
  Calls Try.prog 91 #[.agg #[.int .i64 x.1, .string ⟨x.2.toArray⟩], .agg #[.int .i64 y.1, .string ⟨y.2.toArray⟩]] w fun e w' => e = .returned (.int .i64 (cmpM x y)) ∧ Inv B H w' := by
 refine (callsIn_wide (n := 5)).1 ?_
 refine callsIn_of_wp Try.func91 rfl trivial ?_
 simp only [Try.ntmps91, List.size_toArray, List.length_cons, List.length_nil, Nat.reduceAdd, Nat.reduceSub, Array.replicate_succ, Array.replicate_zero, List.push_toArray, List.append_toArray, List.nil_append, List.cons_append]
 refine sK fun K1 hK1 => rL ?_
 refine sl_box (L := [.int .i64 x.1, .string ⟨x.2.toArray⟩]) tV (wn rfl) rfl (p := .agg #[.int .i64 x.1, .string ⟨x.2.toArray⟩]) rfl hv (fun w => by kernel_rfl) (fun b2 w3 hv => ?_)
 refine sl_box (L := [.int .i64 y.1, .string ⟨y.2.toArray⟩]) tV (wn rfl) rfl (p := .agg #[.int .i64 y.1, .string ⟨y.2.toArray⟩]) rfl hv (fun w => by kernel_rfl) (fun b4 w5 hv => ?_)
 refine xA (.int .i64 0) rfl rfl rfl ?_
 refine wL ?_
 simp only [zP, zI, zS, zO]
 refine tN (hK1 _ _ ?_)
 clear hK1 K1
 refine sK fun K6 hK6 => ?_
 refine region_st mixed [.pointer (some ⟨b2, 0, none⟩), .int .i64 x.1, .pointer (some ⟨b4, 0, none⟩), .int .i64 y.1, undef, .pointer (some ⟨b2, 1, none⟩), .string ⟨x.2.toArray⟩, .pointer (some ⟨b4, 1, none⟩), .string ⟨y.2.toArray⟩, undef, undef, undef, .int .i64 (cmpM x y)] [4, 9, 10, 11] [⟨fun vals w => vals = [] ∧ Inv B (Res.cell b4 [.int .i64 y.1, .string ⟨y.2.toArray⟩] 85 :: Res.cell b2 [.int .i64 x.1, .string ⟨x.2.toArray⟩] 85 :: H) w, fun _ _ _ ⟨h, hi⟩ he => ⟨h, hi.ext he⟩⟩, ⟨fun vals w => vals = [.int .i64 (cmpI x.1 y.1)] ∧ Inv B (Res.cell b4 [.int .i64 y.1, .string ⟨y.2.toArray⟩] 85 :: Res.cell b2 [.int .i64 x.1, .string ⟨x.2.toArray⟩] 85 :: H) w, fun _ _ _ ⟨h, hi⟩ he => ⟨h, hi.ext he⟩⟩, ⟨fun vals w => vals = [.int .i64 (cmpI x.1 y.1), .int .i64 (cmpS x.2 y.2)] ∧ Inv B (Res.cell b4 [.int .i64 y.1, .string ⟨y.2.toArray⟩] 85 :: Res.cell b2 [.int .i64 x.1, .string ⟨x.2.toArray⟩] 85 :: H) w, fun _ _ _ ⟨h, hi⟩ he => ⟨h, hi.ext he⟩⟩, ⟨fun vals w => ∃ b9, vals = [.int .i64 (cmpI x.1 y.1), .int .i64 (cmpS x.2 y.2), .slice (some ⟨b9, 0, none⟩) 2 2] ∧ Inv B (Res.cell b9 [.int .i64 (cmpI x.1 y.1), .int .i64 (cmpS x.2 y.2)] 3 :: Res.cell b4 [.int .i64 y.1, .string ⟨y.2.toArray⟩] 85 :: Res.cell b2 [.int .i64 x.1, .string ⟨x.2.toArray⟩] 85 :: H) w, fun _ _ _ ⟨b9, h, hi⟩ he => ⟨b9, h, hi.ext he⟩⟩, ⟨fun vals w => ∃ b9, vals = [.int .i64 (cmpI x.1 y.1), .int .i64 (cmpS x.2 y.2), .slice (some ⟨b9, 0, none⟩) 2 2, .int .i64 (cmpM x y)] ∧ Inv B (Res.cell b9 [.int .i64 (cmpI x.1 y.1), .int .i64 (cmpS x.2 y.2)] 3 :: Res.cell b4 [.int .i64 y.1, .string ⟨y.2.toArray⟩] 85 :: Res.cell b2 [.int .i64 x.1, .string ⟨x.2.toArray⟩] 85 :: H) w, fun _ _ _ ⟨b9, h, hi⟩ he => ⟨b9, h, hi.ext he⟩⟩] 17 rfl (by kernel_rfl) ⟨rfl, hv⟩ ⟨?_, ?_, ?_, ?_, ?_, ?_, ?_, ?_, ?_, ?_, ?_, ?_, ?_, trivial⟩ ?_
 ·intro aa ww vals hJ hR
  exact xD rfl (ex_field rfl (show aa.eval (.tmp 2) = _ from hR.keep 2 rfl) (s11fa85_0 _ _ _)) rfl rfl
 ·intro aa ww vals hJ hR
  have h2 : vals.length ≤ 0 := hR.hi 4 (by simp) rfl
  have hl : vals.length = 0 := by omega
  obtain ⟨hvals, hv⟩ := hJ.at0 hl
  exact xD rfl (ex_load rfl (hR.w 0 5 rfl rfl rfl rfl) (run_load1 s2na3 (hv.load 1 0 rfl rfl))) rfl rfl
 ·intro aa ww vals hJ hR
  exact xD rfl (ex_field rfl (show aa.eval (.tmp 3) = _ from hR.keep 3 rfl) (s11fa85_0 _ _ _)) rfl rfl
 ·intro aa ww vals hJ hR
  have h2 : vals.length ≤ 0 := hR.hi 4 (by simp) rfl
  have hl : vals.length = 0 := by omega
  obtain ⟨hvals, hv⟩ := hJ.at0 hl
  exact xD rfl (ex_load rfl (hR.w 2 7 rfl rfl rfl rfl) (run_load1 s2na3 (hv.load 0 0 rfl rfl))) rfl rfl
 ·intro aa ww vals hJ hR
  refine mem_step' rfl fun hvl => ?_
  have hl : vals.length = 0 := hvl
  obtain ⟨hvals, hv⟩ := hJ.at0 hl
  refine stepMem_calls s11callable94 (wn rfl) rfl (args := #[.int .i64 x.1, .int .i64 y.1]) (by simp only [yA, yB, yC]; rw [show aa.eval (.tmp 6) = .int .i64 x.1 from hR.v 1 6 rfl rfl rfl rfl, show aa.eval (.tmp 8) = .int .i64 y.1 from hR.v 3 8 rfl rfl rfl rfl] <;> rfl) ((cmpInt B _ _ _ _ hv).mono ?_)
  rintro e w7 ⟨rfl, hv⟩
  refine ⟨_, rfl, JS.next hl ⟨by rw [hvals]; rfl, hv⟩⟩
 ·intro aa ww vals hJ hR
  exact xD rfl (ex_field rfl (show aa.eval (.tmp 2) = _ from hR.keep 2 rfl) (s9fa85_1 _ _ _)) rfl rfl
 ·intro aa ww vals hJ hR
  have h2 : vals.length ≤ 1 := hR.hi 9 (by simp) rfl
  rcases (show vals.length = 0 ∨ vals.length = 1 by omega) with hl | hl
  ·obtain ⟨hvals, hv⟩ := hJ.at0 hl
   exact xD rfl (ex_load rfl (hR.w 5 10 rfl rfl rfl rfl) (run_load1 s3na9 (hv.load 1 1 rfl rfl))) rfl rfl
  obtain ⟨hvals, hv⟩ := hJ.at0 hl
  exact xD rfl (ex_load rfl (hR.w 5 10 rfl rfl rfl rfl) (run_load1 s3na9 (hv.load 1 1 rfl rfl))) rfl rfl
 ·intro aa ww vals hJ hR
  exact xD rfl (ex_field rfl (show aa.eval (.tmp 3) = _ from hR.keep 3 rfl) (s9fa85_1 _ _ _)) rfl rfl
 ·intro aa ww vals hJ hR
  have h2 : vals.length ≤ 1 := hR.hi 9 (by simp) rfl
  rcases (show vals.length = 0 ∨ vals.length = 1 by omega) with hl | hl
  ·obtain ⟨hvals, hv⟩ := hJ.at0 hl
   exact xD rfl (ex_load rfl (hR.w 7 12 rfl rfl rfl rfl) (run_load1 s3na9 (hv.load 0 1 rfl rfl))) rfl rfl
  obtain ⟨hvals, hv⟩ := hJ.at0 hl
  exact xD rfl (ex_load rfl (hR.w 7 12 rfl rfl rfl rfl) (run_load1 s3na9 (hv.load 0 1 rfl rfl))) rfl rfl
 ·intro aa ww vals hJ hR
  refine mem_step' rfl fun hvl => ?_
  have hl : vals.length = 1 := hvl
  obtain ⟨hvals, hv⟩ := hJ.at0 hl
  refine stepMem_calls s11callable95 (wn rfl) rfl (args := #[.string ⟨x.2.toArray⟩, .string ⟨y.2.toArray⟩]) (by simp only [yA, yB, yC]; rw [show aa.eval (.tmp 11) = .string ⟨x.2.toArray⟩ from hR.v 6 11 rfl rfl rfl rfl, show aa.eval (.tmp 13) = .string ⟨y.2.toArray⟩ from hR.v 8 13 rfl rfl rfl rfl] <;> rfl) ((cmpStr B _ _ _ _ hv).mono ?_)
  rintro e w8 ⟨rfl, hv⟩
  refine ⟨_, rfl, JS.next hl ⟨by rw [hvals]; rfl, hv⟩⟩
 ·intro aa ww vals hJ hR
  refine mem_step' rfl fun hvl => ?_
  have hl : vals.length = 2 := hvl
  obtain ⟨hvals, hv⟩ := hJ.at0 hl
  refine mem_row2 (v1 := .int .i64 (cmpI x.1 y.1)) (v2 := .int .i64 (cmpS x.2 y.2)) (e := 3) (wn rfl) rfl (show aa.eval (.tmp 9) = _ from (hR.val 4 9 rfl rfl rfl).trans (by rw [hvals] <;> rfl)) (show aa.eval (.tmp 14) = _ from (hR.val 9 14 rfl rfl rfl).trans (by rw [hvals] <;> rfl)) hv (fun w => by kernel_rfl) (fun b9 w10 hv => ?_)
  exact JS.next hl ⟨b9, by rw [hvals]; rfl, hv⟩
 ·intro aa ww vals hJ hR
  refine mem_step' rfl fun hvl => ?_
  have hl : vals.length = 3 := hvl
  obtain ⟨b9, hvals, hv⟩ := hJ.at0 hl
  refine stepMem_calls s11callable93 (wn rfl) rfl (args := #[.slice (some ⟨b9, 0, none⟩) 2 2]) (by simp only [yA, yB, yC]; rw [show aa.eval (.tmp 15) = .slice (some ⟨b9, 0, none⟩) 2 2 from (hR.val 10 15 rfl rfl rfl).trans (by rw [hvals] <;> rfl)] <;> rfl) ((cmpOr B _ _ _ (cmpI x.1 y.1) (cmpS x.2 y.2) [_] (fun r hr => by rw [List.mem_singleton.1 hr]; exact List.mem_of_getElem? (i := 0) rfl) rdW_cell hv).mono ?_)
  rintro e w11 ⟨rfl, hv⟩
  refine ⟨_, rfl, JS.next hl ⟨b9, by rw [hvals]; rfl, hv⟩⟩
 ·intro aa ww vals hJ hR
  have h1 : 3 < vals.length := hR.lo 11 (by simp) rfl
  have hl : vals.length = 4 := by have := JS.le (n := 4) (by rfl) hJ; omega
  obtain ⟨b9, hvals, hv⟩ := hJ.at0 hl
  exact xD rfl (ex_assign rfl (show aa.eval (.tmp 16) = _ from (hR.val 11 16 rfl rfl rfl).trans (by rw [hvals] <;> rfl))) rfl rfl
 rintro w12 vals ⟨b9, rfl, hv⟩
 rw [show mixV [4, 9, 10, 11] [.int .i64 (cmpI x.1 y.1), .int .i64 (cmpS x.2 y.2), .slice (some ⟨b9, 0, none⟩) 2 2, .int .i64 (cmpM x y)] 0 [.pointer (some ⟨b2, 0, none⟩), .int .i64 x.1, .pointer (some ⟨b4, 0, none⟩), .int .i64 y.1, undef, .pointer (some ⟨b2, 1, none⟩), .string ⟨x.2.toArray⟩, .pointer (some ⟨b4, 1, none⟩), .string ⟨y.2.toArray⟩, undef, undef, undef, .int .i64 (cmpM x y)] = [.pointer (some ⟨b2, 0, none⟩), .int .i64 x.1, .pointer (some ⟨b4, 0, none⟩), .int .i64 y.1, .int .i64 (cmpI x.1 y.1), .pointer (some ⟨b2, 1, none⟩), .string ⟨x.2.toArray⟩, .pointer (some ⟨b4, 1, none⟩), .string ⟨y.2.toArray⟩, .int .i64 (cmpS x.2 y.2), .slice (some ⟨b9, 0, none⟩) 2 2, .int .i64 (cmpM x y), .int .i64 (cmpM x y)] from rfl]
 simp only [putAll, zP, zI, zS, zO]
 refine tN (hK6 _ _ ?_)
 clear hK6 K6
 refine wpIn_ret ?_
 refine bR rfl rfl ?_
 exact ⟨rfl, (hv.sub (List.Sublist.cons _ (List.Sublist.cons _ (List.Sublist.cons _ (List.Sublist.refl _)))))⟩
def memName (m : Int × List UInt8) : List UInt8 := m.2
def ZsetAt (l : List (Int × List UInt8)) (i : Nat) : Prop := ∀ x, l[i]? = some x → ∀ (j : Nat) y, i = j + 1 → l[j]? = some y → cmpM y x < 0
def ZsetOk (l : List (Int × List UInt8)) : Prop := l.length ≤ 512 ∧ l.any (fun m => decide (m.2.length > 4096)) = false ∧ (∀ i, ZsetAt l i) ∧ (l.map memName).Nodup
theorem s11callable90 : Callable Try.prog 90 := ⟨_, Try.func90, by kernel_rfl, by kernel_rfl⟩
theorem s11callable89 : Callable Try.prog 89 := ⟨_, Try.func89, by kernel_rfl, by kernel_rfl⟩
theorem s11al85 (w : World) : (Instr.alloc 85 true (.tuple #[])).run Try.prog w = .ok (.pointer (some ⟨w.heap.size, 0, none⟩)) (w.alloc (.cells ([.int .i64 0, .string ⟨([] : List UInt8).toArray⟩] : List Value).toArray 85)) := by kernel_rfl
theorem s11sz85 : (Try.prog.info? 85).map (·.size) = some 2 := by kernel_rfl
theorem s11callable91 : Callable Try.prog 91 := ⟨_, Try.func91, by kernel_rfl, by kernel_rfl⟩
set_option maxHeartbeats 2000000 in
theorem zsetRightC (B : Base) (H : List Res) (w : World) (ad : Option Addr) (c : Nat) (l : List (Int × List UInt8)) (hr : RdV B [] ad (memCells l)) (hm : l.length ≤ 1000000) (hv : Inv B H w) :
  Calls Try.prog 82 #[.slice ad l.length c] w fun e w' => ∃ b, e = .returned (.bool b) ∧ (b = true ↔ ZsetOk l) ∧ Inv B H w' := by
 refine (callsIn_wide (n := 5)).1 ?_
 refine callsIn_of_wp Try.func82 rfl trivial ?_
 simp only [Try.ntmps82, List.size_toArray, List.length_cons, List.length_nil, Nat.reduceAdd, Nat.reduceSub, Array.replicate_succ, Array.replicate_zero, List.push_toArray, List.append_toArray, List.nil_append, List.cons_append]
 refine sK fun K1 hK1 => rL ?_
 refine xA (.bool false) rfl rfl rfl ?_
 refine wL ?_
 simp only [zP, zI, zS, zO]
 refine tN (hK1 _ _ ?_)
 clear hK1 K1
 refine sK fun K2 hK2 => ?_
 refine sK fun K3 hK3 => rL ?_
 refine xM (.slice ad l.length c) rfl rfl rfl ?_
 refine xG (.int .i64 (l.length : Int)) rfl rfl (ex_len0 Try.underlying34 rfl rfl) ?_
 by_cases hb4 : (l.length : Int) > 512
 ·refine xG (.bool true) rfl rfl (ex_gtr (k := .i64) (m := (l.length : Int)) (n := 512) rfl rfl rfl (decide_eq_true hb4)) ?_
  simp only [zP, zI, zS, zO]
  refine xM (.bool true) rfl rfl rfl ?_
  refine xN 3 9 false true rfl rfl rfl (by decide) ?_
  refine xN 3 9 false true rfl rfl rfl (by decide) ?_
  simp only [zP, zI, zS, zO]
  refine xK true (.bool true) rfl rfl rfl rfl ?_
  refine wL ?_
  simp only [zP, zI, zS, zO]
  refine tN (hK3 _ _ ?_)
  clear hK3 K3
  refine wpIn_cond_true rfl ?_
  refine sK fun K5 hK5 => rL ?_
  refine xA (.bool false) rfl rfl rfl ?_
  refine wL ?_
  simp only [zP, zI, zS, zO]
  refine tN (hK5 _ _ ?_)
  clear hK5 K5
  refine wpIn_ret ?_
  refine then_ret ?_
  clear hK2 K2
  refine bR rfl rfl ?_
  exact ⟨false, rfl, ⟨fun h => (by cases h), fun h => by have := h.1; omega⟩, hv⟩
 refine xG (.bool false) rfl rfl (ex_gtr (k := .i64) (m := (l.length : Int)) (n := 512) rfl rfl rfl (decide_eq_false hb4)) ?_
 simp only [zP, zI, zS, zO]
 refine xM (.bool false) rfl rfl rfl ?_
 refine xH 3 9 false (.slice ad l.length c) rfl rfl rfl rfl (ex_move rfl rfl) ?_
 refine wpi_callG s11callable89 tV wideC rfl (wanted_of (j := 3) (d := 9) (b := false) rfl rfl rfl) rfl (args := #[.slice ad l.length c, .func (.func 90) #[] #[]]) (by simp only [yA, yB, yC]; rfl) ((containsFuncMem B _ _ 90 #[] ad c l (fun m : Int × List UInt8 => decide (m.2.length > 4096)) hr hm s11callable90 (fun x _ w hv => zsetLong B _ w x.1 x.2 hv) hv).mono ?_)
 rintro e w6 ⟨rfl, hv⟩
 refine ⟨_, rfl, ?_⟩
 simp only [zP, zI, zS, zO]
 refine xK false (.bool (l.any (fun m : Int × List UInt8 => decide (m.2.length > 4096)))) rfl rfl rfl rfl ?_
 refine wL ?_
 simp only [zP, zI, zS, zO]
 refine tN (hK3 _ _ ?_)
 clear hK3 K3
 refine wpIn_cond_split (t := l.any (fun m : Int × List UInt8 => decide (m.2.length > 4096))) rfl (fun hc7 => ?_) (fun hc7 => ?_)
 ·refine sK fun K8 hK8 => rL ?_
  refine xA (.bool false) rfl rfl rfl ?_
  refine wL ?_
  simp only [zP, zI, zS, zO]
  refine tN (hK8 _ _ ?_)
  clear hK8 K8
  refine wpIn_ret ?_
  refine then_ret ?_
  clear hK2 K2
  refine bR rfl rfl ?_
  exact ⟨false, rfl, ⟨fun h => (by cases h), fun h => by have := h.2.1; rw [hc7] at this; cases this⟩, hv⟩
 refine wpIn_skip ?_
 refine tN (hK2 _ _ ?_)
 clear hK2 K2
 refine sK fun K9 hK9 => rL ?_
 refine xM (.slice ad l.length c) rfl rfl rfl ?_
 refine xG (.int .i64 (l.length : Int)) rfl rfl (ex_len0 Try.underlying34 rfl rfl) ?_
 refine sl_makeMap (m := (l.length : Int)) tV (wn rfl) rfl rfl Try.underlying100 hv (fun mp10 w11 hv => ?_)
 simp only [zP, zI, zS, zO]
 refine xA (.map (some mp10)) rfl rfl rfl ?_
 refine wL ?_
 simp only [zP, zI, zS, zO]
 refine tN (hK9 _ _ ?_)
 clear hK9 K9
 refine sK fun K12 hK12 => ?_
 refine sK fun K13 hK13 => rL ?_
 refine xM (.slice ad l.length c) rfl rfl rfl ?_
 refine xG (.int .i64 (l.length : Int)) rfl rfl (ex_len0 Try.underlying34 rfl rfl) ?_
 refine xM (.int .i64 0) rfl rfl rfl ?_
 refine wL ?_
 simp only [zP, zI, zS, zO]
 refine tN (hK13 _ _ ?_)
 clear hK13 K13
 refine wpIn_block ?_
 gi_loopw [18] (fun x18 wr => ∃ (i : Nat), x18 = .int .i64 (i : Int) ∧ i ≤ l.length ∧ (∀ k, k < i → ZsetAt l k) ∧ Inv B (Res.keys mp10 (keysOf ((l.take i).map memName)) (i : Int) :: H) wr) (fun x18 _ => l.length - (intOf x18).toNat)
 case atStart => exact ⟨0, rfl, Nat.zero_le _, fun k h => by omega, hv⟩
 case round =>
  obtain ⟨i, rfl, hi, hall, hv⟩ := hrel
  refine sK fun K15 hK15 => rL ?_
  by_cases hb16 : (i : Int) < (l.length : Int)
  ·refine xG (.bool true) rfl rfl (ex_lss (k := .i64) (m := (i : Int)) (n := (l.length : Int)) rfl rfl rfl (decide_eq_true hb16)) ?_
   refine wL ?_
   simp only [zP, zI, zS, zO]
   refine tN (hK15 _ _ ?_)
   clear hK15 K15
   refine sK fun K17 hK17 => ?_
   refine wpIn_cond_true rfl ?_
   refine wpIn_skip ?_
   refine tN (hK17 _ _ ?_)
   clear hK17 K17
   refine sK fun K18 hK18 => ?_
   refine wpIn_block ?_
   refine sK fun K19 hK19 => ?_
   obtain ⟨x, hx⟩ : ∃ x, l[i]? = some x := ⟨_, List.getElem?_eq_getElem (show i < l.length by omega)⟩
   obtain ⟨bb, bo, had, hrdx⟩ := mem_reads hr hx
   subst had
   refine rL ?_
   refine xM (.int .i64 (i : Int)) rfl rfl rfl ?_
   refine xG (.pointer (some ⟨bb, bo + i * 2, none⟩)) rfl rfl (ex_index rfl rfl rfl (run_idx (k := i) Try.underlying34 s9es34 (by omega))) ?_
   refine xL (.agg #[.int .i64 x.1, .string ⟨x.2.toArray⟩]) rfl rfl rfl (run_loadR (cs := [.int .i64 x.1, .string ⟨x.2.toArray⟩]) s9wd85 (Reads.mid (pre := []) (mid := [.int .i64 x.1, .string ⟨x.2.toArray⟩]) (post := []) hrdx _ _ _ (Base.Le.refl _) no_res hv)) ?_
   simp only [zP, zI, zS, zO]
   refine sl_alloc tV (wn rfl) rfl hv s11al85 (fun b20 w21 hv => ?_)
   refine xA (.int .i64 (i : Int)) rfl rfl rfl ?_
   refine sl_storeNAt 0 (new := [.int .i64 x.1, .string ⟨x.2.toArray⟩]) (pre := []) (mid := [.int .i64 0, .string ⟨([] : List UInt8).toArray⟩]) (post := []) (L' := [.int .i64 x.1, .string ⟨x.2.toArray⟩]) tV (wn rfl) rfl rfl rfl hv rfl s11sz85 rfl rfl rfl (one_cons rfl (one_cons rfl one_nil)) rfl (fun w22 hv => ?_)
   simp only [List.set_cons_zero] at hv
   refine wL ?_
   simp only [zP, zN, zI, zS, zO]
   refine tN (hK19 _ _ ?_)
   clear hK19 K19
   refine sK fun K23 hK23 => ?_
   refine sK fun K24 hK24 => ?_
   by_cases hb25 : (i : Int) > 0
   ·obtain ⟨j, hj⟩ : ∃ j : Nat, i = j + 1 := ⟨i - 1, by omega⟩
    obtain ⟨y, hy⟩ : ∃ x, l[j]? = some x := ⟨_, List.getElem?_eq_getElem (show j < l.length by omega)⟩
    obtain ⟨b9, o9, had9, hrdy⟩ := mem_reads hr hy
    cases had9
    skip
    by_cases hb27 : (cmpM y x) ≥ 0
    ·refine region_st mixed [.int .i64 (i : Int), .bool true, .bool true, .slice (some ⟨bb, bo, none⟩) l.length c, .int .i64 (i : Int), .int .i64 (j : Int), .pointer (some ⟨bb, bo + j * 2, none⟩), .agg #[.int .i64 y.1, .string ⟨y.2.toArray⟩], .agg #[.int .i64 x.1, .string ⟨x.2.toArray⟩], undef, .bool true, .bool true] [9] [⟨fun vals w => vals = [] ∧ Inv B (Res.cell b20 [.int .i64 x.1, .string ⟨x.2.toArray⟩] 85 :: Res.keys mp10 (keysOf ((l.take i).map memName)) (i : Int) :: H) w, fun _ _ _ ⟨h, hi⟩ he => ⟨h, hi.ext he⟩⟩, ⟨fun vals w => vals = [.int .i64 (cmpM y x)] ∧ Inv B (Res.cell b20 [.int .i64 x.1, .string ⟨x.2.toArray⟩] 85 :: Res.keys mp10 (keysOf ((l.take i).map memName)) (i : Int) :: H) w, fun _ _ _ ⟨h, hi⟩ he => ⟨h, hi.ext he⟩⟩] 45 rfl (by kernel_rfl) ⟨rfl, hv⟩ ⟨?_, ?_, ?_, ?_, ?_, ?_, ?_, ?_, ?_, ?_, ?_, ?_, trivial⟩ ?_
     ·intro aa ww vals hJ hR
      exact xD rfl (ex_move rfl (show aa.eval (.tmp 4) = _ from hR.keep 4 rfl)) rfl rfl
     ·intro aa ww vals hJ hR
      exact xD rfl (ex_gtr (k := .i64) (m := (i : Int)) (n := 0) rfl (hR.w 0 23 rfl rfl rfl rfl) rfl (decide_eq_true hb25)) rfl rfl
     ·intro aa ww vals hJ hR
      exact xD rfl (ex_move rfl (hR.w 1 24 rfl rfl rfl rfl)) rfl rfl
     ·intro aa ww vals hJ hR
      exact add_step' rfl (Ex.adds' (ex_move rfl (show aa.eval (.tmp 0) = _ from hR.keep 0 rfl)) (wanted_of (j := 2) (d := 25) (b := true) rfl rfl (hR.v 2 25 rfl rfl rfl rfl)) rfl)
     ·intro aa ww vals hJ hR
      exact add_step' rfl (Ex.adds' (ex_move rfl (show aa.eval (.tmp 4) = _ from hR.keep 4 rfl)) (wanted_of (j := 2) (d := 25) (b := true) rfl rfl (hR.v 2 25 rfl rfl rfl rfl)) rfl)
     ·intro aa ww vals hJ hR
      exact add_step' rfl (Ex.adds' (ex_sub (m := (i : Int)) (n := 1) rfl (hR.w 4 27 rfl rfl rfl rfl) rfl (by rw [i64_in (by omega)]; omega)) (wanted_of (j := 2) (d := 25) (b := true) rfl rfl (hR.v 2 25 rfl rfl rfl rfl)) rfl)
     ·intro aa ww vals hJ hR
      exact add_step' rfl (Ex.adds' (ex_index rfl (hR.w 3 26 rfl rfl rfl rfl) (hR.w 5 28 rfl rfl rfl rfl) (run_idx (k := j) Try.underlying34 s9es34 (by omega))) (wanted_of (j := 2) (d := 25) (b := true) rfl rfl (hR.v 2 25 rfl rfl rfl rfl)) rfl)
     ·intro aa ww vals hJ hR
      have h2 : vals.length ≤ 0 := hR.hi 9 (by simp) rfl
      have hl : vals.length = 0 := by omega
      obtain ⟨hvals, hv⟩ := hJ.at0 hl
      exact add_step' rfl (Ex.adds' (ex_load rfl (hR.w 6 29 rfl rfl rfl rfl) (run_loadR (cs := [.int .i64 y.1, .string ⟨y.2.toArray⟩]) s9wd85 (Reads.mid (pre := []) (mid := [.int .i64 y.1, .string ⟨y.2.toArray⟩]) (post := []) hrdy _ _ _ (Base.Le.refl _) no_res hv))) (wanted_of (j := 2) (d := 25) (b := true) rfl rfl (hR.v 2 25 rfl rfl rfl rfl)) rfl)
     ·intro aa ww vals hJ hR
      have h2 : vals.length ≤ 0 := hR.hi 9 (by simp) rfl
      have hl : vals.length = 0 := by omega
      obtain ⟨hvals, hv⟩ := hJ.at0 hl
      exact add_step' rfl (Ex.adds' (ex_load rfl (show aa.eval (.tmp 5) = _ from hR.keep 5 rfl) (run_load_mid (pre := []) (mid := [.int .i64 x.1, .string ⟨x.2.toArray⟩]) (post := []) s9wd85 (show Blk _ b20 ([] ++ [.int .i64 x.1, .string ⟨x.2.toArray⟩] ++ []) _ from hv.get 0 rfl) rfl)) (wanted_of (j := 2) (d := 25) (b := true) rfl rfl (hR.v 2 25 rfl rfl rfl rfl)) rfl)
     ·intro aa ww vals hJ hR
      refine mem_step' rfl fun hvl => ?_
      have hl : vals.length = 0 := hvl
      obtain ⟨hvals, hv⟩ := hJ.at0 hl
      refine stepMem_calls s11callable91 (wanted_of (j := 2) (d := 25) (b := true) rfl rfl (hR.v 2 25 rfl rfl rfl rfl)) rfl (args := #[.agg #[.int .i64 y.1, .string ⟨y.2.toArray⟩], .agg #[.int .i64 x.1, .string ⟨x.2.toArray⟩]]) (by simp only [yA, yB, yC]; rw [show aa.eval (.tmp 30) = .agg #[.int .i64 y.1, .string ⟨y.2.toArray⟩] from hR.v 7 30 rfl rfl rfl rfl, show aa.eval (.tmp 31) = .agg #[.int .i64 x.1, .string ⟨x.2.toArray⟩] from hR.v 8 31 rfl rfl rfl rfl] <;> rfl) ((zsetCompare B _ _ y x hv).mono ?_)
      rintro e w28 ⟨rfl, hv⟩
      refine ⟨_, rfl, JS.next hl ⟨by rw [hvals]; rfl, hv⟩⟩
     ·intro aa ww vals hJ hR
      have h1 : 0 < vals.length := hR.lo 9 (by simp) rfl
      have hl : vals.length = 1 := by have := JS.le (n := 1) (by rfl) hJ; omega
      obtain ⟨hvals, hv⟩ := hJ.at0 hl
      exact add_step' rfl (Ex.adds' (ex_geq (k := .i64) (m := (cmpM y x)) (n := 0) rfl (show aa.eval (.tmp 32) = _ from (hR.val 9 32 rfl rfl rfl).trans (by rw [hvals] <;> rfl)) rfl (decide_eq_true hb27)) (wanted_of (j := 2) (d := 25) (b := true) rfl rfl (hR.v 2 25 rfl rfl rfl rfl)) rfl)
     ·intro aa ww vals hJ hR
      exact xD rfl (ex_pick (b := true) rfl (hR.w 2 25 rfl rfl rfl rfl) (hR.w 10 33 rfl rfl rfl rfl)) rfl rfl
     rintro w29 vals ⟨rfl, hv⟩
     rw [show mixV [9] [.int .i64 (cmpM y x)] 0 [.int .i64 (i : Int), .bool true, .bool true, .slice (some ⟨bb, bo, none⟩) l.length c, .int .i64 (i : Int), .int .i64 (j : Int), .pointer (some ⟨bb, bo + j * 2, none⟩), .agg #[.int .i64 y.1, .string ⟨y.2.toArray⟩], .agg #[.int .i64 x.1, .string ⟨x.2.toArray⟩], undef, .bool true, .bool true] = [.int .i64 (i : Int), .bool true, .bool true, .slice (some ⟨bb, bo, none⟩) l.length c, .int .i64 (i : Int), .int .i64 (j : Int), .pointer (some ⟨bb, bo + j * 2, none⟩), .agg #[.int .i64 y.1, .string ⟨y.2.toArray⟩], .agg #[.int .i64 x.1, .string ⟨x.2.toArray⟩], .int .i64 (cmpM y x), .bool true, .bool true] from rfl]
     simp only [putAll, zP, zI, zS, zO]
     refine tN (hK24 _ _ ?_)
     clear hK24 K24
     refine wpIn_cond_true rfl ?_
     refine sK fun K30 hK30 => rL ?_
     refine xA (.bool false) rfl rfl rfl ?_
     refine wL ?_
     simp only [zP, zI, zS, zO]
     refine tN (hK30 _ _ ?_)
     clear hK30 K30
     refine wpIn_ret ?_
     refine then_ret ?_
     clear hK23 K23
     refine blk_ret ?_
     refine then_ret ?_
     clear hK18 K18
     refine then_ret ?_
     refine blk_ret ?_
     refine then_ret ?_
     clear hK12 K12
     refine bR rfl rfl ?_
     exact ⟨false, rfl, ⟨fun h => (by cases h), fun h => by have := h.2.2.1 i x hx j y (by omega) hy; omega⟩, (hv.sub (List.Sublist.cons _ (List.Sublist.cons _ (List.Sublist.refl _))))⟩
    refine region_st mixed [.int .i64 (i : Int), .bool true, .bool true, .slice (some ⟨bb, bo, none⟩) l.length c, .int .i64 (i : Int), .int .i64 (j : Int), .pointer (some ⟨bb, bo + j * 2, none⟩), .agg #[.int .i64 y.1, .string ⟨y.2.toArray⟩], .agg #[.int .i64 x.1, .string ⟨x.2.toArray⟩], undef, .bool false, .bool false] [9] [⟨fun vals w => vals = [] ∧ Inv B (Res.cell b20 [.int .i64 x.1, .string ⟨x.2.toArray⟩] 85 :: Res.keys mp10 (keysOf ((l.take i).map memName)) (i : Int) :: H) w, fun _ _ _ ⟨h, hi⟩ he => ⟨h, hi.ext he⟩⟩, ⟨fun vals w => vals = [.int .i64 (cmpM y x)] ∧ Inv B (Res.cell b20 [.int .i64 x.1, .string ⟨x.2.toArray⟩] 85 :: Res.keys mp10 (keysOf ((l.take i).map memName)) (i : Int) :: H) w, fun _ _ _ ⟨h, hi⟩ he => ⟨h, hi.ext he⟩⟩] 45 rfl (by kernel_rfl) ⟨rfl, hv⟩ ⟨?_, ?_, ?_, ?_, ?_, ?_, ?_, ?_, ?_, ?_, ?_, ?_, trivial⟩ ?_
    ·intro aa ww vals hJ hR
     exact xD rfl (ex_move rfl (show aa.eval (.tmp 4) = _ from hR.keep 4 rfl)) rfl rfl
    ·intro aa ww vals hJ hR
     exact xD rfl (ex_gtr (k := .i64) (m := (i : Int)) (n := 0) rfl (hR.w 0 23 rfl rfl rfl rfl) rfl (decide_eq_true hb25)) rfl rfl
    ·intro aa ww vals hJ hR
     exact xD rfl (ex_move rfl (hR.w 1 24 rfl rfl rfl rfl)) rfl rfl
    ·intro aa ww vals hJ hR
     exact add_step' rfl (Ex.adds' (ex_move rfl (show aa.eval (.tmp 0) = _ from hR.keep 0 rfl)) (wanted_of (j := 2) (d := 25) (b := true) rfl rfl (hR.v 2 25 rfl rfl rfl rfl)) rfl)
    ·intro aa ww vals hJ hR
     exact add_step' rfl (Ex.adds' (ex_move rfl (show aa.eval (.tmp 4) = _ from hR.keep 4 rfl)) (wanted_of (j := 2) (d := 25) (b := true) rfl rfl (hR.v 2 25 rfl rfl rfl rfl)) rfl)
    ·intro aa ww vals hJ hR
     exact add_step' rfl (Ex.adds' (ex_sub (m := (i : Int)) (n := 1) rfl (hR.w 4 27 rfl rfl rfl rfl) rfl (by rw [i64_in (by omega)]; omega)) (wanted_of (j := 2) (d := 25) (b := true) rfl rfl (hR.v 2 25 rfl rfl rfl rfl)) rfl)
    ·intro aa ww vals hJ hR
     exact add_step' rfl (Ex.adds' (ex_index rfl (hR.w 3 26 rfl rfl rfl rfl) (hR.w 5 28 rfl rfl rfl rfl) (run_idx (k := j) Try.underlying34 s9es34 (by omega))) (wanted_of (j := 2) (d := 25) (b := true) rfl rfl (hR.v 2 25 rfl rfl rfl rfl)) rfl)
    ·intro aa ww vals hJ hR
     have h2 : vals.length ≤ 0 := hR.hi 9 (by simp) rfl
     have hl : vals.length = 0 := by omega
     obtain ⟨hvals, hv⟩ := hJ.at0 hl
     exact add_step' rfl (Ex.adds' (ex_load rfl (hR.w 6 29 rfl rfl rfl rfl) (run_loadR (cs := [.int .i64 y.1, .string ⟨y.2.toArray⟩]) s9wd85 (Reads.mid (pre := []) (mid := [.int .i64 y.1, .string ⟨y.2.toArray⟩]) (post := []) hrdy _ _ _ (Base.Le.refl _) no_res hv))) (wanted_of (j := 2) (d := 25) (b := true) rfl rfl (hR.v 2 25 rfl rfl rfl rfl)) rfl)
    ·intro aa ww vals hJ hR
     have h2 : vals.length ≤ 0 := hR.hi 9 (by simp) rfl
     have hl : vals.length = 0 := by omega
     obtain ⟨hvals, hv⟩ := hJ.at0 hl
     exact add_step' rfl (Ex.adds' (ex_load rfl (show aa.eval (.tmp 5) = _ from hR.keep 5 rfl) (run_load_mid (pre := []) (mid := [.int .i64 x.1, .string ⟨x.2.toArray⟩]) (post := []) s9wd85 (show Blk _ b20 ([] ++ [.int .i64 x.1, .string ⟨x.2.toArray⟩] ++ []) _ from hv.get 0 rfl) rfl)) (wanted_of (j := 2) (d := 25) (b := true) rfl rfl (hR.v 2 25 rfl rfl rfl rfl)) rfl)
    ·intro aa ww vals hJ hR
     refine mem_step' rfl fun hvl => ?_
     have hl : vals.length = 0 := hvl
     obtain ⟨hvals, hv⟩ := hJ.at0 hl
     refine stepMem_calls s11callable91 (wanted_of (j := 2) (d := 25) (b := true) rfl rfl (hR.v 2 25 rfl rfl rfl rfl)) rfl (args := #[.agg #[.int .i64 y.1, .string ⟨y.2.toArray⟩], .agg #[.int .i64 x.1, .string ⟨x.2.toArray⟩]]) (by simp only [yA, yB, yC]; rw [show aa.eval (.tmp 30) = .agg #[.int .i64 y.1, .string ⟨y.2.toArray⟩] from hR.v 7 30 rfl rfl rfl rfl, show aa.eval (.tmp 31) = .agg #[.int .i64 x.1, .string ⟨x.2.toArray⟩] from hR.v 8 31 rfl rfl rfl rfl] <;> rfl) ((zsetCompare B _ _ y x hv).mono ?_)
     rintro e w31 ⟨rfl, hv⟩
     refine ⟨_, rfl, JS.next hl ⟨by rw [hvals]; rfl, hv⟩⟩
    ·intro aa ww vals hJ hR
     have h1 : 0 < vals.length := hR.lo 9 (by simp) rfl
     have hl : vals.length = 1 := by have := JS.le (n := 1) (by rfl) hJ; omega
     obtain ⟨hvals, hv⟩ := hJ.at0 hl
     exact add_step' rfl (Ex.adds' (ex_geq (k := .i64) (m := (cmpM y x)) (n := 0) rfl (show aa.eval (.tmp 32) = _ from (hR.val 9 32 rfl rfl rfl).trans (by rw [hvals] <;> rfl)) rfl (decide_eq_false hb27)) (wanted_of (j := 2) (d := 25) (b := true) rfl rfl (hR.v 2 25 rfl rfl rfl rfl)) rfl)
    ·intro aa ww vals hJ hR
     exact xD rfl (ex_pick (b := true) rfl (hR.w 2 25 rfl rfl rfl rfl) (hR.w 10 33 rfl rfl rfl rfl)) rfl rfl
    rintro w32 vals ⟨rfl, hv⟩
    rw [show mixV [9] [.int .i64 (cmpM y x)] 0 [.int .i64 (i : Int), .bool true, .bool true, .slice (some ⟨bb, bo, none⟩) l.length c, .int .i64 (i : Int), .int .i64 (j : Int), .pointer (some ⟨bb, bo + j * 2, none⟩), .agg #[.int .i64 y.1, .string ⟨y.2.toArray⟩], .agg #[.int .i64 x.1, .string ⟨x.2.toArray⟩], undef, .bool false, .bool false] = [.int .i64 (i : Int), .bool true, .bool true, .slice (some ⟨bb, bo, none⟩) l.length c, .int .i64 (i : Int), .int .i64 (j : Int), .pointer (some ⟨bb, bo + j * 2, none⟩), .agg #[.int .i64 y.1, .string ⟨y.2.toArray⟩], .agg #[.int .i64 x.1, .string ⟨x.2.toArray⟩], .int .i64 (cmpM y x), .bool false, .bool false] from rfl]
    simp only [putAll, zP, zI, zS, zO]
    refine tN (hK24 _ _ ?_)
    clear hK24 K24
    refine wpIn_cond_false rfl ?_
    refine wpIn_skip ?_
    refine tN (hK23 _ _ ?_)
    clear hK23 K23
    refine rL ?_
    refine xM (.map (some mp10)) rfl rfl rfl ?_
    refine xF (.pointer (some ⟨b20, 1, none⟩)) rfl rfl rfl (s9fa85_1 _ _ _) ?_
    refine xL (.string ⟨x.2.toArray⟩) rfl rfl rfl (run_load1 s3na9 (hv.load 0 1 rfl rfl)) ?_
    simp only [zP, zI, zS, zO]
    refine xM (.int .i64 (i : Int)) rfl rfl rfl ?_
    replace hv := hv.front 1 rfl
    simp only [List.eraseIdx_cons_succ, List.eraseIdx_cons_zero] at hv
    refine sl_updStr (k := x.2) (m' := ((i + 1 : Nat) : Int)) tV (wn rfl) rfl rfl rfl rfl Try.underlying100 Try.underlying9 hv (by omega) (by omega) (fun w33 hv => ?_)
    refine wL ?_
    simp only [zP, zN, zI, zS, zO]
    refine blk_normal ?_
    refine tN (hK18 _ _ ?_)
    clear hK18 K18
    refine rL ?_
    refine xG (.int .i64 ((i + 1 : Nat) : Int)) rfl rfl (ex_add (m := (i : Int)) (n := 1) rfl rfl rfl (by rw [i64_in (by omega)]; omega)) ?_
    refine xM (.int .i64 ((i + 1 : Nat) : Int)) rfl rfl rfl ?_
    refine wL ?_
    simp only [zP, zI, zS, zO]
    refine then_normal ?_
    go_roundw
    case rel => exact ⟨i + 1, rfl, by omega, fun k hk => (by
       rcases Nat.lt_or_ge k i with h | h
       ·exact hall k h
       obtain rfl : k = i := by omega
       intro x' hx'
       rw [hx] at hx'; cases hx'
       intro j' y' hj' hy'
       obtain rfl : j' = j := by omega
       rw [hy] at hy'; cases hy'; omega), by rw [take_next hx, List.map_append, List.map_cons, List.map_nil, keysOf_snoc]; exact (hv.sub (List.Sublist.cons_cons _ (List.Sublist.cons _ (List.Sublist.refl _))))⟩
    case measure => show l.length - (((i + 1 : Nat) : Int)).toNat < l.length - ((i : Int)).toNat; omega
   refine region_st mixed [.int .i64 (i : Int), .bool false, .bool false, undef, undef, undef, undef, undef, undef, undef, undef, .bool false] [] [⟨fun vals w => vals = [] ∧ Inv B (Res.cell b20 [.int .i64 x.1, .string ⟨x.2.toArray⟩] 85 :: Res.keys mp10 (keysOf ((l.take i).map memName)) (i : Int) :: H) w, fun _ _ _ ⟨h, hi⟩ he => ⟨h, hi.ext he⟩⟩] 45 rfl (by kernel_rfl) ⟨rfl, hv⟩ ⟨?_, ?_, ?_, ?_, ?_, ?_, ?_, ?_, ?_, ?_, ?_, ?_, trivial⟩ ?_
   ·intro aa ww vals hJ hR
    exact xD rfl (ex_move rfl (show aa.eval (.tmp 4) = _ from hR.keep 4 rfl)) rfl rfl
   ·intro aa ww vals hJ hR
    exact xD rfl (ex_gtr (k := .i64) (m := (i : Int)) (n := 0) rfl (hR.w 0 23 rfl rfl rfl rfl) rfl (decide_eq_false hb25)) rfl rfl
   ·intro aa ww vals hJ hR
    exact xD rfl (ex_move rfl (hR.w 1 24 rfl rfl rfl rfl)) rfl rfl
   ·intro aa ww vals hJ hR
    exact add_step' rfl (stepOk_skip (wanted_not (j := 2) (d := 25) (b := true) (b' := false) rfl rfl (hR.v 2 25 rfl rfl rfl rfl) (by decide)) rfl)
   ·intro aa ww vals hJ hR
    exact add_step' rfl (stepOk_skip (wanted_not (j := 2) (d := 25) (b := true) (b' := false) rfl rfl (hR.v 2 25 rfl rfl rfl rfl) (by decide)) rfl)
   ·intro aa ww vals hJ hR
    exact add_step' rfl (stepOk_skip (wanted_not (j := 2) (d := 25) (b := true) (b' := false) rfl rfl (hR.v 2 25 rfl rfl rfl rfl) (by decide)) rfl)
   ·intro aa ww vals hJ hR
    exact add_step' rfl (stepOk_skip (wanted_not (j := 2) (d := 25) (b := true) (b' := false) rfl rfl (hR.v 2 25 rfl rfl rfl rfl) (by decide)) rfl)
   ·intro aa ww vals hJ hR
    exact add_step' rfl (stepOk_skip (wanted_not (j := 2) (d := 25) (b := true) (b' := false) rfl rfl (hR.v 2 25 rfl rfl rfl rfl) (by decide)) rfl)
   ·intro aa ww vals hJ hR
    exact add_step' rfl (stepOk_skip (wanted_not (j := 2) (d := 25) (b := true) (b' := false) rfl rfl (hR.v 2 25 rfl rfl rfl rfl) (by decide)) rfl)
   ·intro aa ww vals hJ hR
    exact add_step' rfl (stepOk_skip (wanted_not (j := 2) (d := 25) (b := true) (b' := false) rfl rfl (hR.v 2 25 rfl rfl rfl rfl) (by decide)) rfl)
   ·intro aa ww vals hJ hR
    exact add_step' rfl (stepOk_skip (wanted_not (j := 2) (d := 25) (b := true) (b' := false) rfl rfl (hR.v 2 25 rfl rfl rfl rfl) (by decide)) rfl)
   ·intro aa ww vals hJ hR
    exact xD rfl (ex_pick (b := false) rfl (hR.w 2 25 rfl rfl rfl rfl) rfl) rfl rfl
   rintro w34 vals ⟨rfl, hv⟩
   rw [show mixV [] [] 0 [.int .i64 (i : Int), .bool false, .bool false, undef, undef, undef, undef, undef, undef, undef, undef, .bool false] = [.int .i64 (i : Int), .bool false, .bool false, undef, undef, undef, undef, undef, undef, undef, undef, .bool false] from rfl]
   simp only [putAll, zP, zI, zS, zO]
   refine tN (hK24 _ _ ?_)
   clear hK24 K24
   refine wpIn_cond_false rfl ?_
   refine wpIn_skip ?_
   refine tN (hK23 _ _ ?_)
   clear hK23 K23
   refine rL ?_
   refine xM (.map (some mp10)) rfl rfl rfl ?_
   refine xF (.pointer (some ⟨b20, 1, none⟩)) rfl rfl rfl (s9fa85_1 _ _ _) ?_
   refine xL (.string ⟨x.2.toArray⟩) rfl rfl rfl (run_load1 s3na9 (hv.load 0 1 rfl rfl)) ?_
   simp only [zP, zI, zS, zO]
   refine xM (.int .i64 (i : Int)) rfl rfl rfl ?_
   replace hv := hv.front 1 rfl
   simp only [List.eraseIdx_cons_succ, List.eraseIdx_cons_zero] at hv
   refine sl_updStr (k := x.2) (m' := ((i + 1 : Nat) : Int)) tV (wn rfl) rfl rfl rfl rfl Try.underlying100 Try.underlying9 hv (by omega) (by omega) (fun w35 hv => ?_)
   refine wL ?_
   simp only [zP, zN, zI, zS, zO]
   refine blk_normal ?_
   refine tN (hK18 _ _ ?_)
   clear hK18 K18
   refine rL ?_
   refine xG (.int .i64 ((i + 1 : Nat) : Int)) rfl rfl (ex_add (m := (i : Int)) (n := 1) rfl rfl rfl (by rw [i64_in (by omega)]; omega)) ?_
   refine xM (.int .i64 ((i + 1 : Nat) : Int)) rfl rfl rfl ?_
   refine wL ?_
   simp only [zP, zI, zS, zO]
   refine then_normal ?_
   go_roundw
   case rel => exact ⟨i + 1, rfl, by omega, fun k hk => (by
      rcases Nat.lt_or_ge k i with h | h
      ·exact hall k h
      obtain rfl : k = i := by omega
      intro x' hx'
      rw [hx] at hx'; cases hx'
      intro j' y' hj' hy'
      omega), by rw [take_next hx, List.map_append, List.map_cons, List.map_nil, keysOf_snoc]; exact (hv.sub (List.Sublist.cons_cons _ (List.Sublist.cons _ (List.Sublist.refl _))))⟩
   case measure => show l.length - (((i + 1 : Nat) : Int)).toNat < l.length - ((i : Int)).toNat; omega
  refine xG (.bool false) rfl rfl (ex_lss (k := .i64) (m := (i : Int)) (n := (l.length : Int)) rfl rfl rfl (decide_eq_false hb16)) ?_
  refine wL ?_
  simp only [zP, zI, zS, zO]
  refine tN (hK15 _ _ ?_)
  clear hK15 K15
  refine sK fun K36 hK36 => ?_
  refine wpIn_cond_false rfl ?_
  refine wpIn_exit ?_
  refine then_exit ?_
  clear hK36 K36
  refine then_exit ?_
  refine blk_hit ?_
  refine tN (hK12 _ _ ?_)
  clear hK12 K12
  refine sK fun K37 hK37 => rL ?_
  refine xM (.map (some mp10)) rfl rfl rfl ?_
  refine xG (.int .i64 ((keysOf ((l.take i).map memName)).length : Int)) rfl rfl (ex_lenMap 0 Try.underlying100 rfl rfl hv rfl) ?_
  refine xM (.slice ad l.length c) rfl rfl rfl ?_
  simp only [zP, zI, zS, zO]
  refine xG (.int .i64 (l.length : Int)) rfl rfl (ex_len0 Try.underlying34 rfl rfl) ?_
  refine xG (.bool (decide (((keysOf ((l.take i).map memName)).length : Int) = (l.length : Int)))) rfl rfl (ex_eql (k := .i64) (m := ((keysOf ((l.take i).map memName)).length : Int)) (n := (l.length : Int)) rfl rfl rfl rfl) ?_
  refine xA (.bool (decide (((keysOf ((l.take i).map memName)).length : Int) = (l.length : Int)))) rfl rfl rfl ?_
  refine wL ?_
  simp only [zP, zI, zS, zO]
  refine tN (hK37 _ _ ?_)
  clear hK37 K37
  refine wpIn_ret ?_
  refine bR rfl rfl ?_
  obtain rfl : i = l.length := by omega
  have h9 := keysOf_len (l.map memName)
  rw [List.length_map] at h9
  refine ⟨_, rfl, ?_, (hv.sub (List.Sublist.cons _ (List.Sublist.refl _)))⟩
  rw [List.take_length, decide_eq_true_iff]
  constructor
  ·intro h
   exact ⟨by omega, by simpa using hc7, fun k x hx => hall k (List.getElem?_eq_some_iff.1 hx).1 x hx, h9.2.1 (by omega)⟩
  intro h
  have := h9.2.2 h.2.2.2
  omega
end Go.Proofs.Ytffmbdagjpdieaa
