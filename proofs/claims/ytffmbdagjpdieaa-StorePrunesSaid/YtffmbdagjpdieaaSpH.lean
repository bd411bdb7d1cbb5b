/- Which versions and chains are right. -/
import Derived.Test.YtffmbdagjpdieaaSpB
import Derived.Test.YtffmbdagjpdieaaSpG
import Derived.Test.YtffmbdagjpdieaaRows
set_option maxRecDepth 100000
namespace Go.Proofs.Ytffmbdagjpdieaa
open Go.RowKit Go.Pm
theorem s13callable72 : Callable Try.prog 72 := ⟨_, Try.func72, by kernel_rfl, by kernel_rfl⟩
theorem s13callable73 : Callable Try.prog 73 := ⟨_, Try.func73, by kernel_rfl, by kernel_rfl⟩
set_option maxHeartbeats 2000000 in
theorem chainContent (B : Base) (H : List Res) (w : World) (v : Ver) (p t z : Value) (h : ValAt B v.val p t z) (hv : Inv B H w) :
  Calls Try.prog 64 #[.agg #[.int .i64 v.stamp, .bool v.gone, .int .i64 v.expire, .int .i64 v.val.kind, .string ⟨v.val.text.toArray⟩, p, t, z]] w fun e w' => ∃ b, e = .returned (.bool b) ∧ (b = true ↔ VerOk v) ∧ Inv B H w' := by
 refine (callsIn_wide (n := 5)).1 ?_
 refine callsIn_of_wp Try.func64 rfl trivial ?_
 simp only [Try.ntmps64, List.size_toArray, List.length_cons, List.length_nil, Nat.reduceAdd, Nat.reduceSub, Array.replicate_succ, Array.replicate_zero, List.push_toArray, List.append_toArray, List.nil_append, List.cons_append]
 refine sK fun K1 hK1 => rL ?_
 refine sl_box (L := [.int .i64 v.stamp, .bool v.gone, .int .i64 v.expire, .int .i64 v.val.kind, .string ⟨v.val.text.toArray⟩, p, t, z]) tV (wn rfl) rfl (p := .agg #[.int .i64 v.stamp, .bool v.gone, .int .i64 v.expire, .int .i64 v.val.kind, .string ⟨v.val.text.toArray⟩, p, t, z]) rfl hv (fun w => by kernel_rfl) (fun b2 w3 hv => ?_)
 refine xA (.bool false) rfl rfl rfl ?_
 refine wL ?_
 simp only [zP, zI, zS, zO]
 refine tN (hK1 _ _ ?_)
 clear hK1 K1
 refine sK fun K4 hK4 => ?_
 refine sK fun K5 hK5 => rL ?_
 refine xF (.pointer (some ⟨b2, 1, none⟩)) rfl rfl rfl (s2fa38_1 _ _ _) ?_
 refine xL (.bool v.gone) rfl rfl rfl (run_load1 s2na4 (hv.load 0 1 rfl rfl)) ?_
 refine wL ?_
 simp only [zP, zI, zS, zO]
 refine tN (hK5 _ _ ?_)
 clear hK5 K5
 refine wpIn_cond_split (t := v.gone) rfl (fun hc6 => ?_) (fun hc6 => ?_)
 ·refine sK fun K7 hK7 => rL ?_
  refine xF (.pointer (some ⟨b2, 2, none⟩)) rfl rfl rfl (s2fa38_2 _ _ _) ?_
  refine xL (.int .i64 v.expire) rfl rfl rfl (run_load1 s2na3 (hv.load 0 2 rfl rfl)) ?_
  by_cases hb8 : v.expire = 0
  ·refine xG (.bool true) rfl rfl (ex_eql (k := .i64) (m := v.expire) (n := 0) rfl rfl rfl (decide_eq_true hb8)) ?_
   simp only [zP, zI, zS, zO]
   refine xM (.bool true) rfl rfl rfl ?_
   refine xH 3 8 true (.pointer (some ⟨b2, 3, none⟩)) rfl rfl rfl rfl (ex_field rfl rfl (s1fa38_3 _ _ _)) ?_
   refine xH 3 8 true (.agg #[.int .i64 v.val.kind, .string ⟨v.val.text.toArray⟩, p, t, z]) rfl rfl rfl rfl (ex_load rfl rfl (run_load_mid (pre := [.int .i64 v.stamp, .bool v.gone, .int .i64 v.expire]) (mid := [.int .i64 v.val.kind, .string ⟨v.val.text.toArray⟩, p, t, z]) (post := []) s1wd36 (show Blk _ b2 ([.int .i64 v.stamp, .bool v.gone, .int .i64 v.expire] ++ [.int .i64 v.val.kind, .string ⟨v.val.text.toArray⟩, p, t, z] ++ []) _ from hv.get 0 rfl) rfl)) ?_
   simp only [zP, zI, zS, zO]
   refine xH 3 8 true (.agg #[.int .i64 0, .string ⟨([] : List UInt8).toArray⟩, .slice none 0 0, .slice none 0 0, .slice none 0 0]) rfl rfl rfl rfl (ex_buildN (vs := #[]) rfl (by simp only [yA, yC]) (by kernel_rfl)) ?_
   by_cases hq9 : ZeroVal v.val
   ·refine wpi_callG s13callable72 tV wideC rfl (wanted_of (j := 3) (d := 8) (b := true) rfl rfl rfl) rfl (args := #[.agg #[.int .i64 v.val.kind, .string ⟨v.val.text.toArray⟩, p, t, z], .agg #[.int .i64 0, .string ⟨([] : List UInt8).toArray⟩, .slice none 0 0, .slice none 0 0, .slice none 0 0]]) (by simp only [yA, yB, yC]; rfl) ((calls_bool (valueSameZ B _ _ v.val p t z h hv) (decide_eq_true hq9)).mono ?_)
    rintro e w10 ⟨rfl, hv⟩
    refine ⟨_, rfl, ?_⟩
    refine xK true (.bool true) rfl rfl rfl rfl ?_
    simp only [zP, zI, zS, zO]
    refine xA (.bool true) rfl rfl rfl ?_
    refine wL ?_
    simp only [zP, zI, zS, zO]
    refine tN (hK7 _ _ ?_)
    clear hK7 K7
    refine wpIn_ret ?_
    refine then_ret ?_
    clear hK4 K4
    refine bR rfl rfl ?_
    exact ⟨true, rfl, ⟨fun _ => by first | exact .inl ⟨by simpa using hc6, by omega, by assumption⟩ | exact .inr ⟨by simpa using hc6, by omega, by omega, hv.1 rfl⟩, fun _ => rfl⟩, (hv.sub (List.Sublist.cons _ (List.Sublist.refl _)))⟩
   refine wpi_callG s13callable72 tV wideC rfl (wanted_of (j := 3) (d := 8) (b := true) rfl rfl rfl) rfl (args := #[.agg #[.int .i64 v.val.kind, .string ⟨v.val.text.toArray⟩, p, t, z], .agg #[.int .i64 0, .string ⟨([] : List UInt8).toArray⟩, .slice none 0 0, .slice none 0 0, .slice none 0 0]]) (by simp only [yA, yB, yC]; rfl) ((calls_bool (valueSameZ B _ _ v.val p t z h hv) (decide_eq_false hq9)).mono ?_)
   rintro e w11 ⟨rfl, hv⟩
   refine ⟨_, rfl, ?_⟩
   refine xK true (.bool false) rfl rfl rfl rfl ?_
   simp only [zP, zI, zS, zO]
   refine xA (.bool false) rfl rfl rfl ?_
   refine wL ?_
   simp only [zP, zI, zS, zO]
   refine tN (hK7 _ _ ?_)
   clear hK7 K7
   refine wpIn_ret ?_
   refine then_ret ?_
   clear hK4 K4
   refine bR rfl rfl ?_
   refine ⟨false, rfl, ⟨fun h => (by cases h), fun h => ?_⟩, (hv.sub (List.Sublist.cons _ (List.Sublist.refl _)))⟩
   rcases h with ⟨h1, h2, h3⟩ | ⟨h1, h2, h3, h4⟩
   ·first | omega | exact absurd h3 (by assumption)
   rw [h1] at hc6; cases hc6
  refine xG (.bool false) rfl rfl (ex_eql (k := .i64) (m := v.expire) (n := 0) rfl rfl rfl (decide_eq_false hb8)) ?_
  simp only [zP, zI, zS, zO]
  refine xM (.bool false) rfl rfl rfl ?_
  refine xT 3 8 true false rfl rfl rfl rfl rfl rfl rfl (by decide) ?_
  simp only [zP, zI, zS, zO]
  refine xN 3 8 true false rfl rfl rfl (by decide) ?_
  refine xK false (.bool false) rfl rfl rfl rfl ?_
  simp only [zP, zI, zS, zO]
  refine xA (.bool false) rfl rfl rfl ?_
  refine wL ?_
  simp only [zP, zI, zS, zO]
  refine tN (hK7 _ _ ?_)
  clear hK7 K7
  refine wpIn_ret ?_
  refine then_ret ?_
  clear hK4 K4
  refine bR rfl rfl ?_
  refine ⟨false, rfl, ⟨fun h => (by cases h), fun h => ?_⟩, (hv.sub (List.Sublist.cons _ (List.Sublist.refl _)))⟩
  rcases h with ⟨h1, h2, h3⟩ | ⟨h1, h2, h3, h4⟩
  ·first | omega | exact absurd h3 (by assumption)
  rw [h1] at hc6; cases hc6
 refine wpIn_skip ?_
 refine tN (hK4 _ _ ?_)
 clear hK4 K4
 refine sK fun K12 hK12 => rL ?_
 refine xF (.pointer (some ⟨b2, 2, none⟩)) rfl rfl rfl (s2fa38_2 _ _ _) ?_
 refine xL (.int .i64 v.expire) rfl rfl rfl (run_load1 s2na3 (hv.load 0 2 rfl rfl)) ?_
 by_cases hb13 : v.expire ≥ 0
 ·refine xG (.bool true) rfl rfl (ex_geq (k := .i64) (m := v.expire) (n := 0) rfl rfl rfl (decide_eq_true hb13)) ?_
  simp only [zP, zI, zS, zO]
  refine xM (.bool true) rfl rfl rfl ?_
  refine xH 3 17 true (.pointer (some ⟨b2, 2, none⟩)) rfl rfl rfl rfl (ex_field rfl rfl (s2fa38_2 _ _ _)) ?_
  refine xH 3 17 true (.int .i64 v.expire) rfl rfl rfl rfl (ex_load rfl rfl (run_load1 s2na3 (hv.load 0 2 rfl rfl))) ?_
  simp only [zP, zI, zS, zO]
  by_cases hb14 : v.expire ≤ 1099511627776
  ·refine xH 3 17 true (.bool true) rfl rfl rfl rfl (ex_leq (k := .i64) (m := v.expire) (n := 1099511627776) rfl rfl rfl (decide_eq_true hb14)) ?_
   refine xK true (.bool true) rfl rfl rfl rfl ?_
   refine xM (.bool true) rfl rfl rfl ?_
   simp only [zP, zI, zS, zO]
   refine xH 8 22 true (.pointer (some ⟨b2, 3, none⟩)) rfl rfl rfl rfl (ex_field rfl rfl (s1fa38_3 _ _ _)) ?_
   refine xH 8 22 true (.agg #[.int .i64 v.val.kind, .string ⟨v.val.text.toArray⟩, p, t, z]) rfl rfl rfl rfl (ex_load rfl rfl (run_load_mid (pre := [.int .i64 v.stamp, .bool v.gone, .int .i64 v.expire]) (mid := [.int .i64 v.val.kind, .string ⟨v.val.text.toArray⟩, p, t, z]) (post := []) s1wd36 (show Blk _ b2 ([.int .i64 v.stamp, .bool v.gone, .int .i64 v.expire] ++ [.int .i64 v.val.kind, .string ⟨v.val.text.toArray⟩, p, t, z] ++ []) _ from hv.get 0 rfl) rfl)) ?_
   refine wpi_callG s13callable73 tV wideC rfl (wanted_of (j := 8) (d := 22) (b := true) rfl rfl rfl) rfl (args := #[.agg #[.int .i64 v.val.kind, .string ⟨v.val.text.toArray⟩, p, t, z]]) (by simp only [yA, yB, yC]; rfl) ((valueRight B _ _ v.val p t z h hv).mono ?_)
   rintro e w16 ⟨bl15, rfl, hbl15, hv⟩
   refine ⟨_, rfl, ?_⟩
   cases bl15
   ·simp only [zP, zI, zS, zO]
    refine xK true (.bool false) rfl rfl rfl rfl ?_
    refine xA (.bool false) rfl rfl rfl ?_
    refine wL ?_
    simp only [zP, zI, zS, zO]
    refine tN (hK12 _ _ ?_)
    clear hK12 K12
    refine wpIn_ret ?_
    refine bR rfl rfl ?_
    refine ⟨false, rfl, ⟨fun h => (by cases h), fun h => ?_⟩, (hv.sub (List.Sublist.cons _ (List.Sublist.refl _)))⟩
    rcases h with ⟨h1, h2, h3⟩ | ⟨h1, h2, h3, h4⟩
    ·rw [h1] at hc6; cases hc6
    first | omega | (have h9 := hbl15.2 h4; cases h9)
   simp only [zP, zI, zS, zO]
   refine xK true (.bool true) rfl rfl rfl rfl ?_
   refine xA (.bool true) rfl rfl rfl ?_
   refine wL ?_
   simp only [zP, zI, zS, zO]
   refine tN (hK12 _ _ ?_)
   clear hK12 K12
   refine wpIn_ret ?_
   refine bR rfl rfl ?_
   exact ⟨true, rfl, ⟨fun _ => by first | exact .inl ⟨by simpa using hc6, by omega, by assumption⟩ | exact .inr ⟨by simpa using hc6, by omega, by omega, hbl15.1 rfl⟩, fun _ => rfl⟩, (hv.sub (List.Sublist.cons _ (List.Sublist.refl _)))⟩
  refine xH 3 17 true (.bool false) rfl rfl rfl rfl (ex_leq (k := .i64) (m := v.expire) (n := 1099511627776) rfl rfl rfl (decide_eq_false hb14)) ?_
  refine xK true (.bool false) rfl rfl rfl rfl ?_
  refine xM (.bool false) rfl rfl rfl ?_
  simp only [zP, zI, zS, zO]
  refine xT 8 22 true false rfl rfl rfl rfl rfl rfl rfl (by decide) ?_
  simp only [zP, zI, zS, zO]
  refine xK false (.bool false) rfl rfl rfl rfl ?_
  refine xA (.bool false) rfl rfl rfl ?_
  refine wL ?_
  simp only [zP, zI, zS, zO]
  refine tN (hK12 _ _ ?_)
  clear hK12 K12
  refine wpIn_ret ?_
  refine bR rfl rfl ?_
  refine ⟨false, rfl, ⟨fun h => (by cases h), fun h => ?_⟩, (hv.sub (List.Sublist.cons _ (List.Sublist.refl _)))⟩
  rcases h with ⟨h1, h2, h3⟩ | ⟨h1, h2, h3, h4⟩
  ·rw [h1] at hc6; cases hc6
  first | omega
 refine xG (.bool false) rfl rfl (ex_geq (k := .i64) (m := v.expire) (n := 0) rfl rfl rfl (decide_eq_false hb13)) ?_
 simp only [zP, zI, zS, zO]
 refine xM (.bool false) rfl rfl rfl ?_
 refine xT 3 17 true false rfl rfl rfl rfl rfl rfl rfl (by decide) ?_
 simp only [zP, zI, zS, zO]
 refine xK false (.bool false) rfl rfl rfl rfl ?_
 refine xM (.bool false) rfl rfl rfl ?_
 simp only [zP, zI, zS, zO]
 refine xT 8 22 true false rfl rfl rfl rfl rfl rfl rfl (by decide) ?_
 simp only [zP, zI, zS, zO]
 refine xK false (.bool false) rfl rfl rfl rfl ?_
 refine xA (.bool false) rfl rfl rfl ?_
 refine wL ?_
 simp only [zP, zI, zS, zO]
 refine tN (hK12 _ _ ?_)
 clear hK12 K12
 refine wpIn_ret ?_
 refine bR rfl rfl ?_
 refine ⟨false, rfl, ⟨fun h => (by cases h), fun h => ?_⟩, (hv.sub (List.Sublist.cons _ (List.Sublist.refl _)))⟩
 rcases h with ⟨h1, h2, h3⟩ | ⟨h1, h2, h3, h4⟩
 ·rw [h1] at hc6; cases hc6
 first | omega
def ChainAt1 (l : List Ver) (i : Nat) : Prop := ∀ x, l[i]? = some x → VerOk x ∧ 0 < x.stamp ∧ x.stamp ≤ 1152921504606846975 ∧ ∀ (j : Nat) y, i = j + 1 → l[j]? = some y → y.stamp < x.stamp
def ChainOk (l : List Ver) : Prop := ∀ i, ChainAt1 l i
theorem s13al38 (w : World) : (Instr.alloc 38 true (.tuple #[])).run Try.prog w = .ok (.pointer (some ⟨w.heap.size, 0, none⟩)) (w.alloc (.cells ([.int .i64 0, .bool false, .int .i64 0, .int .i64 0, .string ⟨([] : List UInt8).toArray⟩, .slice none 0 0, .slice none 0 0, .slice none 0 0] : List Value).toArray 38)) := by kernel_rfl
theorem s13callable64 : Callable Try.prog 64 := ⟨_, Try.func64, by kernel_rfl, by kernel_rfl⟩
set_option maxHeartbeats 2000000 in
theorem chainRight0 (B : Base) (H : List Res) (w : World) (ad : Option Addr) (c : Nat) (xs : List Value) (l : List Ver) (hr : RdV B [] ad xs) (hxs : VersAt B l xs) (hm : l.length ≤ 1000000) (hv : Inv B H w) :
  Calls Try.prog 52 #[.slice ad l.length c] w fun e w' => ∃ b, e = .returned (.bool b) ∧ (b = true ↔ ChainOk l) ∧ Inv B H w' := by
 refine (callsIn_wide (n := 5)).1 ?_
 refine callsIn_of_wp Try.func52 rfl trivial ?_
 simp only [Try.ntmps52, List.size_toArray, List.length_cons, List.length_nil, Nat.reduceAdd, Nat.reduceSub, Array.replicate_succ, Array.replicate_zero, List.push_toArray, List.append_toArray, List.nil_append, List.cons_append]
 refine sK fun K1 hK1 => rL ?_
 refine xA (.bool false) rfl rfl rfl ?_
 refine wL ?_
 simp only [zP, zI, zS, zO]
 refine tN (hK1 _ _ ?_)
 clear hK1 K1
 refine sK fun K2 hK2 => rL ?_
 refine xA (.int .i64 0) rfl rfl rfl ?_
 refine wL ?_
 simp only [zP, zI, zS, zO]
 refine tN (hK2 _ _ ?_)
 clear hK2 K2
 refine sK fun K3 hK3 => ?_
 refine sK fun K4 hK4 => rL ?_
 refine xM (.slice ad l.length c) rfl rfl rfl ?_
 refine xG (.int .i64 (l.length : Int)) rfl rfl (ex_len0 Try.underlying66 rfl rfl) ?_
 refine xM (.int .i64 0) rfl rfl rfl ?_
 refine wL ?_
 simp only [zP, zI, zS, zO]
 refine tN (hK4 _ _ ?_)
 clear hK4 K4
 refine wpIn_block ?_
 gi_loopw [3, 8] (fun x3 x8 wr => ∃ (i : Nat) (last : Int), x3 = .int .i64 last ∧ x8 = .int .i64 (i : Int) ∧ i ≤ l.length ∧ (i = 0 → last = 0) ∧ (∀ (j : Nat) y, i = j + 1 → l[j]? = some y → last = y.stamp) ∧ (∀ k, k < i → ChainAt1 l k) ∧ 0 ≤ last ∧ Inv B H wr) (fun x3 x8 _ => l.length - (intOf x8).toNat)
 case atStart => exact ⟨0, 0, rfl, rfl, Nat.zero_le _, fun _ => rfl, fun j y h => by omega, fun k h => by omega, Int.le_refl _, hv⟩
 case round =>
  obtain ⟨i, last, rfl, rfl, hi, hl0, hl1, hall, hlp, hv⟩ := hrel
  refine sK fun K6 hK6 => rL ?_
  by_cases hb7 : (i : Int) < (l.length : Int)
  ·refine xG (.bool true) rfl rfl (ex_lss (k := .i64) (m := (i : Int)) (n := (l.length : Int)) rfl rfl rfl (decide_eq_true hb7)) ?_
   refine wL ?_
   simp only [zP, zI, zS, zO]
   refine tN (hK6 _ _ ?_)
   clear hK6 K6
   refine sK fun K8 hK8 => ?_
   refine wpIn_cond_true rfl ?_
   refine wpIn_skip ?_
   refine tN (hK8 _ _ ?_)
   clear hK8 K8
   refine sK fun K9 hK9 => ?_
   refine wpIn_block ?_
   refine sK fun K10 hK10 => ?_
   obtain ⟨x, hx⟩ : ∃ x, l[i]? = some x := ⟨_, List.getElem?_eq_getElem (show i < l.length by omega)⟩
   obtain ⟨bb, bo, xp, xt, xz, had, hvalx, hrdx⟩ := VersAt.reads hxs hr hx
   subst had
   refine rL ?_
   refine xG (.pointer (some ⟨bb, bo + i * 8, none⟩)) rfl rfl (ex_index rfl rfl rfl (run_idx (k := i) Try.underlying66 s1es66 (by omega))) ?_
   refine xL (.agg #[.int .i64 x.stamp, .bool x.gone, .int .i64 x.expire, .int .i64 x.val.kind, .string ⟨x.val.text.toArray⟩, xp, xt, xz]) rfl rfl rfl (run_loadR (cs := [.int .i64 x.stamp, .bool x.gone, .int .i64 x.expire, .int .i64 x.val.kind, .string ⟨x.val.text.toArray⟩, xp, xt, xz]) s1wd38 (Reads.mid (pre := []) (mid := [.int .i64 x.stamp, .bool x.gone, .int .i64 x.expire, .int .i64 x.val.kind, .string ⟨x.val.text.toArray⟩, xp, xt, xz]) (post := []) hrdx _ _ _ (Base.Le.refl _) no_res hv)) ?_
   refine sl_alloc tV (wn rfl) rfl hv s13al38 (fun b11 w12 hv => ?_)
   simp only [zP, zI, zS, zO]
   refine sl_storeNAt 0 (new := [.int .i64 x.stamp, .bool x.gone, .int .i64 x.expire, .int .i64 x.val.kind, .string ⟨x.val.text.toArray⟩, xp, xt, xz]) (pre := []) (mid := [.int .i64 0, .bool false, .int .i64 0, .int .i64 0, .string ⟨([] : List UInt8).toArray⟩, .slice none 0 0, .slice none 0 0, .slice none 0 0]) (post := []) (L' := [.int .i64 x.stamp, .bool x.gone, .int .i64 x.expire, .int .i64 x.val.kind, .string ⟨x.val.text.toArray⟩, xp, xt, xz]) tV (wn rfl) rfl rfl rfl hv rfl s1sz38 rfl rfl rfl (one_cons rfl (one_cons rfl (one_cons rfl (one_cons rfl (one_cons rfl (one_cons hvalx.p.one (one_cons hvalx.t.one (one_cons hvalx.z.one one_nil)))))))) rfl (fun w13 hv => ?_)
   simp only [List.set_cons_zero] at hv
   refine wL ?_
   simp only [zN]
   refine tN (hK10 _ _ ?_)
   clear hK10 K10
   refine sK fun K14 hK14 => ?_
   refine sK fun K15 hK15 => rL ?_
   refine xF (.pointer (some ⟨b11, 0, none⟩)) rfl rfl rfl (s2fa38_0 _ _ _) ?_
   refine xL (.int .i64 x.stamp) rfl rfl rfl (run_load1 s2na3 (hv.load 0 0 rfl rfl)) ?_
   refine xM (.int .i64 last) rfl rfl rfl ?_
   simp only [zP, zI, zS, zO]
   by_cases hb16 : x.stamp ≤ last
   ·refine xG (.bool true) rfl rfl (ex_leq (k := .i64) (m := x.stamp) (n := last) rfl rfl rfl (decide_eq_true hb16)) ?_
    refine xM (.bool true) rfl rfl rfl ?_
    refine xT 4 16 false true rfl rfl rfl rfl rfl rfl rfl (by decide) ?_
    simp only [zP, zI, zS, zO]
    refine xK true (.bool true) rfl rfl rfl rfl ?_
    simp only [zP, zI, zS, zO]
    refine xM (.bool true) rfl rfl rfl ?_
    refine xT 9 21 false true rfl rfl rfl rfl rfl rfl rfl (by decide) ?_
    simp only [zP, zI, zS, zO]
    refine xK true (.bool true) rfl rfl rfl rfl ?_
    refine wL ?_
    simp only [zP, zI, zS, zO]
    refine tN (hK15 _ _ ?_)
    clear hK15 K15
    refine wpIn_cond_true rfl ?_
    refine sK fun K17 hK17 => rL ?_
    refine xA (.bool false) rfl rfl rfl ?_
    refine wL ?_
    simp only [zP, zI, zS, zO]
    refine tN (hK17 _ _ ?_)
    clear hK17 K17
    refine wpIn_ret ?_
    refine then_ret ?_
    clear hK14 K14
    refine blk_ret ?_
    refine then_ret ?_
    clear hK9 K9
    refine then_ret ?_
    refine blk_ret ?_
    refine then_ret ?_
    clear hK3 K3
    refine bR rfl rfl ?_
    exact ⟨false, rfl, ⟨fun h => (by cases h), fun h => by
     obtain ⟨-, h1, h2, h3⟩ := h i x hx
     rcases Nat.eq_zero_or_pos i with h0 | h0
     ·have := hl0 h0; omega
     obtain ⟨j, hj⟩ : ∃ j, i = j + 1 := ⟨i - 1, by omega⟩
     obtain ⟨y, hy⟩ : ∃ y, l[j]? = some y := ⟨_, List.getElem?_eq_getElem (show j < l.length by omega)⟩
     have h4 := h3 j y hj hy
     have h5 := hl1 j y hj hy
     omega⟩, (hv.sub (List.Sublist.cons _ (List.Sublist.refl _)))⟩
   refine xG (.bool false) rfl rfl (ex_leq (k := .i64) (m := x.stamp) (n := last) rfl rfl rfl (decide_eq_false hb16)) ?_
   refine xM (.bool false) rfl rfl rfl ?_
   refine xH 4 16 false (.pointer (some ⟨b11, 0, none⟩)) rfl rfl rfl rfl (ex_field rfl rfl (s2fa38_0 _ _ _)) ?_
   simp only [zP, zI, zS, zO]
   refine xH 4 16 false (.int .i64 x.stamp) rfl rfl rfl rfl (ex_load rfl rfl (run_load1 s2na3 (hv.load 0 0 rfl rfl))) ?_
   by_cases hb18 : x.stamp > 1152921504606846975
   ·refine xH 4 16 false (.bool true) rfl rfl rfl rfl (ex_gtr (k := .i64) (m := x.stamp) (n := 1152921504606846975) rfl rfl rfl (decide_eq_true hb18)) ?_
    refine xK false (.bool true) rfl rfl rfl rfl ?_
    simp only [zP, zI, zS, zO]
    refine xM (.bool true) rfl rfl rfl ?_
    refine xT 9 21 false true rfl rfl rfl rfl rfl rfl rfl (by decide) ?_
    simp only [zP, zI, zS, zO]
    refine xK true (.bool true) rfl rfl rfl rfl ?_
    refine wL ?_
    simp only [zP, zI, zS, zO]
    refine tN (hK15 _ _ ?_)
    clear hK15 K15
    refine wpIn_cond_true rfl ?_
    refine sK fun K19 hK19 => rL ?_
    refine xA (.bool false) rfl rfl rfl ?_
    refine wL ?_
    simp only [zP, zI, zS, zO]
    refine tN (hK19 _ _ ?_)
    clear hK19 K19
    refine wpIn_ret ?_
    refine then_ret ?_
    clear hK14 K14
    refine blk_ret ?_
    refine then_ret ?_
    clear hK9 K9
    refine then_ret ?_
    refine blk_ret ?_
    refine then_ret ?_
    clear hK3 K3
    refine bR rfl rfl ?_
    exact ⟨false, rfl, ⟨fun h => (by cases h), fun h => by
     obtain ⟨-, h1, h2, h3⟩ := h i x hx
     rcases Nat.eq_zero_or_pos i with h0 | h0
     ·have := hl0 h0; omega
     obtain ⟨j, hj⟩ : ∃ j, i = j + 1 := ⟨i - 1, by omega⟩
     obtain ⟨y, hy⟩ : ∃ y, l[j]? = some y := ⟨_, List.getElem?_eq_getElem (show j < l.length by omega)⟩
     have h4 := h3 j y hj hy
     have h5 := hl1 j y hj hy
     omega⟩, (hv.sub (List.Sublist.cons _ (List.Sublist.refl _)))⟩
   refine xH 4 16 false (.bool false) rfl rfl rfl rfl (ex_gtr (k := .i64) (m := x.stamp) (n := 1152921504606846975) rfl rfl rfl (decide_eq_false hb18)) ?_
   refine xK false (.bool false) rfl rfl rfl rfl ?_
   simp only [zP, zI, zS, zO]
   refine xM (.bool false) rfl rfl rfl ?_
   refine xH 9 21 false (.agg #[.int .i64 x.stamp, .bool x.gone, .int .i64 x.expire, .int .i64 x.val.kind, .string ⟨x.val.text.toArray⟩, xp, xt, xz]) rfl rfl rfl rfl (ex_load rfl rfl (run_load_mid (pre := []) (mid := [.int .i64 x.stamp, .bool x.gone, .int .i64 x.expire, .int .i64 x.val.kind, .string ⟨x.val.text.toArray⟩, xp, xt, xz]) (post := []) s1wd38 (show Blk _ b11 ([] ++ [.int .i64 x.stamp, .bool x.gone, .int .i64 x.expire, .int .i64 x.val.kind, .string ⟨x.val.text.toArray⟩, xp, xt, xz] ++ []) _ from hv.get 0 rfl) rfl)) ?_
   refine wpi_callG s13callable64 tV wideC rfl (wanted_of (j := 9) (d := 21) (b := false) rfl rfl rfl) rfl (args := #[.agg #[.int .i64 x.stamp, .bool x.gone, .int .i64 x.expire, .int .i64 x.val.kind, .string ⟨x.val.text.toArray⟩, xp, xt, xz]]) (by simp only [yA, yB, yC]; rfl) ((chainContent B _ _ x xp xt xz hvalx hv).mono ?_)
   rintro e w21 ⟨bl20, rfl, hbl20, hv⟩
   refine ⟨_, rfl, ?_⟩
   cases bl20
   ·simp only [zP, zI, zS, zO]
    refine xH 9 21 false (.bool true) rfl rfl rfl rfl (ex_not (b := false) rfl rfl rfl) ?_
    refine xK false (.bool true) rfl rfl rfl rfl ?_
    refine wL ?_
    simp only [zP, zI, zS, zO]
    refine tN (hK15 _ _ ?_)
    clear hK15 K15
    refine wpIn_cond_true rfl ?_
    refine sK fun K22 hK22 => rL ?_
    refine xA (.bool false) rfl rfl rfl ?_
    refine wL ?_
    simp only [zP, zI, zS, zO]
    refine tN (hK22 _ _ ?_)
    clear hK22 K22
    refine wpIn_ret ?_
    refine then_ret ?_
    clear hK14 K14
    refine blk_ret ?_
    refine then_ret ?_
    clear hK9 K9
    refine then_ret ?_
    refine blk_ret ?_
    refine then_ret ?_
    clear hK3 K3
    refine bR rfl rfl ?_
    exact ⟨false, rfl, ⟨fun h => (by cases h), fun h => by have h9 := hbl20.2 (h i x hx).1; cases h9⟩, (hv.sub (List.Sublist.cons _ (List.Sublist.refl _)))⟩
   simp only [zP, zI, zS, zO]
   refine xH 9 21 false (.bool false) rfl rfl rfl rfl (ex_not (b := true) rfl rfl rfl) ?_
   refine xK false (.bool false) rfl rfl rfl rfl ?_
   refine wL ?_
   simp only [zP, zI, zS, zO]
   refine tN (hK15 _ _ ?_)
   clear hK15 K15
   refine wpIn_cond_false rfl ?_
   refine wpIn_skip ?_
   refine tN (hK14 _ _ ?_)
   clear hK14 K14
   refine rL ?_
   refine xF (.pointer (some ⟨b11, 0, none⟩)) rfl rfl rfl (s2fa38_0 _ _ _) ?_
   refine xL (.int .i64 x.stamp) rfl rfl rfl (run_load1 s2na3 (hv.load 0 0 rfl rfl)) ?_
   refine xA (.int .i64 x.stamp) rfl rfl rfl ?_
   refine wL ?_
   simp only [zP, zI, zS, zO]
   refine blk_normal ?_
   refine tN (hK9 _ _ ?_)
   clear hK9 K9
   refine rL ?_
   refine xG (.int .i64 ((i + 1 : Nat) : Int)) rfl rfl (ex_add (m := (i : Int)) (n := 1) rfl rfl rfl (by rw [i64_in (by omega)]; omega)) ?_
   refine xM (.int .i64 ((i + 1 : Nat) : Int)) rfl rfl rfl ?_
   refine wL ?_
   simp only [zP, zI, zS, zO]
   refine then_normal ?_
   go_roundw
   case rel => exact ⟨i + 1, x.stamp, rfl, rfl, by omega, fun h => by omega, fun j y hj hy => (by rw [show j = i by omega, hx] at hy; cases hy; rfl), fun k hk => (by
      rcases Nat.lt_or_ge k i with h | h
      ·exact hall k h
      obtain rfl : k = i := by omega
      intro x' hx'
      rw [hx] at hx'; cases hx'
      exact ⟨hbl20.1 rfl, by omega, by omega, fun j y hj hy => by have := hl1 j y hj hy; omega⟩), by omega, (hv.sub (List.Sublist.cons _ (List.Sublist.refl _)))⟩
   case measure => show l.length - (((i + 1 : Nat) : Int)).toNat < l.length - ((i : Int)).toNat; omega
  refine xG (.bool false) rfl rfl (ex_lss (k := .i64) (m := (i : Int)) (n := (l.length : Int)) rfl rfl rfl (decide_eq_false hb7)) ?_
  refine wL ?_
  simp only [zP, zI, zS, zO]
  refine tN (hK6 _ _ ?_)
  clear hK6 K6
  refine sK fun K23 hK23 => ?_
  refine wpIn_cond_false rfl ?_
  refine wpIn_exit ?_
  refine then_exit ?_
  clear hK23 K23
  refine then_exit ?_
  refine blk_hit ?_
  refine tN (hK3 _ _ ?_)
  clear hK3 K3
  refine sK fun K24 hK24 => rL ?_
  refine xA (.bool true) rfl rfl rfl ?_
  refine wL ?_
  simp only [zP, zI, zS, zO]
  refine tN (hK24 _ _ ?_)
  clear hK24 K24
  refine wpIn_ret ?_
  refine bR rfl rfl ?_
  obtain rfl : i = l.length := by omega
  exact ⟨true, rfl, ⟨fun _ => fun k x hx => hall k (List.getElem?_eq_some_iff.1 hx).1 x hx, fun _ => rfl⟩, hv⟩
theorem s13callable52 : Callable Try.prog 52 := ⟨_, Try.func52, by kernel_rfl, by kernel_rfl⟩
set_option maxHeartbeats 2000000 in
theorem chainRight (B : Base) (H : List Res) (w : World) (ad : Option Addr) (c : Nat) (xs : List Value) (l : List Ver) (hr : RdV B [] ad xs) (hxs : VersAt B l xs) (hm : l.length ≤ 1000000) (hv : Inv B H w) :
  Calls Try.prog 49 #[.slice ad l.length c] w fun e w' => ∃ b, e = .returned (.bool b) ∧ (b = true ↔ l.length ≤ 64 ∧ ChainOk l) ∧ Inv B H w' := by
 refine (callsIn_wide (n := 5)).1 ?_
 refine callsIn_of_wp Try.func49 rfl trivial ?_
 simp only [Try.ntmps49, List.size_toArray, List.length_cons, List.length_nil, Nat.reduceAdd, Nat.reduceSub, Array.replicate_succ, Array.replicate_zero, List.push_toArray, List.append_toArray, List.nil_append, List.cons_append]
 refine sK fun K1 hK1 => rL ?_
 refine xA (.bool false) rfl rfl rfl ?_
 refine wL ?_
 simp only [zP, zI, zS, zO]
 refine tN (hK1 _ _ ?_)
 clear hK1 K1
 refine sK fun K2 hK2 => rL ?_
 refine xM (.slice ad l.length c) rfl rfl rfl ?_
 refine xG (.int .i64 (l.length : Int)) rfl rfl (ex_len0 Try.underlying66 rfl rfl) ?_
 by_cases hb3 : (l.length : Int) ≤ 64
 ·refine xG (.bool true) rfl rfl (ex_leq (k := .i64) (m := (l.length : Int)) (n := 64) rfl rfl rfl (decide_eq_true hb3)) ?_
  simp only [zP, zI, zS, zO]
  refine xM (.bool true) rfl rfl rfl ?_
  refine xH 3 6 true (.slice ad l.length c) rfl rfl rfl rfl (ex_move rfl rfl) ?_
  refine wpi_callG s13callable52 tV wideC rfl (wanted_of (j := 3) (d := 6) (b := true) rfl rfl rfl) rfl (args := #[.slice ad l.length c]) (by simp only [yA, yB, yC]; rfl) ((chainRight0 B _ _ ad c xs l hr hxs hm hv).mono ?_)
  rintro e w5 ⟨bl4, rfl, hbl4, hv⟩
  refine ⟨_, rfl, ?_⟩
  cases bl4
  ·simp only [zP, zI, zS, zO]
   refine xK true (.bool false) rfl rfl rfl rfl ?_
   refine xA (.bool false) rfl rfl rfl ?_
   refine wL ?_
   simp only [zP, zI, zS, zO]
   refine tN (hK2 _ _ ?_)
   clear hK2 K2
   refine wpIn_ret ?_
   refine bR rfl rfl ?_
   exact ⟨false, rfl, ⟨fun h => (by cases h), fun ⟨h1, h2⟩ => by first | omega | (have h9 := hbl4.2 h2; cases h9)⟩, hv⟩
  simp only [zP, zI, zS, zO]
  refine xK true (.bool true) rfl rfl rfl rfl ?_
  refine xA (.bool true) rfl rfl rfl ?_
  refine wL ?_
  simp only [zP, zI, zS, zO]
  refine tN (hK2 _ _ ?_)
  clear hK2 K2
  refine wpIn_ret ?_
  refine bR rfl rfl ?_
  exact ⟨true, rfl, ⟨fun _ => ⟨by omega, hbl4.1 rfl⟩, fun _ => rfl⟩, hv⟩
 refine xG (.bool false) rfl rfl (ex_leq (k := .i64) (m := (l.length : Int)) (n := 64) rfl rfl rfl (decide_eq_false hb3)) ?_
 simp only [zP, zI, zS, zO]
 refine xM (.bool false) rfl rfl rfl ?_
 refine xN 3 6 true false rfl rfl rfl (by decide) ?_
 refine xN 3 6 true false rfl rfl rfl (by decide) ?_
 simp only [zP, zI, zS, zO]
 refine xK false (.bool false) rfl rfl rfl rfl ?_
 refine xA (.bool false) rfl rfl rfl ?_
 refine wL ?_
 simp only [zP, zI, zS, zO]
 refine tN (hK2 _ _ ?_)
 clear hK2 K2
 refine wpIn_ret ?_
 refine bR rfl rfl ?_
 exact ⟨false, rfl, ⟨fun h => (by cases h), fun ⟨h1, h2⟩ => by first | omega⟩, hv⟩
end Go.Proofs.Ytffmbdagjpdieaa
/- chain.Put; store.valid, store.all. -/
namespace Go.Proofs.Ytffmbdagjpdieaa
open Go.RowKit Go.Pm
theorem chainRightN (B : Base) (H : List Res) (w : World) (ad : Option Addr) (n c : Nat) (xs : List Value) (l : List Ver) (hn : n = l.length) (hr : RdV B [] ad xs) (hxs : VersAt B l xs) (hm : l.length ≤ 1000000) (hv : Inv B H w) :
  Calls Try.prog 52 #[.slice ad n c] w fun e w' => ∃ b, e = .returned (.bool b) ∧ (b = true ↔ ChainOk l) ∧ Inv B H w' := by
 subst hn; exact chainRight0 B H w ad c xs l hr hxs hm hv
theorem s14mk38 : (Try.prog.info? 38).map (fun i => (i.zero, i.size, i.bytes)) = some (some (.agg #[.int .i64 0, .bool false, .int .i64 0, .int .i64 0, .string ⟨([] : List UInt8).toArray⟩, .slice none 0 0, .slice none 0 0, .slice none 0 0]), 8, 120) := by kernel_rfl
theorem s14el66 : Elem Try.prog 66 38 (.agg #[.int .i64 0, .bool false, .int .i64 0, .int .i64 0, .string ⟨([] : List UInt8).toArray⟩, .slice none 0 0, .slice none 0 0, .slice none 0 0]) 8 120 := elem_of Try.underlying66 s14mk38 (by rfl) (by decide)
theorem s14al38 (w : World) : (Instr.alloc 38 true (.tuple #[])).run Try.prog w = .ok (.pointer (some ⟨w.heap.size, 0, none⟩)) (w.alloc (.cells ([.int .i64 0, .bool false, .int .i64 0, .int .i64 0, .string ⟨([] : List UInt8).toArray⟩, .slice none 0 0, .slice none 0 0, .slice none 0 0] : List Value).toArray 38)) := by kernel_rfl
set_option maxHeartbeats 4000000 in
theorem chainPut0 (B : Base) (H : List Res) (w : World) (ad ad2 : Option Addr) (c c2 : Nat) (xs xs2 : List Value) (l l2 : List Ver) (hr : RdV B [] ad xs) (hxs : VersAt B l xs) (hr2 : RdV B [] ad2 xs2) (hxs2 : VersAt B l2 xs2) (hm : l.length ≤ 100000) (hm2 : l2.length ≤ 100000) (hv : Inv B H w) :
  Calls Try.prog 41 #[.slice ad l.length c, .slice ad2 l2.length c2] w fun e w' => ∃ C v' ec, B.Le C ∧ e = .returned (.tuple #[v', .int .i64 ec]) ∧ Inv C H w' ∧ ((¬ ChainOk (l ++ l2) ∧ ec = 2 ∧ v' = .slice none 0 0) ∨ (ChainOk (l ++ l2) ∧ 64 < (l ++ l2).length ∧ ec = 22 ∧ v' = .slice none 0 0) ∨ (ChainOk (l ++ l2) ∧ (l ++ l2).length ≤ 64 ∧ ec = 0 ∧ ChainB C v' (l ++ l2))) := by
 refine (callsIn_wide (n := 5)).1 ?_
 refine callsIn_of_wp Try.func41 rfl trivial ?_
 simp only [Try.ntmps41, List.size_toArray, List.length_cons, List.length_nil, Nat.reduceAdd, Nat.reduceSub, Array.replicate_succ, Array.replicate_zero, List.push_toArray, List.append_toArray, List.nil_append, List.cons_append]
 refine sK fun K1 hK1 => rL ?_
 refine xA (.slice none 0 0) rfl rfl rfl ?_
 refine xA (.int .i64 0) rfl rfl rfl ?_
 refine wL ?_
 simp only [zP, zI, zS, zO]
 refine tN (hK1 _ _ ?_)
 clear hK1 K1
 refine sK fun K2 hK2 => rL ?_
 refine xM (.slice ad l.length c) rfl rfl rfl ?_
 refine xG (.int .i64 (l.length : Int)) rfl rfl (ex_len0 Try.underlying66 rfl rfl) ?_
 refine xM (.slice ad2 l2.length c2) rfl rfl rfl ?_
 simp only [zP, zI, zS, zO]
 refine xG (.int .i64 (l2.length : Int)) rfl rfl (ex_len0 Try.underlying66 rfl rfl) ?_
 refine xG (.int .i64 ((l.length + l2.length : Nat) : Int)) rfl rfl (ex_add (m := (l.length : Int)) (n := (l2.length : Int)) rfl rfl rfl (by rw [i64_in (by omega)]; omega)) ?_
 refine sl_makeRow (cap := (l.length + l2.length : Nat)) tV (wn rfl) rfl rfl rfl s14el66 (by unfold maxLen; omega) (by omega) hv (fun b3 w4 hv => ?_)
 simp only [zP, zI, zS, zO]
 refine xA (.slice (some ⟨b3, 0, none⟩) 0 (l.length + l2.length : Nat)) rfl rfl rfl ?_
 refine wL ?_
 simp only [zP, zI, zS, zO]
 refine tN (hK2 _ _ ?_)
 clear hK2 K2
 refine sK fun K5 hK5 => ?_
 refine sK fun K6 hK6 => rL ?_
 refine xM (.slice ad l.length c) rfl rfl rfl ?_
 refine xG (.int .i64 (l.length : Int)) rfl rfl (ex_len0 Try.underlying66 rfl rfl) ?_
 refine xM (.int .i64 0) rfl rfl rfl ?_
 refine wL ?_
 simp only [zP, zI, zS, zO]
 refine tN (hK6 _ _ ?_)
 clear hK6 K6
 refine wpIn_block ?_
 gi_loopw [6, 19] (fun x6 x19 wr => ∃ (i : Nat) (C : Base) (ra : Option Addr) (rc : Nat) (ys : List Value), x6 = .slice ra i rc ∧ x19 = .int .i64 (i : Int) ∧ B.Le C ∧ i ≤ l.length ∧ VersAt C (l.take i) ys ∧ Inv C (Res.row 38 8 (.slice ra i rc) i ys :: H) wr) (fun x6 x19 _ => l.length - (intOf x19).toNat)
 case atStart => exact ⟨0, B, _, _, [], rfl, rfl, Base.Le.refl _, Nat.zero_le _, rfl, hv⟩
 case round =>
  obtain ⟨i, C, ra, rc, ys, rfl, rfl, hBC, hi, hys, hv⟩ := hrel
  refine sK fun K8 hK8 => rL ?_
  by_cases hb9 : (i : Int) < (l.length : Int)
  ·refine xG (.bool true) rfl rfl (ex_lss (k := .i64) (m := (i : Int)) (n := (l.length : Int)) rfl rfl rfl (decide_eq_true hb9)) ?_
   refine wL ?_
   simp only [zP, zI, zS, zO]
   refine tN (hK8 _ _ ?_)
   clear hK8 K8
   refine sK fun K10 hK10 => ?_
   refine wpIn_cond_true rfl ?_
   refine wpIn_skip ?_
   refine tN (hK10 _ _ ?_)
   clear hK10 K10
   refine sK fun K11 hK11 => ?_
   refine wpIn_block ?_
   refine sK fun K12 hK12 => ?_
   obtain ⟨x, hx⟩ : ∃ x, l[i]? = some x := ⟨_, List.getElem?_eq_getElem (show i < l.length by omega)⟩
   obtain ⟨bb, bo, xp, xt, xz, had, hvalx, hrdx⟩ := VersAt.reads hxs hr hx
   subst had
   refine rL ?_
   refine xG (.pointer (some ⟨bb, bo + i * 8, none⟩)) rfl rfl (ex_index rfl rfl rfl (run_idx (k := i) Try.underlying66 s1es66 (by omega))) ?_
   refine xL (.agg #[.int .i64 x.stamp, .bool x.gone, .int .i64 x.expire, .int .i64 x.val.kind, .string ⟨x.val.text.toArray⟩, xp, xt, xz]) rfl rfl rfl (run_loadR (cs := [.int .i64 x.stamp, .bool x.gone, .int .i64 x.expire, .int .i64 x.val.kind, .string ⟨x.val.text.toArray⟩, xp, xt, xz]) s1wd38 (Reads.mid (pre := []) (mid := [.int .i64 x.stamp, .bool x.gone, .int .i64 x.expire, .int .i64 x.val.kind, .string ⟨x.val.text.toArray⟩, xp, xt, xz]) (post := []) hrdx _ _ _ hBC no_res hv)) ?_
   refine sl_alloc tV (wn rfl) rfl hv s14al38 (fun b13 w14 hv => ?_)
   simp only [zP, zI, zS, zO]
   refine sl_storeNAt 0 (new := [.int .i64 x.stamp, .bool x.gone, .int .i64 x.expire, .int .i64 x.val.kind, .string ⟨x.val.text.toArray⟩, xp, xt, xz]) (pre := []) (mid := [.int .i64 0, .bool false, .int .i64 0, .int .i64 0, .string ⟨([] : List UInt8).toArray⟩, .slice none 0 0, .slice none 0 0, .slice none 0 0]) (post := []) (L' := [.int .i64 x.stamp, .bool x.gone, .int .i64 x.expire, .int .i64 x.val.kind, .string ⟨x.val.text.toArray⟩, xp, xt, xz]) tV (wn rfl) rfl rfl rfl hv rfl s1sz38 rfl rfl rfl (one_cons rfl (one_cons rfl (one_cons rfl (one_cons rfl (one_cons rfl (one_cons hvalx.p.one (one_cons hvalx.t.one (one_cons hvalx.z.one one_nil)))))))) rfl (fun w15 hv => ?_)
   simp only [List.set_cons_zero] at hv
   refine wL ?_
   simp only [zN]
   refine tN (hK12 _ _ ?_)
   clear hK12 K12
   refine rL ?_
   refine xM (.slice ra i rc) rfl rfl rfl ?_
   refine xL (.agg #[.int .i64 x.stamp, .bool x.gone, .int .i64 x.expire, .int .i64 x.val.kind, .string ⟨x.val.text.toArray⟩, xp, xt, xz]) rfl rfl rfl (run_load_mid (pre := []) (mid := [.int .i64 x.stamp, .bool x.gone, .int .i64 x.expire, .int .i64 x.val.kind, .string ⟨x.val.text.toArray⟩, xp, xt, xz]) (post := []) s1wd38 (show Blk _ b13 ([] ++ [.int .i64 x.stamp, .bool x.gone, .int .i64 x.expire, .int .i64 x.val.kind, .string ⟨x.val.text.toArray⟩, xp, xt, xz] ++ []) _ from hv.get 0 rfl) rfl) ?_
   refine xC s2callable47 rfl rfl (l := [.agg #[.int .i64 x.stamp, .bool x.gone, .int .i64 x.expire, .int .i64 x.val.kind, .string ⟨x.val.text.toArray⟩, xp, xt, xz]]) rfl ((chainClone _ _ _ x xp xt xz (hvalx.more hBC) hv).mono ?_)
   rintro e w20 ⟨C16, p17, t18, z19, hC16, rfl, hp17, hv⟩
   refine ⟨_, rfl, ?_⟩
   simp only [zP, zI, zS, zO]
   refine sl_rowAgg (L := [.int .i64 x.stamp, .bool x.gone, .int .i64 x.expire, .int .i64 x.val.kind, .string ⟨x.val.text.toArray⟩, p17, t18, z19]) tV (wn rfl) rfl rfl hv s14el66 rfl (by decide) (fun b21 w22 hv => ?_)
   replace hv := hv.front 2 rfl
   simp only [List.eraseIdx_cons_succ, List.eraseIdx_cons_zero] at hv
   refine sl_append (news := [.int .i64 x.stamp, .bool x.gone, .int .i64 x.expire, .int .i64 x.val.kind, .string ⟨x.val.text.toArray⟩, p17, t18, z19]) tV (wn rfl) rfl rfl rfl s14el66 hv (ok_full (by omega)) rfl (rd_all (hv.get 1 rfl)) (verCells_one (v := x) hp17) (by unfold maxLen; omega) (by omega) (fun rv23 w26 hv => ?_)
   obtain ⟨ra24, rc25, rfl⟩ := row_slice hv.head
   refine xA (.slice ra24 (i + 1) rc25) rfl rfl rfl ?_
   refine wL ?_
   simp only [zP, zI, zS, zO]
   refine blk_normal ?_
   refine tN (hK11 _ _ ?_)
   clear hK11 K11
   refine rL ?_
   refine xG (.int .i64 ((i + 1 : Nat) : Int)) rfl rfl (ex_add (m := (i : Int)) (n := 1) rfl rfl rfl (by rw [i64_in (by omega)]; omega)) ?_
   refine xM (.int .i64 ((i + 1 : Nat) : Int)) rfl rfl rfl ?_
   refine wL ?_
   simp only [zP, zI, zS, zO]
   refine then_normal ?_
   go_roundw
   case rel => exact ⟨i + 1, _, _, _, _, rfl, rfl, (hBC.trans hC16), by omega, (hys.more hC16).next hx hp17, (hv.sub (List.Sublist.cons_cons _ (List.Sublist.cons _ (List.Sublist.cons _ (List.Sublist.refl _)))))⟩
   case measure => show l.length - (((i + 1 : Nat) : Int)).toNat < l.length - ((i : Int)).toNat; omega
  refine xG (.bool false) rfl rfl (ex_lss (k := .i64) (m := (i : Int)) (n := (l.length : Int)) rfl rfl rfl (decide_eq_false hb9)) ?_
  refine wL ?_
  simp only [zP, zI, zS, zO]
  refine tN (hK8 _ _ ?_)
  clear hK8 K8
  refine sK fun K27 hK27 => ?_
  refine wpIn_cond_false rfl ?_
  refine wpIn_exit ?_
  refine then_exit ?_
  clear hK27 K27
  refine then_exit ?_
  refine blk_hit ?_
  refine tN (hK5 _ _ ?_)
  clear hK5 K5
  refine sK fun K28 hK28 => ?_
  refine sK fun K29 hK29 => ?_
  obtain rfl : i = l.length := by omega
  refine rL ?_
  refine xM (.slice ad2 l2.length c2) rfl rfl rfl ?_
  refine xG (.int .i64 (l2.length : Int)) rfl rfl (ex_len0 Try.underlying66 rfl rfl) ?_
  refine xM (.int .i64 0) rfl rfl rfl ?_
  refine wL ?_
  simp only [zP, zI, zS, zO]
  refine tN (hK29 _ _ ?_)
  clear hK29 K29
  refine wpIn_block ?_
  gi_loopw [6, 31] (fun x6 x31 wr => ∃ (i2 : Nat) (C2 : Base) (ra2 : Option Addr) (rc2 : Nat) (ys2 : List Value), x6 = .slice ra2 (l.length + i2) rc2 ∧ x31 = .int .i64 (i2 : Int) ∧ B.Le C2 ∧ i2 ≤ l2.length ∧ VersAt C2 (l ++ l2.take i2) ys2 ∧ Inv C2 (Res.row 38 8 (.slice ra2 (l.length + i2) rc2) (l.length + i2) ys2 :: H) wr) (fun x6 x31 _ => l2.length - (intOf x31).toNat)
  case atStart => exact ⟨0, C, _, _, ys, rfl, rfl, hBC, Nat.zero_le _, by rw [List.take_zero, List.append_nil]; rw [List.take_length] at hys; exact hys, hv⟩
  case round =>
   obtain ⟨i2, C2, ra2, rc2, ys2, rfl, rfl, hBC2, hi2, hys2, hv⟩ := hrel
   refine sK fun K31 hK31 => rL ?_
   by_cases hb32 : (i2 : Int) < (l2.length : Int)
   ·refine xG (.bool true) rfl rfl (ex_lss (k := .i64) (m := (i2 : Int)) (n := (l2.length : Int)) rfl rfl rfl (decide_eq_true hb32)) ?_
    refine wL ?_
    simp only [zP, zI, zS, zO]
    refine tN (hK31 _ _ ?_)
    clear hK31 K31
    refine sK fun K33 hK33 => ?_
    refine wpIn_cond_true rfl ?_
    refine wpIn_skip ?_
    refine tN (hK33 _ _ ?_)
    clear hK33 K33
    refine sK fun K34 hK34 => ?_
    refine wpIn_block ?_
    refine sK fun K35 hK35 => ?_
    obtain ⟨x2, hx2⟩ : ∃ x, l2[i2]? = some x := ⟨_, List.getElem?_eq_getElem (show i2 < l2.length by omega)⟩
    obtain ⟨bb2, bo2, x2p, x2t, x2z, had, hvalx2, hrdx2⟩ := VersAt.reads hxs2 hr2 hx2
    subst had
    refine rL ?_
    refine xG (.pointer (some ⟨bb2, bo2 + i2 * 8, none⟩)) rfl rfl (ex_index rfl rfl rfl (run_idx (k := i2) Try.underlying66 s1es66 (by omega))) ?_
    refine xL (.agg #[.int .i64 x2.stamp, .bool x2.gone, .int .i64 x2.expire, .int .i64 x2.val.kind, .string ⟨x2.val.text.toArray⟩, x2p, x2t, x2z]) rfl rfl rfl (run_loadR (cs := [.int .i64 x2.stamp, .bool x2.gone, .int .i64 x2.expire, .int .i64 x2.val.kind, .string ⟨x2.val.text.toArray⟩, x2p, x2t, x2z]) s1wd38 (Reads.mid (pre := []) (mid := [.int .i64 x2.stamp, .bool x2.gone, .int .i64 x2.expire, .int .i64 x2.val.kind, .string ⟨x2.val.text.toArray⟩, x2p, x2t, x2z]) (post := []) hrdx2 _ _ _ hBC2 no_res hv)) ?_
    refine sl_alloc tV (wn rfl) rfl hv s14al38 (fun b36 w37 hv => ?_)
    simp only [zP, zI, zS, zO]
    refine sl_storeNAt 0 (new := [.int .i64 x2.stamp, .bool x2.gone, .int .i64 x2.expire, .int .i64 x2.val.kind, .string ⟨x2.val.text.toArray⟩, x2p, x2t, x2z]) (pre := []) (mid := [.int .i64 0, .bool false, .int .i64 0, .int .i64 0, .string ⟨([] : List UInt8).toArray⟩, .slice none 0 0, .slice none 0 0, .slice none 0 0]) (post := []) (L' := [.int .i64 x2.stamp, .bool x2.gone, .int .i64 x2.expire, .int .i64 x2.val.kind, .string ⟨x2.val.text.toArray⟩, x2p, x2t, x2z]) tV (wn rfl) rfl rfl rfl hv rfl s1sz38 rfl rfl rfl (one_cons rfl (one_cons rfl (one_cons rfl (one_cons rfl (one_cons rfl (one_cons hvalx2.p.one (one_cons hvalx2.t.one (one_cons hvalx2.z.one one_nil)))))))) rfl (fun w38 hv => ?_)
    simp only [List.set_cons_zero] at hv
    refine wL ?_
    simp only [zN]
    refine tN (hK35 _ _ ?_)
    clear hK35 K35
    refine rL ?_
    refine xM (.slice ra2 (l.length + i2) rc2) rfl rfl rfl ?_
    refine xL (.agg #[.int .i64 x2.stamp, .bool x2.gone, .int .i64 x2.expire, .int .i64 x2.val.kind, .string ⟨x2.val.text.toArray⟩, x2p, x2t, x2z]) rfl rfl rfl (run_load_mid (pre := []) (mid := [.int .i64 x2.stamp, .bool x2.gone, .int .i64 x2.expire, .int .i64 x2.val.kind, .string ⟨x2.val.text.toArray⟩, x2p, x2t, x2z]) (post := []) s1wd38 (show Blk _ b36 ([] ++ [.int .i64 x2.stamp, .bool x2.gone, .int .i64 x2.expire, .int .i64 x2.val.kind, .string ⟨x2.val.text.toArray⟩, x2p, x2t, x2z] ++ []) _ from hv.get 0 rfl) rfl) ?_
    refine xC s2callable47 rfl rfl (l := [.agg #[.int .i64 x2.stamp, .bool x2.gone, .int .i64 x2.expire, .int .i64 x2.val.kind, .string ⟨x2.val.text.toArray⟩, x2p, x2t, x2z]]) rfl ((chainClone _ _ _ x2 x2p x2t x2z (hvalx2.more hBC2) hv).mono ?_)
    rintro e w43 ⟨C39, p40, t41, z42, hC39, rfl, hp40, hv⟩
    refine ⟨_, rfl, ?_⟩
    simp only [zP, zI, zS, zO]
    refine sl_rowAgg (L := [.int .i64 x2.stamp, .bool x2.gone, .int .i64 x2.expire, .int .i64 x2.val.kind, .string ⟨x2.val.text.toArray⟩, p40, t41, z42]) tV (wn rfl) rfl rfl hv s14el66 rfl (by decide) (fun b44 w45 hv => ?_)
    replace hv := hv.front 2 rfl
    simp only [List.eraseIdx_cons_succ, List.eraseIdx_cons_zero] at hv
    refine sl_append (news := [.int .i64 x2.stamp, .bool x2.gone, .int .i64 x2.expire, .int .i64 x2.val.kind, .string ⟨x2.val.text.toArray⟩, p40, t41, z42]) tV (wn rfl) rfl rfl rfl s14el66 hv (ok_full (by omega)) rfl (rd_all (hv.get 1 rfl)) (verCells_one (v := x2) hp40) (by unfold maxLen; omega) (by omega) (fun rv46 w49 hv => ?_)
    obtain ⟨ra47, rc48, rfl⟩ := row_slice hv.head
    refine xA (.slice ra47 ((l.length + i2) + 1) rc48) rfl rfl rfl ?_
    refine wL ?_
    simp only [zP, zI, zS, zO]
    refine blk_normal ?_
    refine tN (hK34 _ _ ?_)
    clear hK34 K34
    refine rL ?_
    refine xG (.int .i64 ((i2 + 1 : Nat) : Int)) rfl rfl (ex_add (m := (i2 : Int)) (n := 1) rfl rfl rfl (by rw [i64_in (by omega)]; omega)) ?_
    refine xM (.int .i64 ((i2 + 1 : Nat) : Int)) rfl rfl rfl ?_
    refine wL ?_
    simp only [zP, zI, zS, zO]
    refine then_normal ?_
    go_roundw
    case rel => exact ⟨i2 + 1, _, _, _, _, rfl, rfl, (hBC2.trans hC39), by omega, by rw [take_next hx2, ← List.append_assoc]; exact VersAt.append (VersAt.single hp40) (hys2.more hC39), (hv.sub (List.Sublist.cons_cons _ (List.Sublist.cons _ (List.Sublist.cons _ (List.Sublist.refl _)))))⟩
    case measure => show l2.length - (((i2 + 1 : Nat) : Int)).toNat < l2.length - ((i2 : Int)).toNat; omega
   refine xG (.bool false) rfl rfl (ex_lss (k := .i64) (m := (i2 : Int)) (n := (l2.length : Int)) rfl rfl rfl (decide_eq_false hb32)) ?_
   refine wL ?_
   simp only [zP, zI, zS, zO]
   refine tN (hK31 _ _ ?_)
   clear hK31 K31
   refine sK fun K50 hK50 => ?_
   refine wpIn_cond_false rfl ?_
   refine wpIn_exit ?_
   refine then_exit ?_
   clear hK50 K50
   refine then_exit ?_
   refine blk_hit ?_
   refine tN (hK28 _ _ ?_)
   clear hK28 K28
   refine sK fun K51 hK51 => ?_
   refine sK fun K52 hK52 => ?_
   obtain rfl : i2 = l2.length := by omega
   rw [List.take_length] at hys2
   obtain ⟨D, hCD, hv, hrD, hokD, -⟩ := hv.rowBy
   have hbd := hBC2.trans hCD
   refine rL ?_
   refine xM (.slice ra2 (l.length + l2.length) rc2) rfl rfl rfl ?_
   refine xC s13callable52 rfl rfl (l := [.slice ra2 (l.length + l2.length) rc2]) rfl ((chainRightN D _ _ ra2 (l.length + l2.length) rc2 ys2 (l ++ l2) (by rw [List.length_append]) hrD (hys2.more hCD) (by rw [List.length_append]; omega) hv).mono ?_)
   rintro e w54 ⟨bl53, rfl, hbl53, hv⟩
   refine ⟨_, rfl, ?_⟩
   cases bl53
   ·refine xG (.bool true) rfl rfl (ex_not (b := false) rfl rfl rfl) ?_
    refine wL ?_
    simp only [zP, zI, zS, zO]
    refine tN (hK52 _ _ ?_)
    clear hK52 K52
    refine wpIn_cond_true rfl ?_
    refine sK fun K55 hK55 => rL ?_
    refine xA (.slice none 0 0) rfl rfl rfl ?_
    refine xA (.int .i64 2) rfl rfl rfl ?_
    refine wL ?_
    simp only [zP, zI, zS, zO]
    refine tN (hK55 _ _ ?_)
    clear hK55 K55
    refine wpIn_ret ?_
    refine then_ret ?_
    clear hK51 K51
    refine bodyPost_ret (results_tmp2 rfl _ _ _) rfl ?_
    exact ⟨D, _, 2, hbd, rfl, hv, .inl ⟨fun h => (by have h9 := hbl53.2 h; cases h9), rfl, rfl⟩⟩
   refine xG (.bool false) rfl rfl (ex_not (b := true) rfl rfl rfl) ?_
   refine wL ?_
   simp only [zP, zI, zS, zO]
   refine tN (hK52 _ _ ?_)
   clear hK52 K52
   refine wpIn_cond_false rfl ?_
   refine wpIn_skip ?_
   refine tN (hK51 _ _ ?_)
   clear hK51 K51
   refine sK fun K56 hK56 => ?_
   refine sK fun K57 hK57 => rL ?_
   refine xM (.slice ra2 (l.length + l2.length) rc2) rfl rfl rfl ?_
   refine xG (.int .i64 ((l.length + l2.length) : Int)) rfl rfl (ex_len0 Try.underlying66 rfl rfl) ?_
   by_cases hb58 : ((l.length + l2.length) : Int) > 64
   ·refine xG (.bool true) rfl rfl (ex_gtr (k := .i64) (m := ((l.length + l2.length) : Int)) (n := 64) rfl rfl rfl (decide_eq_true hb58)) ?_
    refine wL ?_
    simp only [zP, zI, zS, zO]
    refine tN (hK57 _ _ ?_)
    clear hK57 K57
    refine wpIn_cond_true rfl ?_
    refine sK fun K59 hK59 => rL ?_
    refine xA (.slice none 0 0) rfl rfl rfl ?_
    refine xA (.int .i64 22) rfl rfl rfl ?_
    refine wL ?_
    simp only [zP, zI, zS, zO]
    refine tN (hK59 _ _ ?_)
    clear hK59 K59
    refine wpIn_ret ?_
    refine then_ret ?_
    clear hK56 K56
    refine bodyPost_ret (results_tmp2 rfl _ _ _) rfl ?_
    exact ⟨D, _, 22, hbd, rfl, hv, .inr (.inl ⟨hbl53.1 rfl, by rw [List.length_append]; omega, rfl, rfl⟩)⟩
   refine xG (.bool false) rfl rfl (ex_gtr (k := .i64) (m := ((l.length + l2.length) : Int)) (n := 64) rfl rfl rfl (decide_eq_false hb58)) ?_
   refine wL ?_
   simp only [zP, zI, zS, zO]
   refine tN (hK57 _ _ ?_)
   clear hK57 K57
   refine wpIn_cond_false rfl ?_
   refine wpIn_skip ?_
   refine tN (hK56 _ _ ?_)
   clear hK56 K56
   refine sK fun K60 hK60 => rL ?_
   refine xM (.slice ra2 (l.length + l2.length) rc2) rfl rfl rfl ?_
   refine xA (.slice ra2 (l.length + l2.length) rc2) rfl rfl rfl ?_
   refine xA (.int .i64 0) rfl rfl rfl ?_
   refine wL ?_
   simp only [zP, zI, zS, zO]
   refine tN (hK60 _ _ ?_)
   clear hK60 K60
   refine wpIn_ret ?_
   refine bodyPost_ret (results_tmp2 rfl _ _ _) rfl ?_
   exact ⟨D, _, 0, hbd, rfl, hv, .inr (.inr ⟨hbl53.1 rfl, by rw [List.length_append]; omega, rfl, ⟨ra2, rc2, ys2, (by rw [List.length_append]; rfl), by rw [List.length_append]; exact hokD, hrD, hys2.more hCD⟩⟩)⟩
def WrOk (x : Wr) : Prop := x.key.length ≤ 256 ∧ ChainOk [{ x.ver with stamp := 1 }]
theorem s14fa40_1 (w : World) (b o : Nat) : (Instr.fieldAt 40 (.pointer (some ⟨b, o, none⟩)) 1).run Try.prog w = .ok (.pointer (some ⟨b, o + 1, none⟩)) w := by kernel_rfl
theorem s14callable49 : Callable Try.prog 49 := ⟨_, Try.func49, by kernel_rfl, by kernel_rfl⟩
set_option maxHeartbeats 2000000 in
theorem storeValid0 (B : Base) (H : List Res) (w : World) (x : Wr) (p t z : Value) (h : ValAt B x.ver.val p t z) (hv : Inv B H w) :
  Calls Try.prog 36 #[.agg #[.string ⟨x.key.toArray⟩, .int .i64 x.ver.stamp, .bool x.ver.gone, .int .i64 x.ver.expire, .int .i64 x.ver.val.kind, .string ⟨x.ver.val.text.toArray⟩, p, t, z]] w fun e w' => ∃ b, e = .returned (.bool b) ∧ (b = true ↔ WrOk x) ∧ Inv B H w' := by
 refine (callsIn_wide (n := 5)).1 ?_
 refine callsIn_of_wp Try.func36 rfl trivial ?_
 simp only [Try.ntmps36, List.size_toArray, List.length_cons, List.length_nil, Nat.reduceAdd, Nat.reduceSub, Array.replicate_succ, Array.replicate_zero, List.push_toArray, List.append_toArray, List.nil_append, List.cons_append]
 refine sK fun K1 hK1 => rL ?_
 refine sl_box (L := [.string ⟨x.key.toArray⟩, .int .i64 x.ver.stamp, .bool x.ver.gone, .int .i64 x.ver.expire, .int .i64 x.ver.val.kind, .string ⟨x.ver.val.text.toArray⟩, p, t, z]) tV (wn rfl) rfl (p := .agg #[.string ⟨x.key.toArray⟩, .int .i64 x.ver.stamp, .bool x.ver.gone, .int .i64 x.ver.expire, .int .i64 x.ver.val.kind, .string ⟨x.ver.val.text.toArray⟩, p, t, z]) rfl hv (fun w => by kernel_rfl) (fun b2 w3 hv => ?_)
 refine xA (.bool false) rfl rfl rfl ?_
 refine wL ?_
 simp only [zP, zI, zS, zO]
 refine tN (hK1 _ _ ?_)
 clear hK1 K1
 refine sK fun K4 hK4 => rL ?_
 refine xF (.pointer (some ⟨b2, 1, none⟩)) rfl rfl rfl (s14fa40_1 _ _ _) ?_
 refine xF (.pointer (some ⟨b2, 1, none⟩)) rfl rfl rfl (s2fa38_0 _ _ _) ?_
 refine sl_storeAt 0 (v := .int .i64 1) (L' := [.string ⟨x.key.toArray⟩, .int .i64 1, .bool x.ver.gone, .int .i64 x.ver.expire, .int .i64 x.ver.val.kind, .string ⟨x.ver.val.text.toArray⟩, p, t, z]) tV (wn rfl) rfl rfl rfl hv rfl s5sz3 (by simp) rfl rfl rfl (fun w5 hv => ?_)
 simp only [List.set_cons_zero] at hv
 refine wL ?_
 simp only [zP, zN, zI, zS, zO]
 refine tN (hK4 _ _ ?_)
 clear hK4 K4
 refine sK fun K6 hK6 => rL ?_
 refine xF (.pointer (some ⟨b2, 0, none⟩)) rfl rfl rfl (s8fa40_0 _ _ _) ?_
 refine xL (.string ⟨x.key.toArray⟩) rfl rfl rfl (run_load1 s3na9 (hv.load 0 0 rfl rfl)) ?_
 refine xG (.int .i64 (x.key.length : Int)) rfl rfl (ex_lenStr Try.underlying9 rfl rfl) ?_
 simp only [zP, zI, zS, zO]
 by_cases hb7 : (x.key.length : Int) ≤ 256
 ·refine xG (.bool true) rfl rfl (ex_leq (k := .i64) (m := (x.key.length : Int)) (n := 256) rfl rfl rfl (decide_eq_true hb7)) ?_
  refine xM (.bool true) rfl rfl rfl ?_
  refine xH 4 9 true (.pointer (some ⟨b2, 1, none⟩)) rfl rfl rfl rfl (ex_field rfl rfl (s14fa40_1 _ _ _)) ?_
  simp only [zP, zI, zS, zO]
  refine xH 4 9 true (.agg #[.int .i64 1, .bool x.ver.gone, .int .i64 x.ver.expire, .int .i64 x.ver.val.kind, .string ⟨x.ver.val.text.toArray⟩, p, t, z]) rfl rfl rfl rfl (ex_load rfl rfl (run_load_mid (pre := [.string ⟨x.key.toArray⟩]) (mid := [.int .i64 1, .bool x.ver.gone, .int .i64 x.ver.expire, .int .i64 x.ver.val.kind, .string ⟨x.ver.val.text.toArray⟩, p, t, z]) (post := []) s1wd38 (show Blk _ b2 ([.string ⟨x.key.toArray⟩] ++ [.int .i64 1, .bool x.ver.gone, .int .i64 x.ver.expire, .int .i64 x.ver.val.kind, .string ⟨x.ver.val.text.toArray⟩, p, t, z] ++ []) _ from hv.get 0 rfl) rfl)) ?_
  refine sl_rowAgg (L := [.int .i64 1, .bool x.ver.gone, .int .i64 x.ver.expire, .int .i64 x.ver.val.kind, .string ⟨x.ver.val.text.toArray⟩, p, t, z]) tV (wanted_of (j := 4) (d := 9) (b := true) rfl rfl rfl) rfl rfl hv s14el66 rfl (by decide) (fun b8 w9 hv => ?_)
  obtain ⟨D, hBD, hv, hrD, -, -⟩ := (hv.cellRow (n := 1) (c := 1) (size := 8) rfl (by decide) (by decide)).rowBy
  refine wpi_callG s14callable49 tV wideC rfl (wanted_of (j := 4) (d := 9) (b := true) rfl rfl rfl) rfl (args := #[.slice (some ⟨b8, 0, none⟩) 1 1]) (by simp only [yA, yB, yC]; rfl) ((chainRight D _ _ _ _ _ [{ x.ver with stamp := 1 }] hrD (VersAt.single (v := { x.ver with stamp := 1 }) (h.more hBD)) (by simp) hv).mono ?_)
  rintro e w11 ⟨bl10, rfl, hbl10, hv⟩
  refine ⟨_, rfl, ?_⟩
  cases bl10
  ·simp only [zP, zI, zS, zO]
   refine xK true (.bool false) rfl rfl rfl rfl ?_
   refine xA (.bool false) rfl rfl rfl ?_
   refine wL ?_
   simp only [zP, zI, zS, zO]
   refine tN (hK6 _ _ ?_)
   clear hK6 K6
   refine wpIn_ret ?_
   refine bR rfl rfl ?_
   exact ⟨false, rfl, ⟨fun h => (by cases h), fun ⟨h1, h2⟩ => by first | omega | (have h9 := hbl10.2 ⟨by simp, h2⟩; cases h9)⟩, ((hv.sub (List.Sublist.cons _ (List.Sublist.refl _))).weak hBD)⟩
  simp only [zP, zI, zS, zO]
  refine xK true (.bool true) rfl rfl rfl rfl ?_
  refine xA (.bool true) rfl rfl rfl ?_
  refine wL ?_
  simp only [zP, zI, zS, zO]
  refine tN (hK6 _ _ ?_)
  clear hK6 K6
  refine wpIn_ret ?_
  refine bR rfl rfl ?_
  exact ⟨true, rfl, ⟨fun _ => ⟨by omega, (hbl10.1 rfl).2⟩, fun _ => rfl⟩, ((hv.sub (List.Sublist.cons _ (List.Sublist.refl _))).weak hBD)⟩
 refine xG (.bool false) rfl rfl (ex_leq (k := .i64) (m := (x.key.length : Int)) (n := 256) rfl rfl rfl (decide_eq_false hb7)) ?_
 refine xM (.bool false) rfl rfl rfl ?_
 refine xT 4 9 true false rfl rfl rfl rfl rfl rfl rfl (by decide) ?_
 simp only [zP, zI, zS, zO]
 refine xN 4 9 true false rfl rfl rfl (by decide) ?_
 simp only [zP, zI, zS, zO]
 refine xK false (.bool false) rfl rfl rfl rfl ?_
 refine xA (.bool false) rfl rfl rfl ?_
 refine wL ?_
 simp only [zP, zI, zS, zO]
 refine tN (hK6 _ _ ?_)
 clear hK6 K6
 refine wpIn_ret ?_
 refine bR rfl rfl ?_
 exact ⟨false, rfl, ⟨fun h => (by cases h), fun ⟨h1, h2⟩ => by first | omega⟩, (hv.sub (List.Sublist.cons _ (List.Sublist.refl _)))⟩
noncomputable def wrOkB (x : Wr) : Bool := @decide (WrOk x) (Classical.propDecidable _)
theorem wrOkB_iff (x : Wr) : wrOkB x = true ↔ WrOk x := by unfold wrOkB; exact @decide_eq_true_iff (WrOk x) (Classical.propDecidable _)
theorem storeValid (B : Base) (H : List Res) (w : World) (x : Wr) (p t z : Value) (h : ValAt B x.ver.val p t z) (hv : Inv B H w) : Calls Try.prog 36 #[.agg (wrCells x p t z).toArray] w fun e w' => e = .returned (.bool (wrOkB x)) ∧ Inv B H w' :=
 (storeValid0 B H w x p t z h hv).mono fun e w' ⟨b, h1, h2, h3⟩ => ⟨by rw [h1, show b = wrOkB x from Bool.eq_iff_iff.2 (h2.trans (wrOkB_iff x).symm)], h3⟩
theorem s14na76 (w : World) : (isAgg 76).run Try.prog w = .ok false w := by kernel_rfl
theorem s14callable36 : Callable Try.prog 36 := ⟨_, Try.func36, by kernel_rfl, by kernel_rfl⟩
set_option maxHeartbeats 2000000 in
theorem storeAllFn (B : Base) (H : List Res) (w : World) (b1 : Nat) (x : Wr) (p t z : Value) (h : ValAt B x.ver.val p t z) (hv : Inv B (Res.cell b1 [.func (.func 36) #[] #[]] 76 :: H) w) :
  Calls Try.prog 51 #[.agg #[.string ⟨x.key.toArray⟩, .int .i64 x.ver.stamp, .bool x.ver.gone, .int .i64 x.ver.expire, .int .i64 x.ver.val.kind, .string ⟨x.ver.val.text.toArray⟩, p, t, z], .pointer (some ⟨b1, 0, none⟩)] w fun e w' => e = .returned (.bool (!wrOkB x)) ∧ Inv B (Res.cell b1 [.func (.func 36) #[] #[]] 76 :: H) w' := by
 refine (callsIn_wide (n := 5)).1 ?_
 refine callsIn_of_wp Try.func51 rfl trivial ?_
 simp only [Try.ntmps51, List.size_toArray, List.length_cons, List.length_nil, Nat.reduceAdd, Nat.reduceSub, Array.replicate_succ, Array.replicate_zero, List.push_toArray, List.append_toArray, List.nil_append, List.cons_append]
 refine sK fun K1 hK1 => rL ?_
 refine sl_box (L := [.string ⟨x.key.toArray⟩, .int .i64 x.ver.stamp, .bool x.ver.gone, .int .i64 x.ver.expire, .int .i64 x.ver.val.kind, .string ⟨x.ver.val.text.toArray⟩, p, t, z]) tV (wn rfl) rfl (p := .agg #[.string ⟨x.key.toArray⟩, .int .i64 x.ver.stamp, .bool x.ver.gone, .int .i64 x.ver.expire, .int .i64 x.ver.val.kind, .string ⟨x.ver.val.text.toArray⟩, p, t, z]) rfl hv (fun w => by kernel_rfl) (fun b2 w3 hv => ?_)
 refine xA (.bool false) rfl rfl rfl ?_
 refine wL ?_
 simp only [zP, zI, zS, zO]
 refine tN (hK1 _ _ ?_)
 clear hK1 K1
 refine sK fun K4 hK4 => rL ?_
 refine xL (.func (.func 36) #[] #[]) rfl rfl rfl (run_load1 s14na76 (hv.load 1 0 rfl rfl)) ?_
 refine xL (.agg #[.string ⟨x.key.toArray⟩, .int .i64 x.ver.stamp, .bool x.ver.gone, .int .i64 x.ver.expire, .int .i64 x.ver.val.kind, .string ⟨x.ver.val.text.toArray⟩, p, t, z]) rfl rfl rfl (run_load_mid (pre := []) (mid := [.string ⟨x.key.toArray⟩, .int .i64 x.ver.stamp, .bool x.ver.gone, .int .i64 x.ver.expire, .int .i64 x.ver.val.kind, .string ⟨x.ver.val.text.toArray⟩, p, t, z]) (post := []) s8wd40 (show Blk _ b2 ([] ++ [.string ⟨x.key.toArray⟩, .int .i64 x.ver.stamp, .bool x.ver.gone, .int .i64 x.ver.expire, .int .i64 x.ver.val.kind, .string ⟨x.ver.val.text.toArray⟩, p, t, z] ++ []) _ from hv.get 0 rfl) rfl) ?_
 refine wpi_callV s14callable36 tV wideC rfl (wn rfl) rfl rfl (args := #[.agg #[.string ⟨x.key.toArray⟩, .int .i64 x.ver.stamp, .bool x.ver.gone, .int .i64 x.ver.expire, .int .i64 x.ver.val.kind, .string ⟨x.ver.val.text.toArray⟩, p, t, z]]) (by simp only [yA, yB, yC]; rfl) ((storeValid B _ _ x p t z h hv).mono ?_)
 rintro e w5 ⟨rfl, hv⟩
 refine ⟨_, rfl, ?_⟩
 simp only [zP, zI, zS, zO]
 refine xG (.bool (!(wrOkB x))) rfl rfl (ex_not (b := (wrOkB x)) rfl rfl rfl) ?_
 refine xA (.bool (!(wrOkB x))) rfl rfl rfl ?_
 refine wL ?_
 simp only [zP, zI, zS, zO]
 refine tN (hK4 _ _ ?_)
 clear hK4 K4
 refine wpIn_ret ?_
 refine bR rfl rfl ?_
 exact ⟨rfl, ((hv.front 1 rfl).sub (List.Sublist.cons_cons _ (List.Sublist.cons _ (List.Sublist.refl _))))⟩
theorem s14callable51 : Callable Try.prog 51 := ⟨_, Try.func51, by kernel_rfl, by kernel_rfl⟩
theorem s14callable50 : Callable Try.prog 50 := ⟨_, Try.func50, by kernel_rfl, by kernel_rfl⟩
set_option maxHeartbeats 2000000 in
theorem storeAll (B : Base) (H : List Res) (w : World) (ad : Option Addr) (c : Nat) (xs : List Value) (l : List Wr) (hr : RdV B [] ad xs) (hxs : WrsAt B l xs) (hm : l.length ≤ 1000000) (hv : Inv B H w) :
  Calls Try.prog 38 #[.slice ad l.length c, .func (.func 36) #[] #[]] w fun e w' => e = .returned (.bool (!l.any (fun x => !wrOkB x))) ∧ Inv B H w' := by
 refine (callsIn_wide (n := 5)).1 ?_
 refine callsIn_of_wp Try.func38 rfl trivial ?_
 simp only [Try.ntmps38, List.size_toArray, List.length_cons, List.length_nil, Nat.reduceAdd, Nat.reduceSub, Array.replicate_succ, Array.replicate_zero, List.push_toArray, List.append_toArray, List.nil_append, List.cons_append]
 refine sK fun K1 hK1 => rL ?_
 refine sl_box (L := [.func (.func 36) #[] #[]]) tV (wn rfl) rfl (p := .func (.func 36) #[] #[]) rfl hv (fun w => by kernel_rfl) (fun b2 w3 hv => ?_)
 refine xA (.bool false) rfl rfl rfl ?_
 refine wL ?_
 simp only [zP, zI, zS, zO]
 refine tN (hK1 _ _ ?_)
 clear hK1 K1
 refine sK fun K4 hK4 => rL ?_
 refine xM (.slice ad l.length c) rfl rfl rfl ?_
 refine xG (.func (.func 51) #[] #[.pointer (some ⟨b2, 0, none⟩)]) rfl rfl (ex_makeFunc (c' := #[.pointer (some ⟨b2, 0, none⟩)]) rfl (by simp only [yA, yC]) (by simp only [yA, yB, yC]; rfl)) ?_
 refine xC s14callable50 rfl rfl (l := [.slice ad l.length c, .func (.func 51) #[] #[.pointer (some ⟨b2, 0, none⟩)]]) rfl ((containsFuncWr B _ _ 51 #[.pointer (some ⟨b2, 0, none⟩)] ad c l (fun x => !wrOkB x) xs hr hxs hm s14callable51 (fun x _ p t z h w hv => storeAllFn B H w _ x p t z h hv) hv).mono ?_)
 rintro e w5 ⟨rfl, hv⟩
 refine ⟨_, rfl, ?_⟩
 simp only [zP, zI, zS, zO]
 refine xG (.bool (!(l.any (fun x => !wrOkB x)))) rfl rfl (ex_not (b := (l.any (fun x => !wrOkB x))) rfl rfl rfl) ?_
 refine xA (.bool (!(l.any (fun x => !wrOkB x)))) rfl rfl rfl ?_
 refine wL ?_
 simp only [zP, zI, zS, zO]
 refine tN (hK4 _ _ ?_)
 clear hK4 K4
 refine wpIn_ret ?_
 refine bR rfl rfl ?_
 exact ⟨rfl, (hv.sub (List.Sublist.cons _ (List.Sublist.refl _)))⟩
end Go.Proofs.Ytffmbdagjpdieaa
/- store.New, Last, Read. -/
namespace Go.Proofs.Ytffmbdagjpdieaa
open Go.RowKit Go.Pm
set_option maxHeartbeats 2000000 in
theorem ixNew (B : Base) (H : List Res) (w : World) (hv : Inv B H w) :
  Calls Try.prog 22 #[] w fun e w' => ∃ p, e = .returned (.pointer (some ⟨p, 0, none⟩)) ∧ Inv B (Res.cell p [.slice none 0 0, .int .i64 0] 81 :: H) w' := by
 refine (callsIn_wide (n := 5)).1 ?_
 refine callsIn_of_wp Try.func22 rfl trivial ?_
 simp only [Try.ntmps22, List.size_toArray, List.length_nil, Nat.reduceSub, Array.replicate_succ, Array.replicate_zero, List.push_toArray, List.append_toArray, List.nil_append, List.cons_append]
 refine sK fun K1 hK1 => rL ?_
 refine xA (.pointer none) rfl rfl rfl ?_
 refine wL ?_
 simp only [zP, zI, zO]
 refine tN (hK1 _ _ ?_)
 clear hK1 K1
 refine sK fun K2 hK2 => rL ?_
 refine xG (.agg #[.slice none 0 0, .int .i64 0]) rfl rfl (ex_buildN (vs := #[]) rfl (by simp only [yA, yC]) (by kernel_rfl)) ?_
 refine sl_box (L := [.slice none 0 0, .int .i64 0]) tV (wn rfl) rfl (p := .agg #[.slice none 0 0, .int .i64 0]) rfl hv (fun w => by kernel_rfl) (fun b3 w4 hv => ?_)
 refine xA (.pointer (some ⟨b3, 0, none⟩)) rfl rfl rfl ?_
 refine wL ?_
 simp only [zP, zI, zS, zO]
 refine tN (hK2 _ _ ?_)
 clear hK2 K2
 refine wpIn_ret ?_
 refine bR rfl rfl ?_
 exact ⟨_, rfl, hv⟩
theorem ixNewS (B : Base) (H : List Res) (w : World) (hv : Inv B H w) : Calls Try.prog 22 #[] w fun e w' => ∃ p, e = .returned (.pointer (some ⟨p, 0, none⟩)) ∧ Inv B (ixS 81 93 92 p (.slice none 0 0) 0 [] [] :: H) w' := by
 refine (ixNew B H w hv).mono ?_
 rintro e w' ⟨p, rfl, hv⟩
 exact ⟨p, rfl, Inv.star ((hv.rowNil 93 1).front 1 rfl)⟩
theorem ixm_nil (B : Base) : IxM B [] [] := ⟨fun es h => (by cases h), List.Pairwise.nil, trivial, fun m h => (by cases h), by simp⟩
theorem s15callable22 : Callable Try.prog 22 := ⟨_, Try.func22, by kernel_rfl, by kernel_rfl⟩
set_option maxHeartbeats 2000000 in
theorem storeNew (B : Base) (H : List Res) (w : World) (hv : Inv B H w) :
  Calls Try.prog 7 #[] w fun e w' => ∃ s p, e = .returned (.pointer (some ⟨s, 0, none⟩)) ∧ Inv B (Res.cell s [.pointer (some ⟨p, 0, none⟩), .int .i64 0, .int .i64 0] 60 :: ixS 81 93 92 p (.slice none 0 0) 0 [] [] :: H) w' := by
 refine (callsIn_wide (n := 5)).1 ?_
 refine callsIn_of_wp Try.func7 rfl trivial ?_
 simp only [Try.ntmps7, List.size_toArray, List.length_nil, Nat.reduceSub, Array.replicate_succ, Array.replicate_zero, List.push_toArray, List.append_toArray, List.nil_append, List.cons_append]
 refine sK fun K1 hK1 => rL ?_
 refine xA (.pointer none) rfl rfl rfl ?_
 refine wL ?_
 simp only [zP, zI, zO]
 refine tN (hK1 _ _ ?_)
 clear hK1 K1
 refine sK fun K2 hK2 => rL ?_
 refine xC s15callable22 rfl rfl (l := []) rfl ((ixNewS B _ _ hv).mono ?_)
 rintro e w3 ⟨p, rfl, hv⟩
 refine ⟨_, rfl, ?_⟩
 refine xG (.agg #[.pointer (some ⟨p, 0, none⟩), .int .i64 0, .int .i64 0]) rfl rfl (ex_buildN (vs := #[(0, .pointer (some ⟨p, 0, none⟩))]) rfl (by simp only [yA, yB, yC]; rfl) (by kernel_rfl)) ?_
 refine sl_box (L := [.pointer (some ⟨p, 0, none⟩), .int .i64 0, .int .i64 0]) tV (wn rfl) rfl (p := .agg #[.pointer (some ⟨p, 0, none⟩), .int .i64 0, .int .i64 0]) rfl hv (fun w => by kernel_rfl) (fun b4 w5 hv => ?_)
 simp only [zP, zI, zS, zO]
 refine xA (.pointer (some ⟨b4, 0, none⟩)) rfl rfl rfl ?_
 refine wL ?_
 simp only [zP, zI, zO]
 refine tN (hK2 _ _ ?_)
 clear hK2 K2
 refine wpIn_ret ?_
 refine bR rfl rfl ?_
 exact ⟨_, p, rfl, hv⟩
theorem s15fa60_1 (w : World) (b o : Nat) : (Instr.fieldAt 60 (.pointer (some ⟨b, o, none⟩)) 1).run Try.prog w = .ok (.pointer (some ⟨b, o + 1, none⟩)) w := by kernel_rfl
set_option maxHeartbeats 2000000 in
theorem storeLast (B : Base) (H : List Res) (w : World) (s p : Nat) (last mark : Int) (hv : Inv B (Res.cell s [.pointer (some ⟨p, 0, none⟩), .int .i64 last, .int .i64 mark] 60 :: H) w) :
  Calls Try.prog 10 #[.pointer (some ⟨s, 0, none⟩)] w fun e w' => e = .returned (.int .i64 last) ∧ Inv B (Res.cell s [.pointer (some ⟨p, 0, none⟩), .int .i64 last, .int .i64 mark] 60 :: H) w' := by
 refine (callsIn_wide (n := 5)).1 ?_
 refine callsIn_of_wp Try.func10 rfl trivial ?_
 simp only [Try.ntmps10, List.size_toArray, List.length_cons, List.length_nil, Nat.reduceAdd, Nat.reduceSub, Array.replicate_succ, Array.replicate_zero, List.push_toArray, List.append_toArray, List.nil_append, List.cons_append]
 refine sK fun K1 hK1 => rL ?_
 refine xA (.int .i64 0) rfl rfl rfl ?_
 refine wL ?_
 simp only [zP, zI, zS, zO]
 refine tN (hK1 _ _ ?_)
 clear hK1 K1
 refine sK fun K2 hK2 => rL ?_
 refine xM (.pointer (some ⟨s, 0, none⟩)) rfl rfl rfl ?_
 refine xG (.pointer (some ⟨s, 0, none⟩)) rfl rfl (ex_nil rfl rfl) ?_
 refine xF (.pointer (some ⟨s, 1, none⟩)) rfl rfl rfl (s15fa60_1 _ _ _) ?_
 simp only [zP, zI, zS, zO]
 refine xL (.int .i64 last) rfl rfl rfl (run_load1 s2na3 (hv.load 0 1 rfl rfl)) ?_
 refine xA (.int .i64 last) rfl rfl rfl ?_
 refine wL ?_
 simp only [zP, zI, zS, zO]
 refine tN (hK2 _ _ ?_)
 clear hK2 K2
 refine wpIn_ret ?_
 refine bR rfl rfl ?_
 exact ⟨rfl, hv⟩
def zver : Ver := ⟨0, false, 0, ⟨0, [], [], [], []⟩⟩
theorem row_nil (B : Base) : RowB B (.slice none 0 0) 0 [] := ⟨none, 0, rfl, ⟨Nat.le_refl _, Nat.zero_le _, fun _ => rfl⟩, rdV_nil⟩
theorem zver_at (B : Base) : ValAt B zver.val (.slice none 0 0) (.slice none 0 0) (.slice none 0 0) := ⟨row_nil B, row_nil B, row_nil B, by decide, by decide, by decide⟩
def AtI (l : List Ver) (s : Int) (x : Ver) (ok : Bool) : Prop := (ok = false ∧ x = zver ∧ UptoI l s 0) ∨ (ok = true ∧ ∃ j, l[j]? = some x ∧ UptoI l s (j + 1))
theorem chainAtX (B : Base) (H : List Res) (w : World) (v : Value) (l : List Ver) (s : Int) (h : ChainB B v l) (hm : l.length ≤ 1000000) (hv : Inv B H w) : Calls Try.prog 26 #[v, .int .i64 s] w fun e w' => ∃ C x p t z ok, B.Le C ∧ e = .returned (.tuple #[.agg (verCells x p t z).toArray, .bool ok]) ∧ AtI l s x ok ∧ ValAt C x.val p t z ∧ Inv C H w' := by
 obtain ⟨ad, c, xs, rfl, hok, hr, hxs⟩ := h
 refine (chainAt B H w ad c s xs l hr hxs hm hv).mono ?_
 rintro e w' ⟨i, hu, ⟨rfl, rfl, hv⟩ | ⟨j, x, C, p, t, z, rfl, hx, hB, rfl, hva, hv⟩⟩
 ·exact ⟨B, zver, _, _, _, false, Base.Le.refl _, rfl, .inl ⟨rfl, rfl, hu⟩, zver_at B, hv⟩
 exact ⟨C, x, p, t, z, true, hB, rfl, .inr ⟨rfl, j, hx, hu⟩, hva, hv⟩
def ReadI (l : List Ver) (s clock : Int) (x : Ver) (ok : Bool) : Prop := (ok = true ∧ aliveB x clock = true ∧ AtI l s x true) ∨ (ok = false ∧ x = zver ∧ ∃ y b, AtI l s y b ∧ (b = true → aliveB y clock = false))
theorem s15al38 (w : World) : (Instr.alloc 38 true (.tuple #[])).run Try.prog w = .ok (.pointer (some ⟨w.heap.size, 0, none⟩)) (w.alloc (.cells ([.int .i64 0, .bool false, .int .i64 0, .int .i64 0, .string ⟨([] : List UInt8).toArray⟩, .slice none 0 0, .slice none 0 0, .slice none 0 0] : List Value).toArray 38)) := by kernel_rfl
theorem s15fa60_0 (w : World) (b o : Nat) : (Instr.fieldAt 60 (.pointer (some ⟨b, o, none⟩)) 0).run Try.prog w = .ok (.pointer (some ⟨b, o + 0, none⟩)) w := by kernel_rfl
theorem s15callable27 : Callable Try.prog 27 := ⟨_, Try.func27, by kernel_rfl, by kernel_rfl⟩
theorem s15callable26 : Callable Try.prog 26 := ⟨_, Try.func26, by kernel_rfl, by kernel_rfl⟩
theorem s15callable28 : Callable Try.prog 28 := ⟨_, Try.func28, by kernel_rfl, by kernel_rfl⟩
set_option maxHeartbeats 2000000 in
theorem storeRead (B : Base) (H : List Res) (w : World) (s p : Nat) (v : Value) (X : List (List Ent)) (bvs : List Value) (M : Model) (last mark stamp clock : Int) (key : List UInt8) (hx : IxM B X M) (hv : Inv B (Res.cell s [.pointer (some ⟨p, 0, none⟩), .int .i64 last, .int .i64 mark] 60 :: ixS 81 93 92 p v (M.length : Int) X bvs :: H) w) :
  Calls Try.prog 11 #[.pointer (some ⟨s, 0, none⟩), .string ⟨key.toArray⟩, .int .i64 stamp, .int .i64 clock] w fun e w' => ∃ C x p' t' z' ok, B.Le C ∧ e = .returned (.tuple #[.agg (verCells x p' t' z').toArray, .bool ok]) ∧ ReadI (getM M key) stamp clock x ok ∧ ValAt C x.val p' t' z' ∧ Inv C (Res.cell s [.pointer (some ⟨p, 0, none⟩), .int .i64 last, .int .i64 mark] 60 :: ixS 81 93 92 p v (M.length : Int) X bvs :: H) w' := by
 refine (callsIn_wide (n := 5)).1 ?_
 refine callsIn_of_wp Try.func11 rfl trivial ?_
 simp only [Try.ntmps11, List.size_toArray, List.length_cons, List.length_nil, Nat.reduceAdd, Nat.reduceSub, Array.replicate_succ, Array.replicate_zero, List.push_toArray, List.append_toArray, List.nil_append, List.cons_append]
 refine sK fun K1 hK1 => rL ?_
 refine sl_alloc tV (wn rfl) rfl hv s15al38 (fun b2 w3 hv => ?_)
 refine xA (.bool false) rfl rfl rfl ?_
 refine wL ?_
 simp only [zP, zI, zS, zO]
 refine tN (hK1 _ _ ?_)
 clear hK1 K1
 refine sK fun K4 hK4 => rL ?_
 refine xM (.pointer (some ⟨s, 0, none⟩)) rfl rfl rfl ?_
 refine xG (.pointer (some ⟨s, 0, none⟩)) rfl rfl (ex_nil rfl rfl) ?_
 refine xF (.pointer (some ⟨s, 0, none⟩)) rfl rfl rfl (s15fa60_0 _ _ _) ?_
 simp only [zP, zI, zS, zO]
 refine xL (.pointer (some ⟨p, 0, none⟩)) rfl rfl rfl (run_load1 s3na57 (hv.load 1 0 rfl rfl)) ?_
 refine xM (.string ⟨key.toArray⟩) rfl rfl rfl ?_
 replace hv := hv.front 2 rfl
 simp only [List.eraseIdx_cons_succ, List.eraseIdx_cons_zero] at hv
 refine xC s15callable27 rfl rfl (l := [.pointer (some ⟨p, 0, none⟩), .string ⟨key.toArray⟩]) rfl ((ixGetS B _ _ p v X bvs M key (hx.more (Base.Le.refl _)) hv).mono ?_)
 rintro e w7 ⟨C5, q6, hC5, rfl, hq6, hv⟩
 refine ⟨_, rfl, ?_⟩
 simp only [zP, zI, zS, zO]
 refine xM (.int .i64 stamp) rfl rfl rfl ?_
 refine xC s15callable26 rfl rfl (l := [q6, .int .i64 stamp]) rfl ((chainAtX C5 _ _ q6 (getM M key) _ hq6 (by have := hx.glen key; omega) hv).mono ?_)
 rintro e w9 ⟨D8, x, p2, t2, z2, ok, hD8, rfl, hat, hva, hv⟩
 refine ⟨_, rfl, ?_⟩
 cases ok
 ·refine xM (.tuple #[.agg #[.int .i64 x.stamp, .bool x.gone, .int .i64 x.expire, .int .i64 x.val.kind, .string ⟨x.val.text.toArray⟩, p2, t2, z2], .bool false]) rfl rfl rfl ?_
  simp only [zP, zI, zS, zO]
  refine xG (.agg #[.int .i64 x.stamp, .bool x.gone, .int .i64 x.expire, .int .i64 x.val.kind, .string ⟨x.val.text.toArray⟩, p2, t2, z2]) rfl rfl (ex_extract rfl rfl rfl) ?_
  refine xG (.bool false) rfl rfl (ex_extract rfl rfl rfl) ?_
  refine sl_alloc tV (wn rfl) rfl hv s15al38 (fun b10 w11 hv => ?_)
  simp only [zP, zI, zS, zO]
  refine sl_storeNAt 0 (new := [.int .i64 x.stamp, .bool x.gone, .int .i64 x.expire, .int .i64 x.val.kind, .string ⟨x.val.text.toArray⟩, p2, t2, z2]) (pre := []) (mid := [.int .i64 0, .bool false, .int .i64 0, .int .i64 0, .string ⟨([] : List UInt8).toArray⟩, .slice none 0 0, .slice none 0 0, .slice none 0 0]) (post := []) (L' := [.int .i64 x.stamp, .bool x.gone, .int .i64 x.expire, .int .i64 x.val.kind, .string ⟨x.val.text.toArray⟩, p2, t2, z2]) tV (wn rfl) rfl rfl rfl hv rfl s1sz38 rfl rfl rfl (one_cons rfl (one_cons rfl (one_cons rfl (one_cons rfl (one_cons rfl (one_cons hva.p.one (one_cons hva.t.one (one_cons hva.z.one one_nil)))))))) rfl (fun w12 hv => ?_)
  simp only [List.set_cons_zero] at hv
  refine xA (.bool false) rfl rfl rfl ?_
  refine wL ?_
  simp only [zP, zN, zI, zS, zO]
  refine tN (hK4 _ _ ?_)
  clear hK4 K4
  refine sK fun K13 hK13 => ?_
  refine sK fun K14 hK14 => rL ?_
  refine xM (.bool false) rfl rfl rfl ?_
  refine xG (.bool true) rfl rfl (ex_not (b := false) rfl rfl rfl) ?_
  refine xM (.bool true) rfl rfl rfl ?_
  simp only [zP, zI, zS, zO]
  refine xT 2 25 false true rfl rfl rfl rfl rfl rfl rfl (by decide) ?_
  simp only [zP, zI, zS, zO]
  refine xN 2 25 false true rfl rfl rfl (by decide) ?_
  refine xK true (.bool true) rfl rfl rfl rfl ?_
  refine wL ?_
  simp only [zP, zI, zS, zO]
  refine tN (hK14 _ _ ?_)
  clear hK14 K14
  refine wpIn_cond_true rfl ?_
  refine sK fun K15 hK15 => rL ?_
  refine xG (.agg #[.int .i64 0, .bool false, .int .i64 0, .int .i64 0, .string ⟨([] : List UInt8).toArray⟩, .slice none 0 0, .slice none 0 0, .slice none 0 0]) rfl rfl (ex_buildN (vs := #[]) rfl (by simp only [yA, yC]) (by kernel_rfl)) ?_
  refine sl_storeNAt 2 (new := [.int .i64 0, .bool false, .int .i64 0, .int .i64 0, .string ⟨([] : List UInt8).toArray⟩, .slice none 0 0, .slice none 0 0, .slice none 0 0]) (pre := []) (mid := [.int .i64 0, .bool false, .int .i64 0, .int .i64 0, .string ⟨([] : List UInt8).toArray⟩, .slice none 0 0, .slice none 0 0, .slice none 0 0]) (post := []) (L' := [.int .i64 0, .bool false, .int .i64 0, .int .i64 0, .string ⟨([] : List UInt8).toArray⟩, .slice none 0 0, .slice none 0 0, .slice none 0 0]) tV (wn rfl) rfl rfl rfl hv rfl s1sz38 rfl rfl rfl (one_cons rfl (one_cons rfl (one_cons rfl (one_cons rfl (one_cons rfl (one_cons rfl (one_cons rfl (one_cons rfl one_nil)))))))) rfl (fun w16 hv => ?_)
  simp only [List.set_cons_succ, List.set_cons_zero] at hv
  refine xA (.bool false) rfl rfl rfl ?_
  refine wL ?_
  simp only [zP, zN, zI, zS, zO]
  refine tN (hK15 _ _ ?_)
  clear hK15 K15
  refine wpIn_ret ?_
  refine then_ret ?_
  clear hK13 K13
  refine bodyPost_ret (res_cell2 rfl rfl (run_load_mid (pre := []) (mid := [.int .i64 0, .bool false, .int .i64 0, .int .i64 0, .string ⟨([] : List UInt8).toArray⟩, .slice none 0 0, .slice none 0 0, .slice none 0 0]) (post := []) s1wd38 (show Blk _ b2 ([] ++ [.int .i64 0, .bool false, .int .i64 0, .int .i64 0, .string ⟨([] : List UInt8).toArray⟩, .slice none 0 0, .slice none 0 0, .slice none 0 0] ++ []) _ from hv.get 2 rfl) rfl)) rfl ?_
  exact ⟨_, zver, _, _, _, false, (hC5.trans hD8), rfl, .inr ⟨rfl, rfl, x, false, hat, fun h => (by cases h)⟩, zver_at _, (((hv.front 1 rfl).front 3 rfl).sub (List.Sublist.cons_cons _ (List.Sublist.cons_cons _ (List.Sublist.cons _ (List.Sublist.cons _ (List.Sublist.refl _))))))⟩
 refine xM (.tuple #[.agg #[.int .i64 x.stamp, .bool x.gone, .int .i64 x.expire, .int .i64 x.val.kind, .string ⟨x.val.text.toArray⟩, p2, t2, z2], .bool true]) rfl rfl rfl ?_
 simp only [zP, zI, zS, zO]
 refine xG (.agg #[.int .i64 x.stamp, .bool x.gone, .int .i64 x.expire, .int .i64 x.val.kind, .string ⟨x.val.text.toArray⟩, p2, t2, z2]) rfl rfl (ex_extract rfl rfl rfl) ?_
 refine xG (.bool true) rfl rfl (ex_extract rfl rfl rfl) ?_
 refine sl_alloc tV (wn rfl) rfl hv s15al38 (fun b17 w18 hv => ?_)
 simp only [zP, zI, zS, zO]
 refine sl_storeNAt 0 (new := [.int .i64 x.stamp, .bool x.gone, .int .i64 x.expire, .int .i64 x.val.kind, .string ⟨x.val.text.toArray⟩, p2, t2, z2]) (pre := []) (mid := [.int .i64 0, .bool false, .int .i64 0, .int .i64 0, .string ⟨([] : List UInt8).toArray⟩, .slice none 0 0, .slice none 0 0, .slice none 0 0]) (post := []) (L' := [.int .i64 x.stamp, .bool x.gone, .int .i64 x.expire, .int .i64 x.val.kind, .string ⟨x.val.text.toArray⟩, p2, t2, z2]) tV (wn rfl) rfl rfl rfl hv rfl s1sz38 rfl rfl rfl (one_cons rfl (one_cons rfl (one_cons rfl (one_cons rfl (one_cons rfl (one_cons hva.p.one (one_cons hva.t.one (one_cons hva.z.one one_nil)))))))) rfl (fun w19 hv => ?_)
 simp only [List.set_cons_zero] at hv
 refine xA (.bool true) rfl rfl rfl ?_
 refine wL ?_
 simp only [zP, zN, zI, zS, zO]
 refine tN (hK4 _ _ ?_)
 clear hK4 K4
 refine sK fun K20 hK20 => ?_
 refine sK fun K21 hK21 => rL ?_
 refine xM (.bool true) rfl rfl rfl ?_
 refine xG (.bool false) rfl rfl (ex_not (b := true) rfl rfl rfl) ?_
 refine xM (.bool false) rfl rfl rfl ?_
 simp only [zP, zI, zS, zO]
 refine xH 2 25 false (.agg #[.int .i64 x.stamp, .bool x.gone, .int .i64 x.expire, .int .i64 x.val.kind, .string ⟨x.val.text.toArray⟩, p2, t2, z2]) rfl rfl rfl rfl (ex_load rfl rfl (run_load_mid (pre := []) (mid := [.int .i64 x.stamp, .bool x.gone, .int .i64 x.expire, .int .i64 x.val.kind, .string ⟨x.val.text.toArray⟩, p2, t2, z2]) (post := []) s1wd38 (show Blk _ b17 ([] ++ [.int .i64 x.stamp, .bool x.gone, .int .i64 x.expire, .int .i64 x.val.kind, .string ⟨x.val.text.toArray⟩, p2, t2, z2] ++ []) _ from hv.get 0 rfl) rfl)) ?_
 refine xH 2 25 false (.int .i64 clock) rfl rfl rfl rfl (ex_move rfl rfl) ?_
 refine wpi_callG s15callable28 tV wideC rfl (wanted_of (j := 2) (d := 25) (b := false) rfl rfl rfl) rfl (args := #[.agg #[.int .i64 x.stamp, .bool x.gone, .int .i64 x.expire, .int .i64 x.val.kind, .string ⟨x.val.text.toArray⟩, p2, t2, z2], .int .i64 clock]) (by simp only [yA, yB, yC]; rfl) ((chainAlive D8 _ _ x p2 t2 z2 clock hv).mono ?_)
 rintro e w22 ⟨rfl, hv⟩
 refine ⟨_, rfl, ?_⟩
 simp only [zP, zI, zS, zO]
 refine xH 2 25 false (.bool (!(aliveB x clock))) rfl rfl rfl rfl (ex_not (b := (aliveB x clock)) rfl rfl rfl) ?_
 refine xK false (.bool (!(aliveB x clock))) rfl rfl rfl rfl ?_
 refine wL ?_
 simp only [zP, zI, zS, zO]
 refine tN (hK21 _ _ ?_)
 clear hK21 K21
 refine wpIn_cond_split (t := !(aliveB x clock)) rfl (fun hc23 => ?_) (fun hc23 => ?_)
 ·refine sK fun K24 hK24 => rL ?_
  refine xG (.agg #[.int .i64 0, .bool false, .int .i64 0, .int .i64 0, .string ⟨([] : List UInt8).toArray⟩, .slice none 0 0, .slice none 0 0, .slice none 0 0]) rfl rfl (ex_buildN (vs := #[]) rfl (by simp only [yA, yC]) (by kernel_rfl)) ?_
  refine sl_storeNAt 2 (new := [.int .i64 0, .bool false, .int .i64 0, .int .i64 0, .string ⟨([] : List UInt8).toArray⟩, .slice none 0 0, .slice none 0 0, .slice none 0 0]) (pre := []) (mid := [.int .i64 0, .bool false, .int .i64 0, .int .i64 0, .string ⟨([] : List UInt8).toArray⟩, .slice none 0 0, .slice none 0 0, .slice none 0 0]) (post := []) (L' := [.int .i64 0, .bool false, .int .i64 0, .int .i64 0, .string ⟨([] : List UInt8).toArray⟩, .slice none 0 0, .slice none 0 0, .slice none 0 0]) tV (wn rfl) rfl rfl rfl hv rfl s1sz38 rfl rfl rfl (one_cons rfl (one_cons rfl (one_cons rfl (one_cons rfl (one_cons rfl (one_cons rfl (one_cons rfl (one_cons rfl one_nil)))))))) rfl (fun w25 hv => ?_)
  simp only [List.set_cons_succ, List.set_cons_zero] at hv
  refine xA (.bool false) rfl rfl rfl ?_
  refine wL ?_
  simp only [zP, zN, zI, zS, zO]
  refine tN (hK24 _ _ ?_)
  clear hK24 K24
  refine wpIn_ret ?_
  refine then_ret ?_
  clear hK20 K20
  refine bodyPost_ret (res_cell2 rfl rfl (run_load_mid (pre := []) (mid := [.int .i64 0, .bool false, .int .i64 0, .int .i64 0, .string ⟨([] : List UInt8).toArray⟩, .slice none 0 0, .slice none 0 0, .slice none 0 0]) (post := []) s1wd38 (show Blk _ b2 ([] ++ [.int .i64 0, .bool false, .int .i64 0, .int .i64 0, .string ⟨([] : List UInt8).toArray⟩, .slice none 0 0, .slice none 0 0, .slice none 0 0] ++ []) _ from hv.get 2 rfl) rfl)) rfl ?_
  exact ⟨_, zver, _, _, _, false, (hC5.trans hD8), rfl, .inr ⟨rfl, rfl, x, true, hat, fun _ => by simpa using hc23⟩, zver_at _, (((hv.front 1 rfl).front 3 rfl).sub (List.Sublist.cons_cons _ (List.Sublist.cons_cons _ (List.Sublist.cons _ (List.Sublist.cons _ (List.Sublist.refl _))))))⟩
 refine wpIn_skip ?_
 refine tN (hK20 _ _ ?_)
 clear hK20 K20
 refine sK fun K26 hK26 => rL ?_
 refine xL (.agg #[.int .i64 x.stamp, .bool x.gone, .int .i64 x.expire, .int .i64 x.val.kind, .string ⟨x.val.text.toArray⟩, p2, t2, z2]) rfl rfl rfl (run_load_mid (pre := []) (mid := [.int .i64 x.stamp, .bool x.gone, .int .i64 x.expire, .int .i64 x.val.kind, .string ⟨x.val.text.toArray⟩, p2, t2, z2]) (post := []) s1wd38 (show Blk _ b17 ([] ++ [.int .i64 x.stamp, .bool x.gone, .int .i64 x.expire, .int .i64 x.val.kind, .string ⟨x.val.text.toArray⟩, p2, t2, z2] ++ []) _ from hv.get 0 rfl) rfl) ?_
 refine sl_storeNAt 2 (new := [.int .i64 x.stamp, .bool x.gone, .int .i64 x.expire, .int .i64 x.val.kind, .string ⟨x.val.text.toArray⟩, p2, t2, z2]) (pre := []) (mid := [.int .i64 0, .bool false, .int .i64 0, .int .i64 0, .string ⟨([] : List UInt8).toArray⟩, .slice none 0 0, .slice none 0 0, .slice none 0 0]) (post := []) (L' := [.int .i64 x.stamp, .bool x.gone, .int .i64 x.expire, .int .i64 x.val.kind, .string ⟨x.val.text.toArray⟩, p2, t2, z2]) tV (wn rfl) rfl rfl rfl hv rfl s1sz38 rfl rfl rfl (one_cons rfl (one_cons rfl (one_cons rfl (one_cons rfl (one_cons rfl (one_cons hva.p.one (one_cons hva.t.one (one_cons hva.z.one one_nil)))))))) rfl (fun w27 hv => ?_)
 simp only [List.set_cons_succ, List.set_cons_zero] at hv
 refine xA (.bool true) rfl rfl rfl ?_
 refine wL ?_
 simp only [zP, zN, zI, zS, zO]
 refine tN (hK26 _ _ ?_)
 clear hK26 K26
 refine wpIn_ret ?_
 refine bodyPost_ret (res_cell2 rfl rfl (run_load_mid (pre := []) (mid := [.int .i64 x.stamp, .bool x.gone, .int .i64 x.expire, .int .i64 x.val.kind, .string ⟨x.val.text.toArray⟩, p2, t2, z2]) (post := []) s1wd38 (show Blk _ b2 ([] ++ [.int .i64 x.stamp, .bool x.gone, .int .i64 x.expire, .int .i64 x.val.kind, .string ⟨x.val.text.toArray⟩, p2, t2, z2] ++ []) _ from hv.get 2 rfl) rfl)) rfl ?_
 exact ⟨_, x, p2, t2, z2, true, (hC5.trans hD8), rfl, .inl ⟨rfl, by simpa using hc23, hat⟩, hva, (((hv.front 1 rfl).front 3 rfl).sub (List.Sublist.cons_cons _ (List.Sublist.cons_cons _ (List.Sublist.cons _ (List.Sublist.cons _ (List.Sublist.refl _))))))⟩
end Go.Proofs.Ytffmbdagjpdieaa
