/- Law 25: ranks, counts and popped scores; the document's example: plain law. -/
import Derived.Test.YtgbhdfpobgefgaaGreatDoorCzNamO
import Derived.Test.YtgbhdfpobgefgaaGreatDoorCzNamH
import Derived.Test.YtgbhdfpobgefgaaGreatDoorCzNamC
import Derived.Test.YtgbhdfpobgefgaaGreatDoorCzNamN
import Derived.Test.YtgbhdfpobgefgaaGreatDoorCzNamB
import Derived.Test.YtgbhdfpobgefgaaGreatDoorRows
import Derived.Test.YtgbhdfpobgefgaaGreatDoorCzNamI
import Derived.Sort.Walk0
import Derived.Test.YtgbhdfpobgefgaaGreatDoorCzNamD
import Derived.Test.YtgbhdfpobgefgaaGreatDoorCzNamE
import Derived.Lib.LaidTab
import Derived.LaidSub
import Derived.Lib.ItoaNum
import Derived.Deep.LoopGhost
import Derived.Test.YtgbhdfpobgefgaaGreatDoorCzNamF
import Derived.Lib.ParseIntBTie
set_option maxRecDepth 100000
set_option maxHeartbeats 16000000
set_option synthInstance.maxSize 65536
set_option synthInstance.maxHeartbeats 4000000
namespace Go.Proofs.YtgbhdfpobgefgaaGreatDoor
open Go.RowKit Go.Pm Go.Sort
abbrev kZ : List UInt8 := [122]
structure HasZ (M : List (List UInt8 × Ver)) (z : Zs) : Prop where
 ok : ZsetOk z
 fit : ∀ m ∈ z, ZFit m.1
 at_ : (z = [] ∧ DeadM M 0 kZ) ∨ (z ≠ [] ∧ lookA M kZ = some ⟨0, false, 0, zsetV z⟩)
 no : ∀ k, k ≠ kZ → lookA M k = none
 one : M = [] ∨ ∃ v, M = [(kZ, v)]
theorem upd_kZ {M : List (List UInt8 × Ver)} (h : M = [] ∨ ∃ v, M = [(kZ, v)]) (v : Ver) : updA M kZ v = [] ∨ ∃ u, updA M kZ v = [(kZ, u)] := by
 rcases h with rfl | ⟨u, rfl⟩
 ·exact .inr ⟨v, rfl⟩
 exact .inr ⟨v, by unfold updA; rw [if_pos rfl]⟩
theorem zok_nil : ZsetOk ([] : Zs) := zok_iff.2 ⟨Nat.zero_le _, fun _ h => (by cases h), List.Pairwise.nil, List.nodup_nil⟩
theorem sort_mem {o : Zs} {l : Zs} (h : o.Perm l) {m : Int × List UInt8} (hm : m ∈ sortZ o) : m ∈ l := h.mem_iff.1 ((sortZ_perm o).mem_iff.1 hm)
theorem dec_head (u : Nat) : ∃ c t, Lib.decDigits u = c :: t ∧ 48 ≤ c.toNat ∧ c.toNat ≤ 57 := by
 induction u using Nat.strongRecOn with
 | _ u ih =>
  by_cases h : u < 10
  ·refine ⟨_, [], dec_small u h, ?_⟩;have := dig_toNat (show u % 10 < 10 from Nat.mod_lt _ (by decide));omega
  obtain ⟨c, t, h1, h2⟩ := ih (u / 10) (by omega);exact ⟨c, t ++ [UInt8.ofNat (48 + u % 10)], by rw [dec_big u h, h1]; rfl, h2⟩
theorem itoa_head (n : Int) : ∃ c t, Lib.itoa n = c :: t ∧ 45 ≤ c.toNat ∧ c.toNat ≤ 57 := by
 unfold Lib.itoa
 split
 ·exact ⟨45, _, rfl, by decide, by decide⟩
 obtain ⟨c, t, h1, h2⟩ := dec_head n.toNat;exact ⟨c, t, h1, by omega, h2.2⟩
theorem itoa_word (n : Int) (o : List UInt8) (a : UInt8) (ho : o[0]? = some a) (h0 : 58 ≤ a.toNat) : ¬ SameC o (Lib.itoa n) := fun h => by
 obtain ⟨c, t, h1, h2, h3⟩ := itoa_head n;rw [h1] at h;have h4 := h.2 0 a c ho rfl;unfold lowZ at h4
 split at h4 <;> split at h4 <;> omega
theorem noOpt_itoa (n : Int) (l : Tx) : NoOpt (Lib.itoa n :: l) := fun x hx o ho => by
 cases hx;simp only [List.mem_cons, List.not_mem_nil, or_false] at ho;rcases ho with rfl | rfl | rfl | rfl | rfl
 ·exact itoa_word n _ _ rfl (by decide)
 ·exact itoa_word n _ _ rfl (by decide)
 ·exact itoa_word n _ _ rfl (by decide)
 ·exact itoa_word n _ _ rfl (by decide)
 exact itoa_word n _ _ rfl (by decide)
theorem nump_itoa {n : Int} (h : ZFit n) : NumP (Lib.itoa n) n true := .inl ⟨rfl, h.1, h.2, rfl⟩
theorem ints_itoa : ∀ {xs : List Int} {ns : List Int}, (∀ x ∈ xs, ZFit x) → IntsR (xs.map Lib.itoa) ns 0 → ns = xs := fun {xs ns} hx h => by
 rcases h with ⟨-, h1, h2⟩ | ⟨h1, -⟩
 ·rw [List.length_map] at h1;refine List.ext_getElem h1 fun i hi hj => ((h2 i _ ns[i] (by rw [List.getElem?_map, List.getElem?_eq_getElem hj]; rfl) (List.getElem?_eq_getElem hi)).uniq (nump_itoa (hx _ (List.getElem_mem hj)))).1
 exact absurd h1 (by decide)
theorem not_bad {xs : List Int} (hx : ∀ x ∈ xs, ZFit x) : ¬ ∃ t ∈ xs.map Lib.itoa, NumP t 0 false := fun ⟨t, ht, h⟩ => by
 obtain ⟨x, h1, rfl⟩ := List.mem_map.1 ht;exact absurd ((nump_itoa (hx x h1)).uniq h).2 (by decide)
section
variable {M M' : List (List UInt8 × Ver)} {z out z0 : Zs} {y : Ver} {ec exp : Int} {r : Rp} {x : List UInt8}
theorem HasZ.nil : HasZ [] [] := ⟨zok_nil, fun _ h => (by cases h), .inl ⟨rfl, fun y h => by cases h⟩, fun k _ => rfl, .inl rfl⟩
theorem HasZ.of_ (hs : HasZ M z) (ho : OfI M 0 kZ 5 y ec) : ec = 0 ∧ y.val.zset = z ∧ y.expire = 0 := by
 rcases hs.at_ with ⟨h1, h2⟩ | ⟨h1, h2⟩
 ·rcases ho with ⟨h3, rfl, -⟩ | ⟨-, -, u, h3, h4, -⟩ | ⟨-, h3, h4, -⟩
  ·exact ⟨h3, by rw [h1]; rfl, rfl⟩
  ·rw [h2 u h3] at h4; cases h4
  rw [h2 y h3] at h4; cases h4
 rcases ho with ⟨-, -, h3⟩ | ⟨-, -, u, h3, -, h5⟩ | ⟨h0, h3, -, h5⟩
 ·have := h3 _ h2; cases this
 ·rw [h2] at h3; cases h3; exact absurd rfl h5
 rw [h2] at h3; cases h3; exact ⟨h0, rfl, rfl⟩
theorem HasZ.keep (hs : HasZ M z) (hO : ZsetOk out) (hf : ∀ m ∈ out, ZFit m.1) (hk : ZKeepR M 0 kZ z out 0 ec M') : ec = 0 ∧ HasZ M' out := by
 rcases hk with ⟨rfl, h2, rfl⟩ | ⟨-, hk⟩
 ·exact ⟨h2, hs⟩
 have hfull : out ≠ [] → FullV (zsetV out) := fun h9 => .inr (by have := List.length_pos_iff.2 h9; show 0 < 0 + 0 + out.length; omega)
 have hnot : ¬ FullV (zsetV out) → out = [] := fun h9 => Classical.byContradiction fun h8 => h9 (hfull h8)
 have hne : FullV (zsetV out) → out ≠ [] := by
  rintro (h9 | h9) rfl
  ·exact absurd h9 (by decide)
  exact absurd h9 (by decide)
 have no : ∀ (v : Ver) k, k ≠ kZ → lookA (updA M kZ v) k = none := fun v k hn => by rw [look_upd, if_neg (Ne.symm hn)]; exact hs.no k hn
 rcases hk with ⟨h1, -, h3, rfl⟩ | ⟨h1, h2, -⟩ | ⟨h1, h2, h3, rfl⟩ | ⟨h1, -, ⟨-, h4, rfl⟩ | ⟨h4, -⟩⟩
 ·exact ⟨h3, hO, hf, .inr ⟨hne h1, by rw [look_upd, if_pos rfl]⟩, no _, upd_kZ hs.one _⟩
 ·exact absurd ⟨by decide, .inr (.inr (.inr (.inr ⟨rfl, List.length_pos_iff.2 (hne h1), hO, rfl, rfl, rfl⟩))), Int.le_refl _, by decide⟩ h2
 ·obtain rfl := hnot h1;exact ⟨h3, hO, hf, .inl ⟨rfl, h2⟩, hs.no, hs.one⟩
 ·obtain rfl := hnot h1;refine ⟨h4, hO, hf, .inl ⟨rfl, fun y hy => ?_⟩, no _, upd_kZ hs.one _⟩;rw [look_upd, if_pos rfl] at hy; cases hy; rfl
 exact absurd h4 (by decide)
theorem doneZ {r0 : Rp} (he : ec = 0) (hd : DoneR ec r0 r) : r = r0 := hd.elim (fun h9 => h9.2) fun h9 => absurd he h9.1
theorem HasZ.adds {ms : Zs} {ad : Int} (hs : HasZ M z) (hm : ∀ m ∈ ms, ZFit m.1) (hx : ∀ m ∈ ms, m.2.length ≤ 4096) (hl : (mergeZ z ms).length ≤ 512) (hnd : ((mergeZ z ms).map nmZ).Nodup) (hnl : ∀ m ∈ mergeZ z ms, m.2.length ≤ 4096)
  (hr : ∃ out ea, AddR z ms out ad ea ∧ ((ea ≠ 0 ∧ M' = M ∧ IsF r) ∨ (ea = 0 ∧ ∃ ek, ZKeepR M 0 kZ z out 0 ek M' ∧ DoneR ek (rInt ad) r))) :
  ∃ o, o.Perm (mergeZ z ms) ∧ HasZ M' (sortZ o) ∧ r = rInt ad ∧ ad = ((leftZ (givenZ ms) z).length : Int) := by
 obtain ⟨out, ea, hA, hr⟩ := hr;have hfit := hA.fit hs.fit hm;rcases hA with ⟨-, ⟨m, h1, h2⟩, -⟩ | ⟨-, ⟨-, h2, -⟩ | ⟨rfl, -, h3, o, ho, rfl⟩⟩
 ·have := hx m h1; omega
 ·omega
 rcases hr with ⟨h1, -⟩ | ⟨-, ek, hk, hd⟩
 ·exact absurd rfl h1
 have hok : ZsetOk (sortZ o) := zok_iff.2 ⟨hfit.2, fun m h => hnl m (sort_mem ho h), sortZ_lt ((ho.map nmZ).nodup_iff.2 hnd), (((sortZ_perm o).trans ho).map nmZ).nodup_iff.2 hnd⟩;obtain ⟨h5, h6⟩ := hs.keep hok hfit.1 hk;exact ⟨o, ho, h6, doneZ h5 hd, h3⟩
end
abbrev wMinf : List UInt8 := [45, 105, 110, 102]
abbrev wPinf : List UInt8 := [43, 105, 110, 102]
theorem not_same_mp : ¬ SameC wMinf wPinf := fun h => absurd (h.2 0 45 43 rfl rfl) (by decide)
theorem is_pinf {r : Int} (h : IsI wPinf [wMinf, wPinf] r) : r = 1 := by
 rcases is2 h with ⟨-, -, h1⟩ | ⟨-, h1⟩ | ⟨h1, -⟩
 ·exact absurd (same_refl _) h1
 ·exact absurd h1 not_same_mp
 exact h1
theorem is_short {a : List UInt8} {r : Int} (ha : a.length ≠ 4) (h : IsI a [wMinf, wPinf] r) : r = -1 := by
 rcases is2 h with ⟨h1, -⟩ | ⟨-, h1⟩ | ⟨-, -, h1⟩
 ·exact h1
 ·exact absurd h1.1.symm ha
 exact absurd h1.1.symm ha
theorem bnd_pinf {b : Bnd} (h : BndR wPinf b) : b = (9223372036854775807, false) := by
 rcases h with ⟨h, -⟩ | ⟨-, h⟩ | ⟨⟨r, h, -, h1⟩, -⟩
 ·exact absurd (is_pinf h) (by decide)
 ·exact h
 exact absurd (is_pinf h) h1
theorem bad_pinf : ¬ BadB wPinf := fun ⟨⟨_, h, _, h1⟩, _⟩ => absurd (is_pinf h) h1
theorem bnd_open {n : Nat} (hn : n ≤ 9) {b : Bnd} (h : BndR [40, UInt8.ofNat (48 + n)] b) : b = ((n : Int), true) := by
 have hl : ([40, UInt8.ofNat (48 + n)] : List UInt8).length ≠ 4 := by show (2 : Nat) ≠ 4; decide
 rcases h with ⟨h, -⟩ | ⟨h, -⟩ | ⟨-, h2, h3⟩
 ·exact absurd (is_short hl h) (by decide)
 ·exact absurd (is_short hl h) (by decide)
 have hc : cutP [40, UInt8.ofNat (48 + n)] = ([UInt8.ofNat (48 + n)], true) := by unfold cutP; rw [if_pos (show ([40, UInt8.ofNat (48 + n)] : List UInt8).head? = some 40 from rfl)]; rfl
 rw [hc] at h2 h3;have h4 : NumP [UInt8.ofNat (48 + n)] (n : Int) true := .inl ⟨rfl, by omega, by omega, (itoa_small n hn).symm⟩;exact Prod.ext (h2.uniq h4).1 h3
theorem bad_open {n : Nat} (hn : n ≤ 9) : ¬ BadB [40, UInt8.ofNat (48 + n)] := fun ⟨_, h2⟩ => by
 have hc : cutP [40, UInt8.ofNat (48 + n)] = ([UInt8.ofNat (48 + n)], true) := by unfold cutP; rw [if_pos (show ([40, UInt8.ofNat (48 + n)] : List UInt8).head? = some 40 from rfl)]; rfl
 rw [hc] at h2;have h4 : NumP [UInt8.ofNat (48 + n)] (n : Int) true := .inl ⟨rfl, by omega, by omega, (itoa_small n hn).symm⟩;exact absurd (h4.uniq h2).2 (by decide)
theorem scored_above {z : Zs} (n : Int) (hf : ∀ m ∈ z, ZFit m.1) : scoredL z (n, true) (9223372036854775807, false) = z.filter fun m => decide (n < m.1) := by
 unfold scoredL scoresZ;rw [List.filter_filter];refine List.filter_congr fun m hm => ?_
 have h2 : ¬ m.1 > 9223372036854775807 := by have := (hf m hm).2; omega
 rw [Bool.eq_iff_iff];simp only [inB, Bool.true_and, Bool.false_and, Bool.or_false, Bool.and_eq_true, Bool.not_eq_true', decide_eq_false_iff_not, decide_eq_true_eq, Bool.or_eq_false_iff, h2, not_false_eq_true, and_true];omega
section
variable {M M' : List (List UInt8 × Ver)} {z out z0 : Zs} {ec exp : Int} {r : Rp} {m : Int × List UInt8} {t : Zs}
theorem HasZ.pick {F : Zs → Zs → Prop} {Bad : Prop} (hs : HasZ M z) (hb : ¬ Bad) (h : PickR F Bad M 0 kZ exp z0 out ec) : ec = 0 ∧ z0 = z ∧ exp = 0 ∧ F z out := by
 rcases h with ⟨h1, -⟩ | ⟨y, e0, ho, ⟨h1, -⟩ | ⟨-, h2, h3, h4, h5⟩⟩
 ·exact absurd h1 hb
 ·exact absurd (hs.of_ ho).1 h1
 obtain ⟨-, hy, he⟩ := hs.of_ ho;exact ⟨h2, h3.trans hy, h4.trans he, hy ▸ h5⟩
theorem HasZ.above {n : Nat} (hn : n ≤ 9) (hs : HasZ M z) (h : ScoredR [40, UInt8.ofNat (48 + n)] wPinf M 0 kZ exp z0 out ec) : ec = 0 ∧ z0 = z ∧ exp = 0 ∧ out = z.filter fun m => decide ((n : Int) < m.1) := by
 obtain ⟨h1, h2, h3, b1, b2, h4, h5, h6⟩ := hs.pick (fun ⟨a, ha, hb⟩ => by
  simp only [List.mem_cons, List.not_mem_nil, or_false] at ha;rcases ha with rfl | rfl
  ·exact bad_open hn hb
  exact bad_pinf hb) h
 rw [bnd_open hn h4, bnd_pinf h5, scored_above _ hs.fit] at h6;exact ⟨h1, h2, h3, h6⟩
theorem HasZ.cntAbove {n : Nat} (hn : n ≤ 9) (hs : HasZ M z) (h : ZCntR (ScoredR [40, UInt8.ofNat (48 + n)] wPinf M 0 kZ) M M' r) : M' = M ∧ r = rInt ((z.filter fun m => decide ((n : Int) < m.1)).length : Int) := by
 obtain ⟨exp, z0, out, ec, h1, h2, h3⟩ := h;obtain ⟨rfl, -, -, h4⟩ := hs.above hn h1;rcases h3 with ⟨h5, -⟩ | ⟨-, h5⟩
 ·exact absurd rfl h5
 exact ⟨h2, by rw [h5, h4]⟩
theorem HasZ.range (hs : HasZ M z) (hr : ZRangeR M 0 kZ [48] [45, 49] M' r) : M' = M ∧ r = rStrs (toldL true z) := by
 have n0 : NumP [48] 0 true := .inl ⟨rfl, by decide, by decide, (itoa_small 0 (by decide)).symm⟩;have n1 : NumP [45, 49] (-1) true := .inl ⟨rfl, by decide, by decide, by
  have h := itoa_small 1 (by decide);unfold Lib.itoa at h ⊢;rw [if_neg (by decide)] at h;rw [if_pos (by decide)];exact congrArg (List.cons 45) h.symm⟩
 obtain ⟨hM, ⟨q, h, h2⟩ | ⟨a, b, y, e0, ha, hb, ho, hr⟩⟩ := hr
 ·simp only [List.mem_cons, List.not_mem_nil, or_false] at h;rcases h with rfl | rfl
  ·exact absurd (n0.uniq h2).2 (by decide)
  exact absurd (n1.uniq h2).2 (by decide)
 obtain ⟨rfl, -⟩ := ha.uniq n0;obtain ⟨rfl, -⟩ := hb.uniq n1;obtain ⟨rfl, hy, -⟩ := hs.of_ ho;rcases hr with ⟨h1, -⟩ | ⟨-, h1⟩
 ·exact absurd rfl h1
 refine ⟨hM, ?_⟩;rw [h1, hy]
 congr 2
 unfold rangeZ spanF;simp only [show ¬ (0 : Int) < 0 by decide, if_false, show (-1 : Int) < 0 by decide, if_true];by_cases h : z = []
 ·subst h; simp
 have := List.length_pos_iff.2 h;rw [if_neg (by omega)];simp only [Int.toNat_zero, List.drop_zero];exact List.take_of_length_le (by omega)
end
abbrev zTwo : Zs := [(3, [98]), (5, [97])]
abbrev tTwo : Tx := [[98], [51], [97], [53]]
theorem told_two : toldL true zTwo = tTwo := by
 have e5 : Lib.itoa 5 = [53] := itoa_small 5 (by decide);have e3 : Lib.itoa 3 = [51] := itoa_small 3 (by decide);unfold toldL;simp only [List.flatMap_cons, List.flatMap_nil, if_true, e3, e5, List.cons_append, List.nil_append, List.append_nil]
theorem add_two {M' : List (List UInt8 × Ver)} {r : Rp} (hr : ZAddR [] 0 kZ [[53], [97], [51], [98]] M' r) : HasZ M' zTwo ∧ r = rInt 2 := by
 have e5 : ([53] : List UInt8) = Lib.itoa 5 := (itoa_small 5 (by decide)).symm;have e3 : ([51] : List UInt8) = Lib.itoa 3 := (itoa_small 3 (by decide)).symm;have hno : NoOpt [[53], [97], [51], [98]] := by rw [e5]; exact noOpt_itoa 5 _
 have h1x : ∀ q ∈ ([5, 3] : List Int), ZFit q := by
  intro q hq;simp only [List.mem_cons, List.not_mem_nil, or_false] at hq;rcases hq with rfl | rfl
  ·exact ⟨by decide, by decide⟩
  exact ⟨by decide, by decide⟩
 have hev : evP [[53], [97], [51], [98]] 2 = ([5, 3] : List Int).map Lib.itoa := by
  rw [List.map_cons, List.map_cons, ← e5, ← e3]; rfl
 have hl2 : ([[53], [97], [51], [98]] : Tx).length / 2 = 2 := by simp
 have hr := hr hno (by simp) (List.cons_ne_nil _ _);simp only [hl2] at hr;rcases hr with ⟨hb, -⟩ | ⟨ns, hns, y, e0, ho, hr⟩
 ·exact absurd (hev ▸ hb) (not_bad h1x)
 obtain rfl : ns = [5, 3] := ints_itoa h1x (hev ▸ hns);obtain ⟨rfl, hy, he⟩ := HasZ.nil.of_ ho;rcases hr with ⟨h1, -⟩ | ⟨-, out, ad, ea, hA, hr⟩
 ·exact absurd rfl h1
 rw [hy] at hA hr;rw [he] at hr;have hm : mergeZ [] [(5, [97]), (3, [98])] = [(5, [97]), (3, [98])] := rfl;have hz : zipP [5, 3] [[53], [97], [51], [98]] 2 = [(5, [97]), (3, [98])] := rfl;rw [hz] at hA;obtain ⟨o, h1, h2, h3, h4⟩ := HasZ.nil.adds (ms := [(5, [97]), (3, [98])]) (M' := M') (r := r) (ad := ad) (fun m hm => by
  simp only [List.mem_cons, List.not_mem_nil, or_false] at hm;rcases hm with rfl | rfl
  ·exact ⟨by decide, by decide⟩
  ·exact ⟨by decide, by decide⟩) (fun m hm => by
  simp only [List.mem_cons, List.not_mem_nil, or_false] at hm;rcases hm with rfl | rfl
  ·decide
  ·decide) (by rw [hm]; decide) (by rw [hm]; decide) (fun m h9 => by
  rw [hm] at h9;simp only [List.mem_cons, List.not_mem_nil, or_false] at h9;rcases h9 with rfl | rfl
  ·decide
  decide) ⟨out, ea, hA, hr⟩
 rw [hm] at h1;have hl : (sortZ o).length = 2 := by rw [((sortZ_perm o).trans h1).length_eq]; rfl
 have hmm : ∀ q ∈ sortZ o, q = (5, [97]) ∨ q = (3, [98]) := fun q hq => by
  have := sort_mem h1 hq
  simpa only [List.mem_cons, List.not_mem_nil, or_false] using this
 have hlt := (zok_iff.1 h2.ok).2.2.1;have hs : sortZ o = zTwo := by
  match hso : sortZ o, hl with
  | [p, q], _ =>
   rw [hso] at hmm hlt;have hpq := (List.pairwise_cons.1 hlt).1 q List.mem_cons_self;rcases hmm p List.mem_cons_self with rfl | rfl
   ·rcases hmm q (List.mem_cons_of_mem _ List.mem_cons_self) with rfl | rfl
    ·exact absurd ((ltZ _ _).2 hpq) (by decide)
    exact absurd ((ltZ _ _).2 hpq) (by decide)
   rcases hmm q (List.mem_cons_of_mem _ List.mem_cons_self) with rfl | rfl
   ·rfl
   exact absurd ((ltZ _ _).2 hpq) (by decide)
 rw [hs] at h2;exact ⟨h2, by rw [h3, h4]; rfl⟩
theorem zdFcallable7 : Callable Tryz.prog 7 := cb Tryz.func7 (by kernel_rfl)
theorem zdFcallable12 : Callable Tryz.prog 12 := cb Tryz.func12 (by kernel_rfl)
theorem zdFal29 : AL Tryz.prog 29 [vI 0, vS [], vI 0, vN] := fun w => by kernel_rfl
theorem zdFcallable19 : Callable Tryz.prog 19 := cb Tryz.func19 (by kernel_rfl)
theorem gAwake (B : Base) (H : List Res) (w : World) (hN : NumB B) (hv : Inv B H w) :
  Calls Tryz.prog 6 #[] w fun e w' => e = .returned (.bool true) ∧ Inv B H w' := by
 refine cW Tryz.func6 rfl Tryz.ntmps6 ?_;simp only [al];apply uN;intro _ _;apply uN;intro _ _;refine xC zdFcallable7 rfl ((lawOpened B _ _ 0 (by omega) (by omega) hv).mono ?_) rfl;rintro e w3 ⟨v, t, m, s, p, wb, va, vc, sv, rfl, hv⟩;apply eR;intro _ _ _ _;refine oG (.bool false) rfl (ex_pisnil Tryz.underlying25 rfl rfl rfl rfl) ?_;intro _ _;refine sl_rowN (pv := #[(0, vS [122]), (1, vS [53]), (2, vS [97]), (3, vS [51]), (4, vS [98])]) (L := [vS [122], vS [53], vS [97], vS [51], vS [98]]) (e := 9) tV (wn rfl) rfl (by simp only [List.map_toArray, List.map_cons, List.map_nil]; rfl) hv (fun w => by kernel_rfl) (fun b7 w8 hv => ?_);obtain ⟨D9, hD9, hv, hrD9, hoD9, -⟩ := (hv.cellRow (n := 5) (c := 5) (size := 1) rfl (by decide) (by decide)).rowBy;replace hv := hv.front 1 rfl;simp only [eS, eZ] at hv;replace hv := hv.front 1 rfl;simp only [eS, eZ] at hv;refine xC zdFcallable12 rfl ((gDo D9 _ _ v t m s p wb va vc sv 0 [] [] ((vmNil B).more hD9) OkM.nil _ _ [([122] : List UInt8), ([53] : List UInt8), ([97] : List UInt8), ([51] : List UInt8), ([98] : List UInt8)] hrD9 hoD9 (by decide) ([90, 65, 68, 68] : List UInt8) (all1 (by decide) (all1 (by decide) (all1 (by decide) (all1 (by decide) (all1 (by decide) all0))))) (.inl (all1 (by decide) (all1 (by decide) (all1 (by decide) (all1 (by decide) (all1 (by decide) all0)))))) (hN.more hD9) hv).mono ?_) rfl;rintro e w10 ⟨C1, es1, M1, r1, cs1, ok1, hC1, rfl, hrp1, hM1, ⟨hO1, -⟩, hok1, -, hrel1, hv⟩;apply eR;obtain rfl : ok1 = true := hok1.2 (by decide);obtain ⟨hg1, hg2, hg3, hg4, hg5, hg6, hg7⟩ := hrel1 (by unfold GArgs; decide);obtain ⟨k9, e9, hd9⟩ := hg1 rfl;cases e9;obtain ⟨hS1, rfl⟩ := add_two hd9;obtain ⟨v1, rfl⟩ := rp_int hrp1;apply uN;refine sl_alloc tV (wn rfl) rfl hv zdFal29 (fun b11 w12 hv => ?_);refine zX 0 rfl hv rssz29 rfl (fun w13 hv => ?_) (by exact ⟨rfl, rfl, rfl, hrp1.lv.2, trivial⟩)
 apply uN;intro _ _;refine sl_rowN (pv := #[(0, vS [122]), (1, vS [48]), (2, vS [45, 49]), (3, vS [87, 73, 84, 72, 83, 67, 79, 82, 69, 83])]) (L := [vS [122], vS [48], vS [45, 49], vS [87, 73, 84, 72, 83, 67, 79, 82, 69, 83]]) (e := 9) tV (wn rfl) rfl (by simp only [List.map_toArray, List.map_cons, List.map_nil]; rfl) hv (fun w => by kernel_rfl) (fun b15 w16 hv => ?_);obtain ⟨D17, hD17, hv, hrD17, hoD17, -⟩ := (hv.cellRow (n := 4) (c := 4) (size := 1) rfl (by decide) (by decide)).rowBy;replace hv := hv.front 2 rfl;simp only [eS, eZ] at hv;replace hv := hv.front 2 rfl;simp only [eS, eZ] at hv;refine xC zdFcallable12 rfl ((gDo D17 _ _ v t m s p wb va vc sv 0 es1 M1 (hM1.more hD17) hO1 _ _ [([122] : List UInt8), ([48] : List UInt8), ([45, 49] : List UInt8), ([87, 73, 84, 72, 83, 67, 79, 82, 69, 83] : List UInt8)] hrD17 hoD17 (by decide) ([90, 82, 65, 78, 71, 69] : List UInt8) (all1 (by decide) (all1 (by decide) (all1 (by decide) (all1 (by decide) all0)))) (.inl (all1 (by decide) (all1 (by decide) (all1 (by decide) (all1 (by decide) all0))))) (hN.more ((hD9.trans hC1).trans hD17)) hv).mono ?_) rfl;rintro e w18 ⟨C2, es2, M2, r2, cs2, ok2, hC2, rfl, hrp2, hM2, ⟨hO2, -⟩, hok2, -, hrel2, hv⟩;apply eR;obtain rfl : ok2 = true := hok2.2 (by decide);obtain ⟨hg1, hg2, hg3, hg4, hg5, hg6, hg7⟩ := hrel2 (by unfold GArgs; decide);obtain ⟨k9, x9, y9, e9, e8, e7, hd9⟩ := hg5 rfl rfl;cases e9; cases e8; cases e7;obtain ⟨hMe, rfl⟩ := hS1.range hd9;have hS2 : HasZ M2 zTwo := by rw [hMe]; exact hS1
 rw [told_two] at hrp2;obtain ⟨a3, c3, rfl⟩ := rp_strs hrp2;apply uN;refine sl_alloc tV (wn rfl) rfl hv zdFal29 (fun b19 w20 hv => ?_);refine zX 0 rfl hv rssz29 rfl fun w21 hv => ?_
 apply uN;intro _ _;refine sl_rowN (pv := #[(0, vS [122]), (1, vS [40, 51]), (2, vS [43, 105, 110, 102])]) (L := [vS [122], vS [40, 51], vS [43, 105, 110, 102]]) (e := 9) tV (wn rfl) rfl (by simp only [List.map_toArray, List.map_cons, List.map_nil]; rfl) hv (fun w => by kernel_rfl) (fun b23 w24 hv => ?_);obtain ⟨D25, hD25, hv, hrD25, hoD25, -⟩ := (hv.cellRow (n := 3) (c := 3) (size := 1) rfl (by decide) (by decide)).rowBy;replace hv := hv.front 2 rfl;simp only [eS, eZ] at hv;replace hv := hv.front 2 rfl;simp only [eS, eZ] at hv;refine xC zdFcallable12 rfl ((gDo D25 _ _ v t m s p wb va vc sv 0 es2 M2 (hM2.more hD25) hO2 _ _ [([122] : List UInt8), ([40, 51] : List UInt8), ([43, 105, 110, 102] : List UInt8)] hrD25 hoD25 (by decide) ([90, 67, 79, 85, 78, 84] : List UInt8) (all1 (by decide) (all1 (by decide) (all1 (by decide) all0))) (.inl (all1 (by decide) (all1 (by decide) (all1 (by decide) all0)))) (hN.more ((((hD9.trans hC1).trans hD17).trans hC2).trans hD25)) hv).mono ?_) rfl;rintro e w26 ⟨C3, es3, M3, r3, cs3, ok3, hC3, rfl, hrp3, hM3, ⟨hO3, -⟩, hok3, -, hrel3, hv⟩;apply eR;obtain rfl : ok3 = true := hok3.2 (by decide);obtain ⟨hg1, hg2, hg3, hg4, hg5, hg6, hg7⟩ := hrel3 (by unfold GArgs; decide);obtain ⟨k9, x9, y9, e9, e8, e7, hd9⟩ := hg2 rfl;cases e9; cases e8; cases e7;obtain ⟨-, rfl⟩ := hS2.cntAbove (n := 3) (by decide) hd9;obtain ⟨v3, rfl⟩ := rp_int hrp3;apply uN;refine sl_alloc tV (wn rfl) rfl hv zdFal29 (fun b27 w28 hv => ?_);refine zX 0 rfl hv rssz29 rfl (fun w29 hv => ?_) (by exact ⟨rfl, rfl, rfl, hrp3.lv.2, trivial⟩);apply uN;intro _ _;refine rW mixed [14, 15, 16] [0,1,2,3,4,5,6,7,8,9,10,11,12,13,14,15,16,17,18,19,20,21,22,23] 52 rfl (by kernel_rfl) hv ?_;simp only [qm, opAt];apply uN;refine dG (.pointer (some ⟨b11, 2, none⟩)) rfl (ex_field rfl rfl (l0fa29_2 _ _ _)) ?_
 simp only [zP, po];refine dL _ rfl (fun hv => ex_load rfl rfl (run_load1 s2na3 (hv.load 4 2 rfl rfl))) ?_;refine dG (.bool true) rfl (ex_eql rfl rfl rfl (by decide)) ?_;apply uN;refine dF (.agg #[vI 5, vS [], vI 0, .slice a3 4 c3]) rfl (fun hv => ex_load rfl rfl (lM 3 rswd29 hv rfl rfl rfl rfl)) fun f31 hf31 => ?_
 refine dS rfl fun w32 hv => mem_rowN (pv := #[(0, vS [98]), (1, vS [51]), (2, vS [97]), (3, vS [53])]) (L := [vS [98], vS [51], vS [97], vS [53]]) (e := 9) rfl rfl (by simp only [List.map_toArray, List.map_cons, List.map_nil]; rfl) hv (fun w => by kernel_rfl) (fun b33 w34 hv => ?_)
 refine dV hv (fC (fun ww hv => hf31 ww ?_) fN) ?_
 ·exact ex_load rfl rfl (lM 4 rswd29 hv rfl rfl rfl rfl)
 simp only [zP, po];refine dS rfl fun w35 hv => ?_
 obtain ⟨D36, hD36, hv, hrD36, hoD36, -⟩ := (hv.cellRow (n := 4) (c := 4) (size := 1) rfl (by decide) (by decide)).rowBy;refine mC zdFcallable19 rfl ((ref20Strs D36 _ _ _ _ [([98] : List UInt8), ([51] : List UInt8), ([97] : List UInt8), ([53] : List UInt8)] hrD36 (by decide) hv).mono ?_) rfl;rintro e w37 ⟨E, ve, hE, rfl, hrpE, hv⟩;refine ⟨_, rfl, dV hv (fC (fun ww hv => hf31 ww ?_) fN) ?_⟩
 ·exact ex_load rfl rfl (lM 3 rswd29 hv rfl rfl rfl rfl)
 refine dS rfl fun w38 hv => mC l0callable15 rfl (((sameR_strs (B := E) (l := tTwo) (by decide)) _ _ (rpCells 5 [] 0 (.slice a3 4 c3)) (rpCells 5 [] 0 ve) (hrp2.more (((hD25.trans hC3).trans hD36).trans hE)) (hrpE.more (Base.Le.refl _)) hv).mono ?_) rfl
 rintro e w39 ⟨rfl, hv⟩;refine ⟨_, rfl, dV hv (fK rfl fN) ?_⟩;apply uN;refine dG (.pointer (some ⟨b27, 2, none⟩)) rfl (ex_field rfl rfl (l0fa29_2 _ _ _)) ?_;refine dL _ rfl (fun hv => ex_load rfl rfl (run_load1 s2na3 (hv.load 0 2 rfl rfl))) ?_;simp only [zP, po];refine dG (.bool true) rfl (ex_eql rfl rfl rfl (by decide)) ?_;apply uN;refine dE fun w40 hv => ?_
 apply uN;refine bR rfl rfl (⟨rfl, ((hv.kp [] 0 5)).weak (((((((hD9.trans hC1).trans hD17).trans hC2).trans hD25).trans hC3).trans hD36).trans hE)⟩)
section
variable {M : List (List UInt8 × Ver)} {K : List KeyR} {clk : Int} {name : List UInt8}
end
section
variable {M : List (List UInt8 × Ver)} {clk kd : Int} {key : List UInt8} {y : Ver} {ec : Int} {k : KeyR}
end
theorem gRefNames (B : Base) (H : List Res) (w : World) (hv : Inv B H w) :
  Calls Tryz.prog 11 #[] w fun e w' => ∃ C na nc, B.Le C ∧ e = .returned (.slice na gNames.length nc) ∧ RdV C [] na (textCells gNames) ∧ SliceOk na gNames.length nc ∧ Inv C H w' := by
 refine cW Tryz.func11 rfl Tryz.ntmps11 ?_;simp only [al];apply uN;intro _ _;apply uN;intro _ _;refine sl_rowN (pv := #[(0, vS [90, 65, 68, 68]), (1, vS [90, 67, 65, 82, 68]), (2, vS [90, 67, 79, 85, 78, 84]), (3, vS [90, 68, 73, 70, 70]), (4, vS [90, 68, 73, 70, 70, 83, 84, 79, 82, 69]), (5, vS [90, 73, 78, 67, 82, 66, 89]), (6, vS [90, 73, 78, 84, 69, 82, 83, 84, 79, 82, 69]), (7, vS [90, 76, 69, 88, 67, 79, 85, 78, 84]), (8, vS [90, 77, 83, 67, 79, 82, 69]), (9, vS [90, 80, 79, 80, 77, 65, 88]), (10, vS [90, 80, 79, 80, 77, 73, 78]), (11, vS [90, 82, 65, 78, 71, 69]), (12, vS [90, 82, 65, 78, 71, 69, 66, 89, 76, 69, 88]), (13, vS [90, 82, 65, 78, 71, 69, 66, 89, 83, 67, 79, 82, 69]), (14, vS [90, 82, 65, 78, 75]), (15, vS [90, 82, 69, 77]), (16, vS [90, 82, 69, 77, 82, 65, 78, 71, 69, 66, 89, 76, 69, 88]), (17, vS [90, 82, 69, 77, 82, 65, 78, 71, 69, 66, 89, 82, 65, 78, 75]), (18, vS [90, 82, 69, 77, 82, 65, 78, 71, 69, 66, 89, 83, 67, 79, 82, 69]), (19, vS [90, 82, 69, 86, 82, 65, 78, 71, 69]), (20, vS [90, 82, 69, 86, 82, 65, 78, 71, 69, 66, 89, 83, 67, 79, 82, 69]), (21, vS [90, 82, 69, 86, 82, 65, 78, 75]), (22, vS [90, 83, 67, 65, 78]), (23, vS [90, 83, 67, 79, 82, 69]), (24, vS [90, 85, 78, 73, 79, 78, 83, 84, 79, 82, 69])]) (L := [vS [90, 65, 68, 68], vS [90, 67, 65, 82, 68], vS [90, 67, 79, 85, 78, 84], vS [90, 68, 73, 70, 70], vS [90, 68, 73, 70, 70, 83, 84, 79, 82, 69], vS [90, 73, 78, 67, 82, 66, 89], vS [90, 73, 78, 84, 69, 82, 83, 84, 79, 82, 69], vS [90, 76, 69, 88, 67, 79, 85, 78, 84], vS [90, 77, 83, 67, 79, 82, 69], vS [90, 80, 79, 80, 77, 65, 88], vS [90, 80, 79, 80, 77, 73, 78], vS [90, 82, 65, 78, 71, 69], vS [90, 82, 65, 78, 71, 69, 66, 89, 76, 69, 88], vS [90, 82, 65, 78, 71, 69, 66, 89, 83, 67, 79, 82, 69], vS [90, 82, 65, 78, 75], vS [90, 82, 69, 77], vS [90, 82, 69, 77, 82, 65, 78, 71, 69, 66, 89, 76, 69, 88], vS [90, 82, 69, 77, 82, 65, 78, 71, 69, 66, 89, 82, 65, 78, 75], vS [90, 82, 69, 77, 82, 65, 78, 71, 69, 66, 89, 83, 67, 79, 82, 69], vS [90, 82, 69, 86, 82, 65, 78, 71, 69], vS [90, 82, 69, 86, 82, 65, 78, 71, 69, 66, 89, 83, 67, 79, 82, 69], vS [90, 82, 69, 86, 82, 65, 78, 75], vS [90, 83, 67, 65, 78], vS [90, 83, 67, 79, 82, 69], vS [90, 85, 78, 73, 79, 78, 83, 84, 79, 82, 69]]) (e := 9) tV (wn rfl) rfl (by simp only [List.map_toArray, List.map_cons, List.map_nil]; rfl) hv (fun w => by kernel_rfl) (fun b3 w4 hv => ?_)
 apply uN;refine bR rfl rfl ?_;obtain ⟨C, hC, hv, hr, hok, -⟩ := (hv.cellRow (n := 25) (c := 25) (size := 1) rfl (by decide) (by decide)).rowBy;exact ⟨C, _, _, hC, rfl, hr, hok, hv⟩
theorem zdGcallable6 : Callable Tryz.prog 6 := cb Tryz.func6 (by kernel_rfl)
theorem zdGcallable11 : Callable Tryz.prog 11 := cb Tryz.func11 (by kernel_rfl)
theorem zdGal29 : AL Tryz.prog 29 [vI 0, vS [], vI 0, vN] := fun w => by kernel_rfl
theorem zdGcallable14 : Callable Tryz.prog 14 := cb Tryz.func14 (by kernel_rfl)
theorem zdGcallable13 : Callable Tryz.prog 13 := cb Tryz.func13 (by kernel_rfl)
theorem zdGcallable232 : Callable Tryz.prog 232 := cb Tryz.func232 (by kernel_rfl)
theorem lawNamesMain (B : Base) (H : List Res) (w : World) (name : List UInt8) (aa : Option Addr) (ac : Nat) (args : List (List UInt8)) (hra : RdV B [] aa (textCells args)) (hoka : SliceOk aa args.length ac) (hxl : ∀ x ∈ args, x.length ≤ 9223372036854775807) (hN : NumB B) (hv : Inv B H w) :
  Calls Tryz.prog 4 #[vS name, .slice aa args.length ac] w fun e w' => e = .returned (.bool true) ∧ Inv B H w' := by
 refine cW Tryz.func4 rfl Tryz.ntmps4 ?_;simp only [al];apply uN;intro _ _;apply uN;intro _ _ _ _;refine xC zdGcallable6 rfl ((gAwake B _ _ (hN.more (Base.Le.refl _)) hv).mono ?_) rfl;rintro e w4 ⟨rfl, hv⟩;apply eR;refine oG (.bool false) rfl (ex_not rfl rfl rfl) ?_;refine oG (vI (name.length : Int)) rfl (ex_lenStr Tryz.underlying9 rfl rfl) ?_;refine uB (fun hb5 => ?_) fun hb5 => ?_
 ·intro _ _;refine xC zdGcallable6 rfl ((gAwake B _ _ (hN.more (Base.Le.refl _)) hv).mono ?_) rfl;rintro e w7 ⟨rfl, hv⟩;apply eR;refine bR rfl rfl ?_;exact ⟨rfl, (hv).weak (Base.Le.refl _)⟩
 refine oG (vI (args.length : Int)) rfl (ex_len0 Tryz.underlying22 rfl rfl) ?_;refine uB (fun hb8 => ?_) fun hb8 => ?_
 ·intro _ _;refine xC zdGcallable6 rfl ((gAwake B _ _ (hN.more (Base.Le.refl _)) hv).mono ?_) rfl;rintro e w10 ⟨rfl, hv⟩;apply eR;refine bR rfl rfl ?_;exact ⟨rfl, (hv).weak (Base.Le.refl _)⟩
 intro _ _;refine xC zdGcallable11 rfl ((gRefNames B _ _ hv).mono ?_) rfl;rintro e w12 ⟨C, na, nc, hC, rfl, hrn, hokn, hv⟩;apply eR;intro _ _;apply uN;intro _ _ _ _;apply uN
 gi_loopw [6, 7] (fun x6 x7 wr => ∃ (i : Nat) (b : Bool), x6 = .bool b ∧ x7 = vI i ∧ i ≤ gNames.length ∧ (b = true ↔ name ∈ gNames.take i) ∧ Inv C (H) wr) (fun x6 x7 _ => gNames.length - (intOf x7).toNat)
 case atStart => exact ⟨0, false, rfl, rfl, Nat.zero_le _, ⟨fun h => (by cases h), fun h => (by cases h)⟩, hv⟩
 case round =>
  obtain ⟨i, b, rfl, rfl, hi, hb, hv⟩ := hrel;have hnl := gNames_len;apply uN;intro _ _ _ _;refine oG (vI (gNames.length : Int)) rfl (ex_len0 Tryz.underlying22 rfl rfl) ?_;refine uB (fun hb19 => ?_) fun hb19 => ?_
  ·intro _ _;obtain ⟨x, hx⟩ : ∃ x, gNames[i]? = some x := ⟨_, List.getElem?_eq_getElem (show i < gNames.length by omega)⟩;obtain ⟨nb, no, had, hrdx⟩ := text_reads hrn hx;subst had;apply uN;cases b
   ·apply uN;refine oG (.pointer (some ⟨nb, no + i, none⟩)) rfl (ex_index rfl rfl rfl (run_idx1 (k := i) Tryz.underlying22 s9es22 (by omega))) ?_;refine oL _ rfl (run_load1 s9na9 (hrdx _ _ _ (Base.Le.refl _) no_res hv 0 _ rfl)) ?_;refine uB (fun hb21 => ?_) fun hb21 => ?_
    ·refine oG (vI ((i + 1 : Nat) : Int)) rfl (ex_add rfl rfl rfl (by rw [i64_in (by omega)]; omega)) ?_;refine then_normal ?_
     go_roundw
     case rel => exact ⟨i + 1, true, rfl, rfl, by omega, by rw [take_next hx, List.mem_append]; exact ⟨fun _ => .inr (by rw [List.mem_singleton]; exact hb21.symm), fun _ => rfl⟩, hv⟩
     case measure => show gNames.length - (((i + 1 : Nat) : Int)).toNat < gNames.length - ((i : Int)).toNat; omega
    refine oG (vI ((i + 1 : Nat) : Int)) rfl (ex_add rfl rfl rfl (by rw [i64_in (by omega)]; omega)) ?_;refine then_normal ?_
    go_roundw
    case rel => exact ⟨i + 1, false, rfl, rfl, by omega, by rw [take_next hx, List.mem_append]; exact ⟨fun h9 => (by cases h9), fun h9 => h9.elim (fun h8 => hb.2 h8) (fun h8 => absurd (List.mem_singleton.1 h8).symm hb21)⟩, hv⟩
    case measure => show gNames.length - (((i + 1 : Nat) : Int)).toNat < gNames.length - ((i : Int)).toNat; omega
   apply uN;refine oG (vI ((i + 1 : Nat) : Int)) rfl (ex_add rfl rfl rfl (by rw [i64_in (by omega)]; omega)) ?_;refine then_normal ?_
   go_roundw
   case rel => exact ⟨i + 1, true, rfl, rfl, by omega, by rw [take_next hx, List.mem_append]; exact ⟨fun _ => .inl (hb.1 rfl), fun _ => rfl⟩, hv⟩
   case measure => show gNames.length - (((i + 1 : Nat) : Int)).toNat < gNames.length - ((i : Int)).toNat; omega
  intro _ _;obtain rfl : i = gNames.length := by omega
  rw [List.take_length] at hb;refine xC zdFcallable7 rfl ((lawOpened C _ _ 0 (by omega) (by omega) hv).mono ?_) rfl;rintro e w23 ⟨v, t, m, s, p, wb, va, vc, sv, rfl, hv⟩;apply eR;intro _ _;replace hv := hv.front 1 rfl;simp only [eS, eZ] at hv;replace hv := hv.front 1 rfl;simp only [eS, eZ] at hv;refine xC zdFcallable12 rfl ((gDo C _ _ v t m s p wb va vc sv 0 [] [] (show VM C [] [] from trivial) OkM.nil aa ac args (hra.more hC (fun _ h => h)) hoka (by omega) name hxl (.inr rfl) (hN.more hC) hv).mono ?_) rfl;rintro e w25 ⟨D, es', M', r, cs, ok, hD, rfl, hrp, hM', hcmd, hok, hno, -, hv⟩;apply eR;obtain ⟨rk, rs, rn, rv, rfl⟩ := rp_parts hrp;by_cases hnm : name ∈ gNames
  ·obtain rfl : ok = true := hok.2 hnm;obtain rfl : b = true := hb.2 hnm;apply uN;refine sl_alloc tV (wn rfl) rfl hv zdGal29 (fun b26 w27 hv => ?_);simp only [zP, po];refine zX 0 rfl hv rssz29 rfl (fun w28 hv => ?_) (by exact ⟨rfl, rfl, rfl, hrp.lv.2, trivial⟩);apply uN;intro _ _ _ _;apply uN;intro _ _;apply uN;refine bR rfl rfl (⟨rfl, ((hv.kp [] 0 3)).weak (hC.trans hD)⟩)
  obtain rfl : ok = false := Bool.eq_false_iff.2 fun h9 => hnm (hok.1 h9)
  obtain rfl : b = false := Bool.eq_false_iff.2 fun h9 => hnm (hb.1 h9)
  obtain ⟨rfl, rfl⟩ := hno rfl;apply uN;refine sl_alloc tV (wn rfl) rfl hv zdGal29 (fun b32 w33 hv => ?_);simp only [zP, po];refine zX 0 rfl hv rssz29 rfl (fun w34 hv => ?_) (by exact ⟨rfl, rfl, rfl, hrp.lv.2, trivial⟩);apply uN;intro _ _ _ _;refine xC zdGcallable14 rfl ((gNamesC D _ _ hv).mono ?_) rfl;rintro e w37 ⟨E, pa, pc, hE, rfl, hrq, -, hv⟩;apply eR;refine xC zdGcallable13 rfl ((refWords E _ _ pa na pc nc gNames hrq (hrn.more (hD.trans hE) (fun _ h => h)) (by decide) hv).mono ?_) rfl;rintro e w38 ⟨rfl, hv⟩;apply eR;refine oG (.bool false) rfl (ex_not rfl rfl rfl) ?_;intro _ _;refine oG (.bool true) rfl (ex_not rfl rfl rfl) ?_;refine oL (.agg #[vI rk, vS rs, vI rn, rv]) rfl (lM 0 rswd29 hv rfl rfl rfl rfl) ?_;refine oG (.agg #[vI 0, vS [], vI 0, vN]) rfl (ex_buildN (vs := #[]) rfl (by simp only [List.map_toArray, List.map_nil]) (by kernel_rfl)) ?_;refine xC l0callable15 rfl (((sameR_leaf (B := E) (k := 0) (s := []) (n := 0)) _ _ (rpCells rk rs rn rv) (rpCells 0 [] 0 (vN)) (hrp.more hE) rpAt_leaf hv).mono ?_) rfl;rintro e w40 ⟨rfl, hv⟩;apply eR;refine oG (vP v) rfl (ex_nil rfl rfl) ?_;refine oF (vP v) rfl (v1fa38_0 _ _ _) ?_;refine oL _ rfl (run_load1 v1na36 (hv.load 1 0 rfl rfl)) ?_;replace hv := hv.front 2 rfl;simp only [eS, eZ] at hv;refine wpi_callI zdGcallable232 tV wideC rfl (wanted_of (j := 7) (d := 66) (b := true) rfl rfl rfl) rfl rfl (r := vP t) (fun w => by kernel_rfl) (args := #[]) (by simp only [List.map_toArray, List.map_nil]) ((txnNamesB E _ _ t m s p wb va vc sv 0 es' [] (hM'.more hE) (fun k h => by cases h) (Nat.zero_le _) hv).mono ?_);rintro e w41 ⟨P, qa, qc, hP, rfl, -, hv⟩;apply eR;refine oG (vI (((namesT [] 0).length) : Int)) rfl (ex_len0 Tryz.underlying22 rfl rfl) ?_;refine uT (by simp [namesT]) ?_;refine bR rfl rfl ?_;exact ⟨rfl, ((hv.kp [] 0 3)).weak (((hC.trans hD).trans hE).trans hP)⟩
end Go.Proofs.YtgbhdfpobgefgaaGreatDoor
namespace Go.Pm
open Go.RowKit
def All2 {α β : Type} (R : α → β → Prop) : List α → List β → Prop
 | [], [] => True
 | a :: k, b :: l => R a b ∧ All2 R k l
 | _, _ => False
theorem rep_rowAux {W : World} {S : Nat → Prop} {t : Ty} {a : Option Addr} : ∀ (l : List t.den) (k : Nat), (∀ i (h : i < l.length), ∃ b off xs, a = some ⟨b, off, none⟩ ∧ S b ∧ xs.length = t.size ∧ (∀ j (h : j < xs.length), W.cell? ⟨b, off + (k + i) * t.size + j, none⟩ = some xs[j]) ∧ Rep W S t xs l[i]) →
  ∃ xss : List (List Value), All2 (fun xs d => xs.length = t.size ∧ Rep W S t xs d) xss l ∧ ∀ j (h : j < xss.flatten.length), ∃ b off, a = some ⟨b, off, none⟩ ∧ W.cell? ⟨b, off + k * t.size + j, none⟩ = some xss.flatten[j]
 | [], k, _ => ⟨[], trivial, fun j h => by simp at h⟩
 | d :: l, k, h => by
  obtain ⟨xss, h1, h2⟩ := rep_rowAux l (k + 1) (fun i hi => by
   obtain ⟨b, off, xs, e1, e2, e3, e4, e5⟩ := h (i + 1) (by simpa using hi);refine ⟨b, off, xs, e1, e2, e3, fun j hj => ?_, e5⟩;rw [show k + 1 + i = k + (i + 1) by omega];exact e4 j hj)
  obtain ⟨b, off, xs, e1, e2, e3, e4, e5⟩ := h 0 (by simp);refine ⟨xs :: xss, ⟨⟨e3, e5⟩, h1⟩, fun j hj => ?_⟩;rcases Nat.lt_or_ge j xs.length with hx | hx
  ·refine ⟨b, off, e1, ?_⟩;have := e4 j hx;rw [Nat.add_zero] at this;rw [this];simp only [List.flatten_cons];rw [List.getElem_append_left hx]
  have hj' : j - xs.length < xss.flatten.length := by
   simp only [List.flatten_cons, List.length_append] at hj;omega
  obtain ⟨b', off', f1, f2⟩ := h2 (j - xs.length) hj';refine ⟨b', off', f1, ?_⟩;rw [show off' + k * t.size + j = off' + (k + 1) * t.size + (j - xs.length) by rw [Nat.succ_mul]; omega, f2];simp only [List.flatten_cons];rw [List.getElem_append_right hx]
theorem rep_row {W : World} {S : Nat → Prop} {t : Ty} {cs : List Value} {l : List t.den} (h : Rep W S (.slice t) cs l) :
  ∃ a cap xss, cs = [.slice a l.length cap] ∧ SliceOk a l.length cap ∧ RdV (Base.of W) [] a xss.flatten ∧ All2 (fun xs d => xs.length = t.size ∧ Rep W S t xs d) xss l := by
 obtain ⟨a, cap, h1, h2, h4⟩ := h;obtain ⟨xss, h5, h6⟩ := rep_rowAux (t := t) l 0 (fun i hi => by
  obtain ⟨b, off, xs, e1, e2, e3, e4, e5⟩ := h4 i hi;refine ⟨b, off, xs, e1, e2, e3, fun j hj => ?_, e5⟩;rw [Nat.zero_add];exact e4 j hj)
 refine ⟨a, cap, xss, h1, h2, rdV_of W fun j hj => ?_, h5⟩;obtain ⟨b, off, f1, f2⟩ := h6 j hj;exact ⟨b, off, f1, by rw [← f2, Nat.zero_mul, Nat.add_zero]⟩
theorem rep_texts {W : World} {S : Nat → Prop} : ∀ {xss : List (List Value)} {l : List (List UInt8)}, All2 (fun xs (d : Ty.str.den) => xs.length = Ty.str.size ∧ Rep W S .str xs d) xss l → xss.flatten = textCells l
 | [], [], _ => rfl
 | xs :: xss, d :: l, ⟨⟨h1, h2⟩, h⟩ => by
  have := rep_texts h
  match xs, h1 with
  | [x0], _ =>
   obtain ⟨k1, _⟩ := h2;have k1' : [x0] = _ := k1;simp only [List.cons.injEq, and_true] at k1';subst k1';simp only [List.flatten_cons, this, textCells, List.map_cons]
   rfl
end Go.Pm
namespace Go.Proofs.YtgbhdfpobgefgaaGreatDoor
open Go
theorem tabOf {W : World} {l : List (String × DataW Unit)} (hl : l.filter (fun x => x.1 == "internal/strconv.uint64pow10") = [("internal/strconv.uint64pow10", Lib.tabData .u64 Lib.pow10Tab)]) (hL : laidMetH Tryz.prog l W) : Lib.TabIs Tryz.prog W "internal/strconv.uint64pow10" .u64 Lib.pow10Tab := by
 have h := hL.filter (fun x => x.1 == "internal/strconv.uint64pow10");rw [hl] at h;have h2 := (laidMetH_iff.1 h).1;have e : ([("internal/strconv.uint64pow10", (Lib.tabData .u64 Lib.pow10Tab : DataW Unit))].filter fun x => x.2.handleName?.isNone) = [("internal/strconv.uint64pow10", Lib.tabData .u64 Lib.pow10Tab)] := by kernel_rfl
 rw [e] at h2;exact Lib.tabIs_of_head (g := 1) (t := 276) (e := 71) (n := 20) (by kernel_rfl) (by kernel_rfl) Tryz.underlying276 Tryz.underlying71 (by kernel_rfl) (by kernel_rfl) h2
open Go.RowKit Go.Pm
theorem parsesAny (B : Base) (H : List Res) (h1 : HasErr B 2) (h2 : HasErr B 3) : ParsesAny B H := fun w s hs hv => by
 obtain ⟨t1, v1, h1⟩ := h1;obtain ⟨t2, v2, h2⟩ := h2;have c1 := h1 B H w (Base.Le.refl _) hv;have c2 := h2 B H w (Base.Le.refl _) hv;have hmax : (ByteArray.mk s.toArray).size ≤ 20 := by show s.toArray.size ≤ 20; simpa using hs
 cases hp : Lib.parseIntB 64 s
 case ok n =>
  have hb := Lib.parseIntB_bounds hp;have h : Calls Tryz.prog 132 #[vS s, vI 10, vI 64] w _ := Any.strconv_ParseInt_10_at64_ok Tryz.laysPI ⟨s.toArray⟩ (by omega) n hp w;refine h.mono ?_;rintro e w' ⟨rfl, hw⟩;refine ⟨n, .nilIface, rfl, .inl rfl, by omega, fun m m0 m1 e9 => ⟨rfl, ?_⟩, ?_⟩
  ·rw [e9, parse_itoa m m0 m1] at hp;cases hp; rfl
  rcases hw with rfl | ⟨t, rfl⟩
  ·exact hv
  exact hv.ext (bytesWorld_ext w _ t)
 ·skip
  have h : Calls Tryz.prog 132 #[vS s, vI 10, vI 64] w _ := Any.strconv_ParseInt_10_at64_syntax Tryz.laysPI ⟨s.toArray⟩ (by omega) hp _ w c1 (.inr ⟨_, _, rfl⟩);refine h.mono ?_;rintro e w' ⟨N, rfl, -, -, hx⟩;refine ⟨0, _, rfl, .inr ⟨_, _, rfl⟩, by omega, fun m m0 m1 e9 => ?_, hv.ext hx⟩;rw [e9, parse_itoa m m0 m1] at hp;cases hp
 case range =>
  have h : Calls Tryz.prog 132 #[vS s, vI 10, vI 64] w _ := Any.strconv_ParseInt_10_at64_range Tryz.laysPI ⟨s.toArray⟩ (by omega) hp _ w c2 (.inr ⟨_, _, rfl⟩);refine h.mono ?_;rintro e w' ⟨N, rfl, -, -, hx⟩;refine ⟨_, _, rfl, .inr ⟨_, _, rfl⟩, ?_, fun m m0 m1 e9 => ?_, hv.ext hx⟩
  ·unfold Lib.intSat
   split <;> decide
  rw [e9, parse_itoa m m0 m1] at hp;cases hp
theorem numB {W : World} {l : List (String × DataW Unit)} (hl0 : l.filter (fun x => x.1 == "internal/strconv.uint64pow10") = [("internal/strconv.uint64pow10", Lib.tabData .u64 Lib.pow10Tab)])
  {n1 n2 : String} {d1 d2 : DataW Unit} (hl1 : l.filter (fun x => x.1 == "strconv.ErrSyntax") = [("strconv.ErrSyntax", .iface n1 d1)]) (he1 : ([("strconv.ErrSyntax", (DataW.iface n1 d1 : DataW Unit))].filter fun x => x.2.handleName?.isNone) = [("strconv.ErrSyntax", .iface n1 d1)])
  (hl2 : l.filter (fun x => x.1 == "strconv.ErrRange") = [("strconv.ErrRange", .iface n2 d2)]) (he2 : ([("strconv.ErrRange", (DataW.iface n2 d2 : DataW Unit))].filter fun x => x.2.handleName?.isNone) = [("strconv.ErrRange", .iface n2 d2)]) (hL : laidMetH Tryz.prog l W) : NumB (Base.of W) := by
 have ht := tabOf hl0 hL;obtain ⟨u1, v1, h1⟩ := errOf hl1 he1 (g := 2) (t := 225) (by kernel_rfl) (by kernel_rfl) Tryz.underlying225 hL;obtain ⟨u2, v2, h2⟩ := errOf hl2 he2 (g := 3) (t := 225) (by kernel_rfl) (by kernel_rfl) Tryz.underlying225 hL;exact fun C H hC => ⟨formatsInt C H W hC ht, parsesAny C H ((hasErr_of h1).more hC) ((hasErr_of h2).more hC)⟩
end Go.Proofs.YtgbhdfpobgefgaaGreatDoor
namespace Go.Pm
open Go.RowKit
theorem rep_textsM {W : World} {S : Nat → Prop} {cs : List Value} {l : List (List UInt8)} (h : Rep W S (.slice .str) cs l) : ∃ a c, cs = [.slice a l.length c] ∧ SliceOk a l.length c ∧ RdV (Base.of W) [] a (textCells l) ∧ ∀ x ∈ l, x.length ≤ 9223372036854775807 := by
 have hb : ∀ x ∈ l, x.length ≤ 9223372036854775807 := by
  obtain ⟨a, cap, h1, h2, h4⟩ := h;intro x hx;obtain ⟨i, hi, rfl⟩ := List.getElem_of_mem hx;obtain ⟨b, off, xs, e1, e2, e3, e4, e5⟩ := h4 i hi;exact e5.2
 obtain ⟨a, c, xss, h1, h2, h3, h4⟩ := rep_row h;rw [rep_texts h4] at h3;exact ⟨a, c, h1, h2, h3, hb⟩
end Go.Pm
namespace Go.Proofs.YtgbhdfpobgefgaaGreatDoor
open Go.RowKit Go.Pm
def laidAll : List (String × DataW Unit) := [("math/bits.deBruijn32tab", Rows.laid_math_bits_deBruijn32tab), ("math/bits.deBruijn64tab", Rows.laid_math_bits_deBruijn64tab), ("internal/strconv.uint64pow10", Rows.laid_internal_strconv_uint64pow10), ("strconv.ErrRange", Rows.laid_strconv_ErrRange), ("strconv.ErrSyntax", Rows.laid_strconv_ErrSyntax)]
abbrev dSyn : DataW Unit := .ptr (.agg [.lit (.string [105, 110, 118, 97, 108, 105, 100, 32, 115, 121, 110, 116, 97, 120])])
abbrev dRan : DataW Unit := .ptr (.agg [.lit (.string [118, 97, 108, 117, 101, 32, 111, 117, 116, 32, 111, 102, 32, 114, 97, 110, 103, 101])])
theorem numAll {W : World} (hL : laidMetH Tryz.prog laidAll W) : NumB (Base.of W) :=
 numB (l := laidAll) (n1 := "*errors.errorString") (d1 := dSyn) (n2 := "*errors.errorString") (d2 := dRan) (by kernel_rfl) (by kernel_rfl) (by kernel_rfl) (by kernel_rfl) (by kernel_rfl) hL
end Go.Proofs.YtgbhdfpobgefgaaGreatDoor
