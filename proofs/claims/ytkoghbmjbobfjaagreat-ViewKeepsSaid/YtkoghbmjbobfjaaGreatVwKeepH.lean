/- The reference's view against what a transaction has written: plain law. -/
import Derived.Test.YtkoghbmjbobfjaaGreatVwKeepG
import Derived.Sort.Walk0
import Derived.Test.YtkoghbmjbobfjaaGreatVwKeepF
import Derived.Test.YtkoghbmjbobfjaaGreatVwKeepB
import Derived.Test.YtkoghbmjbobfjaaGreatVwKeepC
import Derived.Test.YtkoghbmjbobfjaaGreatRows
set_option maxRecDepth 100000
namespace Go.Proofs.YtkoghbmjbobfjaaGreat
open Go.RowKit Go.Pm Go.Sort
structure RelVK (M : List (List UInt8 × Ver)) (K : List KeyR) : Prop where
 so : SortedT (K.map (·.name))
 of_ : ∀ x ∈ K, lookA M x.name = some ⟨0, false, x.exp, x.val⟩
 back : ∀ k y, lookA M k = some y → y.gone = false → ∃ x ∈ K, x.name = k
theorem RelVK.nil : RelVK [] [] := ⟨List.Pairwise.nil, fun x h => (by cases h), fun k y h => (by cases h)⟩
theorem sortedT_nodup {l : List (List UInt8)} (h : SortedT l) : l.Nodup := List.Pairwise.imp (fun hab e => lt_ne hab e) h
theorem alive_live (x : KeyR) (clk : Int) : aliveB ⟨0, false, x.exp, x.val⟩ clk = liveK clk x := by
 unfold aliveB liveK
 simp only [Bool.not_false, Bool.true_and, gt_iff_lt]
section
variable {M : List (List UInt8 × Ver)} {K : List KeyR} {clk : Int} {name : List UInt8}
theorem RelVK.nodup (h : RelVK M K) : (K.map (·.name)).Nodup := sortedT_nodup h.so
theorem getK_mem {x : KeyR} (h : getK K clk name = some x) : x ∈ K ∧ x.name = name ∧ liveK clk x = true := by
 unfold getK at h
 have h2 := List.find?_some h
 simp only [Bool.and_eq_true, decide_eq_true_eq] at h2
 exact ⟨List.mem_of_find?_eq_some h, h2.1, h2.2⟩
theorem RelVK.got (h : RelVK M K) {x : KeyR} (hg : getK K clk name = some x) : lookA M name = some ⟨0, false, x.exp, x.val⟩ ∧ aliveB ⟨0, false, x.exp, x.val⟩ clk = true := by
 obtain ⟨h1, rfl, h3⟩ := getK_mem hg
 exact ⟨h.of_ x h1, by rw [alive_live]; exact h3⟩
theorem RelVK.alive (h : RelVK M K) {y : Ver} (hl : lookA M name = some y) (ha : aliveB y clk = true) : ∃ x, getK K clk name = some x ∧ y = ⟨0, false, x.exp, x.val⟩ := by
 have hg : y.gone = false := by unfold aliveB at ha; cases hy : y.gone <;> simp [hy] at ha ⊢
 obtain ⟨x, hx, rfl⟩ := h.back name y hl hg
 have h2 := h.of_ x hx
 rw [hl] at h2
 cases h2
 obtain ⟨i, hi⟩ := List.mem_iff_getElem?.1 hx
 exact ⟨x, getK_at h.nodup hi (by rw [← alive_live]; exact ha), rfl⟩
theorem RelVK.dead (h : RelVK M K) (hg : getK K clk name = none) : DeadM M clk name := by
 intro y hy
 cases ha : aliveB y clk with
 | false => rfl
 | true =>
  obtain ⟨x, h2, -⟩ := h.alive hy ha
  rw [hg] at h2; cases h2
theorem RelVK.free (h : RelVK M K) (hd : DeadM M clk name) : getK K clk name = none := by
 cases hg : getK K clk name with
 | none => rfl
 | some x =>
  obtain ⟨h1, h2⟩ := h.got hg
  rw [hd _ h1] at h2; cases h2
theorem others_sorted (h : SortedT (K.map (·.name))) : SortedT ((others K name).map (·.name)) := by
 unfold SortedT others at *
 exact h.sublist (List.Sublist.map _ (List.filter_sublist))
theorem others_iff {x : KeyR} : x ∈ others K name ↔ x ∈ K ∧ x.name ≠ name := by
 unfold others; rw [List.mem_filter]; simp
theorem RelVK.del (h : RelVK M K) : RelVK (updA M name gver) (others K name) := by
 refine ⟨others_sorted h.so, fun x hx => ?_, fun k y hl hg => ?_⟩
 ·obtain ⟨h1, h2⟩ := others_iff.1 hx
  rw [look_upd, if_neg (fun e => h2 e.symm)]
  exact h.of_ x h1
 rw [look_upd] at hl
 split at hl
 ·cases hl; cases hg
 rename_i hne
 obtain ⟨x, hx, rfl⟩ := h.back k y hl hg
 exact ⟨x, others_iff.2 ⟨hx, fun e => hne e.symm⟩, rfl⟩
theorem RelVK.put (h : RelVK M K) {v : Val} {exp : Int} {K' : List KeyR} (hi : InsK (others K name) ⟨name, v, exp⟩ K') : RelVK (updA M name ⟨0, false, exp, v⟩) K' := by
 obtain ⟨j, hj, rfl, h1, h2⟩ := hi
 have hso := others_sorted (name := name) h.so
 have hmem : ∀ x, x ∈ (others K name).take j ++ (⟨name, v, exp⟩ : KeyR) :: (others K name).drop j ↔ x = ⟨name, v, exp⟩ ∨ x ∈ others K name := by
  intro x
  rw [List.mem_append, List.mem_cons]
  constructor
  ·rintro (hx | rfl | hx)
   ·exact .inr (List.mem_of_mem_take hx)
   ·exact .inl rfl
   exact .inr (List.mem_of_mem_drop hx)
  rintro (rfl | hx)
  ·exact .inr (.inl rfl)
  rw [← List.take_append_drop j (others K name), List.mem_append] at hx
  rcases hx with hx | hx
  ·exact .inl hx
  exact .inr (.inr hx)
 refine ⟨?_, fun x hx => ?_, fun k y hl hg => ?_⟩
 ·unfold SortedT at *
  rw [List.map_append, List.map_cons, List.map_take, List.map_drop]
  rw [List.pairwise_append, List.pairwise_cons]
  have hgt : ∀ k ∈ ((others K name).map (·.name)).drop j, Op.bytesLess name k = true := by
   intro k hk
   rw [← List.map_drop] at hk
   obtain ⟨x, hx, rfl⟩ := List.mem_map.1 hk
   have hne := (others_iff.1 (List.mem_of_mem_drop hx)).2
   have hnl : Op.bytesLess x.name name = false := by
    cases hd : (others K name).drop j with
    | nil => rw [hd] at hx; cases hx
    | cons y l =>
     have hy : (others K name)[j]? = some y := by rw [← List.head?_drop, hd]; rfl
     rw [hd] at hx
     rcases List.mem_cons.1 hx with rfl | hx
     ·exact h2 _ hy
     have hs2 : ((y :: l).map (·.name)).Pairwise (fun a b => Op.bytesLess a b = true) := by rw [← hd, List.map_drop]; exact hso.sublist (List.drop_sublist _ _)
     rw [List.map_cons, List.pairwise_cons] at hs2
     exact ge_trans (h2 _ hy) (hs2.1 _ (List.mem_map.2 ⟨x, hx, rfl⟩))
   cases hlt : Op.bytesLess name x.name with
   | true => rfl
   | false => exact absurd (lt_total _ _ hnl hlt) hne
  refine ⟨hso.sublist (List.take_sublist _ _), ⟨hgt, hso.sublist (List.drop_sublist _ _)⟩, fun a ha b hb => ?_⟩
  rw [← List.map_take] at ha
  obtain ⟨x, hx, rfl⟩ := List.mem_map.1 ha
  have hxn := h1 x hx
  rcases List.mem_cons.1 hb with rfl | hb
  ·exact hxn
  exact lt_trans _ _ _ hxn (hgt b hb)
 ·rw [look_upd]
  rcases (hmem x).1 hx with rfl | hx
  ·rw [if_pos rfl]
  obtain ⟨h3, h4⟩ := others_iff.1 hx
  rw [if_neg (fun e => h4 e.symm)]
  exact h.of_ x h3
 rw [look_upd] at hl
 split at hl
 ·rename_i e
  exact ⟨⟨name, v, exp⟩, (hmem _).2 (.inl rfl), e⟩
 rename_i hne
 obtain ⟨x, hx, rfl⟩ := h.back k y hl hg
 exact ⟨x, (hmem _).2 (.inr (others_iff.2 ⟨hx, fun e => hne e.symm⟩)), rfl⟩
theorem RelVK.names (h : RelVK M K) (hnd : (M.map (·.1)).Nodup) : namesT M clk = namesR K clk := by
 have hle : ∀ a b : List UInt8, leB a b = !Op.bytesLess b a := by
  intro a b
  rw [bytesLess_eq, leB, ← decide_not]
  exact decide_eq_decide.2 List.not_lt.symm
 refine sorted_ext ?_ ?_ fun k => ?_
 ·unfold namesT
  have hp : ((M.map (·.1)).mergeSort leB).Pairwise (fun a b => leB a b = true) := List.pairwise_mergeSort (fun a b c h1 h2 => by simp only [leB, decide_eq_true_eq] at *; exact List.le_trans h1 h2) (fun a b => by simp only [leB, Bool.or_eq_true, decide_eq_true_eq]; exact List.le_total a b) _
  have hn : ((M.map (·.1)).mergeSort leB).Nodup := ((List.mergeSort_perm _ _).nodup_iff).2 hnd
  refine List.Pairwise.filter _ ((hp.and hn).imp fun {a b} hab => ?_)
  obtain ⟨h1, h2⟩ := hab
  rw [hle] at h1
  cases h3 : Op.bytesLess a b with
  | true => rfl
  | false => exact absurd (lt_total _ _ h3 (by simpa using h1)) h2
 ·unfold namesR
  exact h.so.sublist (List.Sublist.map _ List.filter_sublist)
 unfold namesT namesR
 rw [List.mem_filter, List.mem_map]
 have hmk : k ∈ (M.map (·.1)).mergeSort leB ↔ lookA M k ≠ none := by
  simp only [List.mem_mergeSort, ne_eq, look_none, Classical.not_not]
 rw [hmk]
 constructor
 ·rintro ⟨h1, h2⟩
  cases hl : lookA M k with
  | none => exact absurd hl h1
  | some y =>
   unfold deadNow at h2
   rw [hl] at h2
   simp only [Bool.not_not] at h2
   obtain ⟨x, hx, -⟩ := h.alive hl h2
   obtain ⟨h3, h4, h5⟩ := getK_mem hx
   exact ⟨x, List.mem_filter.2 ⟨h3, h5⟩, h4⟩
 rintro ⟨x, hx, rfl⟩
 obtain ⟨h1, h2⟩ := List.mem_filter.1 hx
 have h3 := h.of_ x h1
 refine ⟨by rw [h3]; simp, ?_⟩
 unfold deadNow
 rw [h3]
 simp only [Bool.not_not]
 rw [alive_live]; exact h2
end
end Go.Proofs.YtkoghbmjbobfjaaGreat
/- Arguments of the store's laws: rows of rows of writes. -/
namespace Go.Pm
open Go.RowKit
def All2 {α β : Type} (R : α → β → Prop) : List α → List β → Prop
 | [], [] => True
 | a :: k, b :: l => R a b ∧ All2 R k l
 | _, _ => False
theorem rep_rowAux {W : World} {S : Nat → Prop} {t : Ty} {a : Option Addr} : ∀ (l : List t.den) (k : Nat), (∀ i (h : i < l.length), ∃ b off xs, a = some ⟨b, off, none⟩ ∧ S b ∧ xs.length = t.size ∧ (∀ j (h : j < xs.length), W.cell? ⟨b, off + (k + i) * t.size + j, none⟩ = some xs[j]) ∧ Rep W S t xs l[i]) →
  ∃ xss : List (List Value), All2 (fun xs d => xs.length = t.size ∧ Rep W S t xs d) xss l ∧ ∀ j (h : j < xss.flatten.length), ∃ b off, a = some ⟨b, off, none⟩ ∧ W.cell? ⟨b, off + k * t.size + j, none⟩ = some xss.flatten[j]
 | [], k, _ => ⟨[], trivial, fun j h => by simp at h⟩
 | d :: l, k, h => by
  obtain ⟨xss, h1, h2⟩ := rep_rowAux l (k + 1) (fun i hi => by
   obtain ⟨b, off, xs, e1, e2, e3, e4, e5⟩ := h (i + 1) (by simpa using hi)
   refine ⟨b, off, xs, e1, e2, e3, fun j hj => ?_, e5⟩
   rw [show k + 1 + i = k + (i + 1) by omega]
   exact e4 j hj)
  obtain ⟨b, off, xs, e1, e2, e3, e4, e5⟩ := h 0 (by simp)
  refine ⟨xs :: xss, ⟨⟨e3, e5⟩, h1⟩, fun j hj => ?_⟩
  rcases Nat.lt_or_ge j xs.length with hx | hx
  ·refine ⟨b, off, e1, ?_⟩
   have := e4 j hx
   rw [Nat.add_zero] at this
   rw [this]
   simp only [List.flatten_cons]
   rw [List.getElem_append_left hx]
  have hj' : j - xs.length < xss.flatten.length := by
   simp only [List.flatten_cons, List.length_append] at hj
   omega
  obtain ⟨b', off', f1, f2⟩ := h2 (j - xs.length) hj'
  refine ⟨b', off', f1, ?_⟩
  rw [show off' + k * t.size + j = off' + (k + 1) * t.size + (j - xs.length) by rw [Nat.succ_mul]; omega, f2]
  simp only [List.flatten_cons]
  rw [List.getElem_append_right hx]
theorem rep_row {W : World} {S : Nat → Prop} {t : Ty} {cs : List Value} {l : List t.den} (h : Rep W S (.slice t) cs l) :
  ∃ a cap xss, cs = [.slice a l.length cap] ∧ SliceOk a l.length cap ∧ RdV (Base.of W) [] a xss.flatten ∧ All2 (fun xs d => xs.length = t.size ∧ Rep W S t xs d) xss l := by
 obtain ⟨a, cap, h1, h2, h4⟩ := h
 obtain ⟨xss, h5, h6⟩ := rep_rowAux (t := t) l 0 (fun i hi => by
  obtain ⟨b, off, xs, e1, e2, e3, e4, e5⟩ := h4 i hi
  refine ⟨b, off, xs, e1, e2, e3, fun j hj => ?_, e5⟩
  rw [Nat.zero_add]
  exact e4 j hj)
 refine ⟨a, cap, xss, h1, h2, rdV_of W fun j hj => ?_, h5⟩
 obtain ⟨b, off, f1, f2⟩ := h6 j hj
 exact ⟨b, off, f1, by rw [← f2, Nat.zero_mul, Nat.add_zero]⟩
abbrev pairTy : Ty := .pair .str (.pair .str .unit)
abbrev memTy : Ty := .pair (.int .i64) (.pair .str .unit)
abbrev valTy : Ty := .pair (.int .i64) (.pair .str (.pair (.slice pairTy) (.pair (.slice .str) (.pair (.slice memTy) .unit))))
def valOf (d : valTy.den) : Val := ⟨d.1, d.2.1, d.2.2.1.map fun p => (p.1, p.2.1), d.2.2.2.1, d.2.2.2.2.1.map fun p => (p.1, p.2.1)⟩
theorem rep_pairs {W : World} {S : Nat → Prop} : ∀ {xss : List (List Value)} {l : List pairTy.den}, All2 (fun xs d => xs.length = pairTy.size ∧ Rep W S pairTy xs d) xss l → xss.flatten = pairCells (l.map fun p => (p.1, p.2.1))
 | [], [], _ => rfl
 | xs :: xss, d :: l, ⟨⟨h1, h2⟩, h⟩ => by
  have := rep_pairs h
  match xs, h1 with
  | [x0, x1], _ =>
   obtain ⟨⟨k1, _⟩, ⟨k2, _⟩, _⟩ := h2
   have k1' : [x0] = _ := k1
   have k2' : [x1] = _ := k2
   simp only [List.cons.injEq, and_true] at k1' k2'
   subst k1' k2'
   simp only [List.flatten_cons, this, List.map_cons, pairCells, List.flatMap_cons]
theorem rep_mems {W : World} {S : Nat → Prop} : ∀ {xss : List (List Value)} {l : List memTy.den}, All2 (fun xs d => xs.length = memTy.size ∧ Rep W S memTy xs d) xss l → xss.flatten = memCells (l.map fun p => (p.1, p.2.1))
 | [], [], _ => rfl
 | xs :: xss, d :: l, ⟨⟨h1, h2⟩, h⟩ => by
  have := rep_mems h
  match xs, h1 with
  | [x0, x1], _ =>
   obtain ⟨⟨k1, _⟩, ⟨k2, _⟩, _⟩ := h2
   have k1' : [x0] = _ := k1
   have k2' : [x1] = _ := k2
   simp only [List.cons.injEq, and_true] at k1' k2'
   subst k1' k2'
   simp only [List.flatten_cons, this, List.map_cons, memCells, List.flatMap_cons]
   rfl
theorem rep_texts {W : World} {S : Nat → Prop} : ∀ {xss : List (List Value)} {l : List (List UInt8)}, All2 (fun xs (d : Ty.str.den) => xs.length = Ty.str.size ∧ Rep W S .str xs d) xss l → xss.flatten = textCells l
 | [], [], _ => rfl
 | xs :: xss, d :: l, ⟨⟨h1, h2⟩, h⟩ => by
  have := rep_texts h
  match xs, h1 with
  | [x0], _ =>
   obtain ⟨k1, _⟩ := h2
   have k1' : [x0] = _ := k1
   simp only [List.cons.injEq, and_true] at k1'
   subst k1'
   simp only [List.flatten_cons, this, textCells, List.map_cons]
   rfl
theorem rep_val {W : World} {S : Nat → Prop} {k0 k1 k2 k3 k4 : Value} {d : valTy.den} (h : Rep W S valTy [k0, k1, k2, k3, k4] d) : k0 = .int .i64 (valOf d).kind ∧ k1 = strV (valOf d).text ∧ ValRd (Base.of W) (valOf d) k2 k3 k4 := by
 obtain ⟨⟨e0, _⟩, ⟨e1, _⟩, e2, e3, e4, _⟩ := h
 have e0' : [k0] = _ := e0
 have e1' : [k1] = _ := e1
 simp only [List.cons.injEq, and_true] at e0' e1'
 obtain ⟨a2, c2, x2, f2, g2, i2, j2⟩ := rep_row e2
 obtain ⟨a3, c3, x3, f3, g3, i3, j3⟩ := rep_row e3
 obtain ⟨a4, c4, x4, f4, g4, i4, j4⟩ := rep_row e4
 have f2' : [k2] = _ := f2
 have f3' : [k3] = _ := f3
 have f4' : [k4] = _ := f4
 simp only [List.cons.injEq, and_true] at f2' f3' f4'
 rw [rep_pairs j2] at i2
 rw [rep_texts j3] at i3
 rw [rep_mems j4] at i4
 refine ⟨e0', e1', ⟨a2, c2, ?_, ?_, i2⟩, ⟨a3, c3, f3', g3, i3⟩, ⟨a4, c4, ?_, ?_, i4⟩⟩
 ·rw [f2']; simp [valOf]
 ·simpa [valOf] using g2
 ·rw [f4']; simp [valOf]
 simpa [valOf] using g4
end Go.Pm
/- Arguments of ViewKeeps: rows of acts. -/
namespace Go.Pm
open Go.RowKit
abbrev act20Ty : Ty := .pair .str (.pair valTy (.pair (.int .i64) (.pair (.int .i64) .unit)))
def ActsRd20 (B : Base) (a : Option Addr) (n : Nat) : Prop := ∀ i, i < n → ∃ (b off : Nat) (key : List UInt8) (x : Val) (p t z : Value) (ex kd : Int), a = some ⟨b, off, none⟩ ∧
 Reads B [] b (off + i * 8) [strV key, .int .i64 x.kind, strV x.text, p, t, z, .int .i64 ex, .int .i64 kd] ∧ ValRd B x p t z ∧ -9223372036854775808 ≤ ex ∧ ex ≤ 9223372036854775807
theorem rep_acts20 {W : World} {cs : List Value} {l : List act20Ty.den} (h : Rep W (· < W.heap.size) (.slice act20Ty) cs l) :
  ∃ (a : Option Addr) (cap n : Nat), cs = [.slice a n cap] ∧ ActsRd20 (Base.of W) a n := by
 obtain ⟨a, cap, h1, h2, h4⟩ := h
 refine ⟨a, cap, l.length, h1, fun i hi => ?_⟩
 obtain ⟨b, off, xs, e1, e2, e3, e4, e5⟩ := h4 i hi
 match xs, e3 with
 | [x0, y4, y5, y6, y7, y8, x1, x2], _ =>
  obtain ⟨⟨k1, _⟩, v1, ⟨m1, hm1⟩, ⟨c1, _⟩, _⟩ := e5
  have k1' : [x0] = _ := k1
  have m1' : [x1] = _ := m1
  have c1' : [x2] = _ := c1
  simp only [List.cons.injEq, and_true] at k1' m1' c1'
  obtain ⟨q1, q2, q3⟩ := rep_val (k0 := y4) (k1 := y5) (k2 := y6) (k3 := y7) (k4 := y8) v1
  have hb := bounds_i64 hm1
  subst k1' m1' c1' q1 q2
  refine ⟨b, off, l[i].1, valOf l[i].2.1, y6, y7, y8, l[i].2.2.1, l[i].2.2.2.1, e1, ?_, q3, hb.1, hb.2⟩
  intro C K w hC hR hv j v hj
  obtain ⟨hj1, hj2⟩ := List.getElem?_eq_some_iff.1 hj
  simp only [List.length_cons, List.length_nil] at hj1
  have := e4 j hj1
  rw [← hj2]
  refine Eq.trans ?_ (this.trans ?_)
  ·exact World.cell?_of_block (by rw [Array.getElem?_eq_getElem e2]; exact hv.base.blk b _ (hC.blk b _ (Array.getElem?_eq_getElem e2)))
  match j, hj1 with
  | 0, _ | 1, _ | 2, _ | 3, _ | 4, _ | 5, _ | 6, _ | 7, _ => rfl
end Go.Pm
/- The reference's Right of sets, hashes, sorted sets. -/
namespace Go.Proofs.YtkoghbmjbobfjaaGreat
open Go.RowKit Go.Pm
theorem s30callable43 : Callable Tryz.prog 43 := ⟨_, Tryz.func43, by kernel_rfl, by kernel_rfl⟩
set_option maxHeartbeats 4000000 in
theorem refSetRight (B : Base) (H : List Res) (w : World) (ad : Option Addr) (c : Nat) (l : List (List UInt8)) (hr : RdV B [] ad (textCells l)) (hm : l.length ≤ 1000000) (hv : Inv B H w) :
  Calls Tryz.prog 36 #[.slice ad l.length c] w fun e w' => ∃ b, e = .returned (.bool b) ∧ (b = true ↔ SetOk l) ∧ Inv B H w' := by
 refine cW Tryz.func36 rfl Tryz.ntmps36 ?_
 simp only [al]
 refine sK fun _ k1 => rL (xA (.bool false) rfl ?_)
 simp only [zP, po]
 refine wK k1 (sK fun _ k2 => ?_)
 refine sK fun _ k3 => rL (xA (.int .i64 0) rfl ?_)
 simp only [zP, po]
 refine wK k3 (bB ?_)
 gi_loopw [3] (fun x3 wr => ∃ (i : Nat), x3 = .int .i64 (i : Int) ∧ i ≤ l.length ∧ (∀ k, k < i → SetAt l k) ∧ Inv B H wr) (fun x3 _ => l.length - (intOf x3).toNat)
 case atStart => exact ⟨0, rfl, Nat.zero_le _, fun k h => by omega, hv⟩
 case round =>
  obtain ⟨i, rfl, hi, hall, hv⟩ := hrel
  refine sK fun _ k5 => sK fun _ k6 => rL (xM (.int .i64 (i : Int)) rfl ?_)
  refine xM (.slice ad l.length c) rfl (xG (.int .i64 (l.length : Int)) rfl (ex_len0 Tryz.underlying29 rfl rfl) ?_)
  simp only [zP, po]
  by_cases hb7 : (i : Int) < (l.length : Int)
  ·refine xG (.bool true) rfl (ex_lss rfl rfl rfl (decide_eq_true hb7)) ?_
   simp only [zP, po]
   refine wK k6 (cT rfl ?_)
   refine kS (tK k5 ?_)
   refine sK fun _ k8 => bB (sK fun _ k9 => ?_)
   obtain ⟨x, hx⟩ : ∃ x, l[i]? = some x := ⟨_, List.getElem?_eq_getElem (show i < l.length by omega)⟩
   obtain ⟨bb, bo, had, hrdx⟩ := text_reads hr hx
   subst had
   refine rW mixed [19] [0,1,2,3,4,5,6,7,8,9,10,11,12,13,14,15,16,17,18,19,20,21,22] 36 rfl (by kernel_rfl) hv ?_
   simp only [qm, opAt]
   refine dM (.slice (some ⟨bb, bo, none⟩) l.length c) rfl (dM (.int .i64 (i : Int)) rfl ?_)
   refine dG (.pointer (some ⟨bb, bo + i, none⟩)) rfl (ex_index rfl rfl rfl (run_idx1 (k := i) Tryz.underlying29 s9es29 (by omega))) ?_
   simp only [zP, po]
   refine dL _ rfl (fun hv => ex_load rfl rfl (run_load1 s9na9 (hrdx _ _ _ (Base.Le.refl _) no_res hv 0 _ rfl))) (dG (.int .i64 (x.length : Int)) rfl (ex_lenStr Tryz.underlying9 rfl rfl) ?_)
   by_cases hb10 : (x.length : Int) > 4096
   ·refine dG (.bool true) rfl (ex_gtr rfl rfl rfl (decide_eq_true hb10)) ?_
    simp only [zP, po]
    refine dM (.bool true) rfl (dP rfl ?_)
    refine dP rfl ?_
    simp only [zP, po]
    refine dP rfl (dP rfl ?_)
    refine dP rfl ?_
    simp only [zP, po]
    refine dP rfl (dP rfl ?_)
    refine dP rfl ?_
    simp only [zP, po]
    refine dP rfl (dP rfl ?_)
    refine dP rfl ?_
    simp only [zP, po]
    refine dP rfl (dP rfl ?_)
    refine dP rfl ?_
    simp only [zP, po]
    refine dP rfl (dK true (.bool true) rfl ?_)
    refine dE fun w11 hv => ?_
    simp only [zP, po]
    refine tK k9 (cT rfl ?_)
    refine sK fun _ k12 => rL (xA (.bool false) rfl ?_)
    simp only [zP, po]
    refine wK k12 (rR ?_)
    refine bE (tR ?_)
    refine tR (bE ?_)
    refine tR (bR rfl rfl ?_)
    exact ⟨false, rfl, ⟨fun h => (by cases h), fun h => by have := (h.2 i x hx).1; omega⟩, hv⟩
   refine dG (.bool false) rfl (ex_gtr rfl rfl rfl (decide_eq_false hb10)) ?_
   simp only [zP, po]
   refine dM (.bool false) rfl (dM (.int .i64 (i : Int)) rfl ?_)
   by_cases hb13 : (i : Int) > 0
   ·obtain ⟨j, hj⟩ : ∃ j : Nat, i = j + 1 := ⟨i - 1, by omega⟩
    obtain ⟨y, hy⟩ : ∃ x, l[j]? = some x := ⟨_, List.getElem?_eq_getElem (show j < l.length by omega)⟩
    obtain ⟨b9, o9, had9, hrdy⟩ := text_reads hr hy
    cases had9
    have hyl := (hall j (by omega) y hy).1
    skip
    refine dG (.bool true) rfl (ex_gtr rfl rfl rfl (decide_eq_true hb13)) ?_
    simp only [zP, po]
    refine dM (.bool true) rfl (dM (.slice (some ⟨bb, bo, none⟩) l.length c) rfl ?_)
    refine dM (.int .i64 (i : Int)) rfl ?_
    simp only [zP, po]
    refine dG (.int .i64 (j : Int)) rfl (ex_sub rfl rfl rfl (by rw [i64_in (by omega)]; omega)) (dG (.pointer (some ⟨bb, bo + j, none⟩)) rfl (ex_index rfl rfl rfl (run_idx1 (k := j) Tryz.underlying29 s9es29 (by omega))) ?_)
    refine dL _ rfl (fun hv => ex_load rfl rfl (run_load1 s9na9 (hrdy _ _ _ (Base.Le.refl _) no_res hv 0 _ rfl))) ?_
    simp only [zP, po]
    refine dM (.slice (some ⟨bb, bo, none⟩) l.length c) rfl (dM (.int .i64 (i : Int)) rfl ?_)
    refine dG (.pointer (some ⟨bb, bo + i, none⟩)) rfl (ex_index rfl rfl rfl (run_idx1 (k := i) Tryz.underlying29 s9es29 (by omega))) ?_
    simp only [zP, po]
    refine dL _ rfl (fun hv => ex_load rfl rfl (run_load1 s9na9 (hrdx _ _ _ (Base.Le.refl _) no_res hv 0 _ rfl))) (dS rfl fun w14 hv => ?_)
    by_cases hb15 : Op.bytesLess y x = true
    ·refine mC s30callable43 rfl ((calls_bool (refLess B _ _ y x (by omega) hv) hb15).mono ?_) rfl
     rintro e w16 ⟨rfl, hv⟩
     refine ⟨_, rfl, dW hv ?_⟩
     refine dG (.bool false) rfl (ex_not rfl rfl rfl) ?_
     simp only [zP, po]
     refine dK true (.bool false) rfl (dK false (.bool false) rfl ?_)
     refine dE fun w17 hv => ?_
     simp only [zP, po]
     refine tK k9 (cF rfl ?_)
     refine kS (bN ?_)
     refine tK k8 (rL ?_)
     refine xM (.int .i64 (i : Int)) rfl (xG (.int .i64 ((i + 1 : Nat) : Int)) rfl (ex_add rfl rfl rfl (by rw [i64_in (by omega)]; omega)) ?_)
     refine xA (.int .i64 ((i + 1 : Nat) : Int)) rfl (wL ?_)
     simp only [zP, po]
     refine then_normal ?_
     go_roundw
     case rel => exact ⟨i + 1, rfl, by omega, fun k hk => (by
        rcases Nat.lt_or_ge k i with h | h
        ·exact hall k h
        obtain rfl : k = i := by omega
        intro x' hx'
        rw [hx] at hx'; cases hx'
        refine ⟨by omega, fun j' y' hj' hy' => ?_⟩
        rw [show j' = j by omega, hy] at hy'; cases hy'; exact hb15), hv⟩
     case measure => show l.length - (((i + 1 : Nat) : Int)).toNat < l.length - ((i : Int)).toNat; omega
    refine mC s30callable43 rfl ((calls_bool (refLess B _ _ y x (by omega) hv) (by simpa using hb15)).mono ?_) rfl
    rintro e w18 ⟨rfl, hv⟩
    refine ⟨_, rfl, dW hv ?_⟩
    refine dG (.bool true) rfl (ex_not rfl rfl rfl) ?_
    simp only [zP, po]
    refine dK true (.bool true) rfl (dK false (.bool true) rfl ?_)
    refine dE fun w19 hv => ?_
    simp only [zP, po]
    refine tK k9 (cT rfl ?_)
    refine sK fun _ k20 => rL (xA (.bool false) rfl ?_)
    simp only [zP, po]
    refine wK k20 (rR ?_)
    refine bE (tR ?_)
    refine tR (bE ?_)
    refine tR (bR rfl rfl ?_)
    exact ⟨false, rfl, ⟨fun h => (by cases h), fun h => absurd ((h.2 i x hx).2 j y (by omega) hy) hb15⟩, hv⟩
   refine dG (.bool false) rfl (ex_gtr rfl rfl rfl (decide_eq_false hb13)) ?_
   simp only [zP, po]
   refine dM (.bool false) rfl (dP rfl ?_)
   refine dP rfl ?_
   simp only [zP, po]
   refine dP rfl (dP rfl ?_)
   refine dP rfl ?_
   simp only [zP, po]
   refine dP rfl (dP rfl ?_)
   refine dP rfl ?_
   simp only [zP, po]
   refine dP rfl (dP rfl ?_)
   refine dP rfl ?_
   simp only [zP, po]
   refine dK false (.bool false) rfl (dK false (.bool false) rfl ?_)
   refine dE fun w21 hv => ?_
   simp only [zP, po]
   refine tK k9 (cF rfl ?_)
   refine kS (bN ?_)
   refine tK k8 (rL ?_)
   refine xM (.int .i64 (i : Int)) rfl (xG (.int .i64 ((i + 1 : Nat) : Int)) rfl (ex_add rfl rfl rfl (by rw [i64_in (by omega)]; omega)) ?_)
   refine xA (.int .i64 ((i + 1 : Nat) : Int)) rfl (wL ?_)
   simp only [zP, po]
   refine then_normal ?_
   go_roundw
   case rel => exact ⟨i + 1, rfl, by omega, fun k hk => (by
      rcases Nat.lt_or_ge k i with h | h
      ·exact hall k h
      obtain rfl : k = i := by omega
      intro x' hx'
      rw [hx] at hx'; cases hx'
      refine ⟨by omega, fun j' y' hj' hy' => ?_⟩
      omega), hv⟩
   case measure => show l.length - (((i + 1 : Nat) : Int)).toNat < l.length - ((i : Int)).toNat; omega
  refine xG (.bool false) rfl (ex_lss rfl rfl rfl (decide_eq_false hb7)) ?_
  simp only [zP, po]
  refine wK k6 (cF rfl ?_)
  refine xE (tX ?_)
  refine tX (bH ?_)
  refine tK k2 (sK fun _ k22 => ?_)
  refine rL (xM (.slice ad l.length c) rfl ?_)
  refine xG (.int .i64 (l.length : Int)) rfl (ex_len0 Tryz.underlying29 rfl rfl) (xG (.bool (decide ((l.length : Int) ≤ 512))) rfl (ex_leq rfl rfl rfl rfl) ?_)
  simp only [zP, po]
  refine xA (.bool (decide ((l.length : Int) ≤ 512))) rfl ?_
  simp only [zP, po]
  refine wK k22 (rR ?_)
  refine bR rfl rfl ?_
  obtain rfl : i = l.length := by omega
  exact ⟨_, rfl, ⟨fun h9 => ⟨by first | omega | (have h8 : (l.length : Int) ≤ 512 := (by simpa using h9); omega), fun k x hx => hall k (List.getElem?_eq_some_iff.1 hx).1 x hx⟩, fun h9 => by have h8 := h9.1; first | rfl | (rw [decide_eq_true_iff]; omega)⟩, hv⟩
set_option maxHeartbeats 4000000 in
theorem refHashRight (B : Base) (H : List Res) (w : World) (ad : Option Addr) (c : Nat) (l : List (List UInt8 × List UInt8)) (hr : RdV B [] ad (pairCells l)) (hm : l.length ≤ 1000000) (hv : Inv B H w) :
  Calls Tryz.prog 35 #[.slice ad l.length c] w fun e w' => ∃ b, e = .returned (.bool b) ∧ (b = true ↔ HashOk l) ∧ Inv B H w' := by
 refine cW Tryz.func35 rfl Tryz.ntmps35 ?_
 simp only [al]
 refine sK fun _ k1 => rL (xA (.bool false) rfl ?_)
 simp only [zP, po]
 refine wK k1 (sK fun _ k2 => ?_)
 refine sK fun _ k3 => rL (xM (.slice ad l.length c) rfl ?_)
 refine xG (.int .i64 (l.length : Int)) rfl (ex_len0 Tryz.underlying32 rfl rfl) ?_
 by_cases hb4 : (l.length : Int) > 512
 ·refine xG (.bool true) rfl (ex_gtr rfl rfl rfl (decide_eq_true hb4)) ?_
  simp only [zP, po]
  refine wK k3 (cT rfl ?_)
  refine sK fun _ k5 => rL (xA (.bool false) rfl ?_)
  simp only [zP, po]
  refine wK k5 (rR ?_)
  refine tR (bR rfl rfl ?_)
  exact ⟨false, rfl, ⟨fun h => (by cases h), fun h => by have := h.1; omega⟩, hv⟩
 refine xG (.bool false) rfl (ex_gtr rfl rfl rfl (decide_eq_false hb4)) ?_
 simp only [zP, po]
 refine wK k3 (cF rfl ?_)
 refine kS (tK k2 ?_)
 refine sK fun _ k6 => sK fun _ k7 => rL (xA (.int .i64 0) rfl ?_)
 simp only [zP, po]
 refine wK k7 (bB ?_)
 gi_loopw [3] (fun x3 wr => ∃ (i : Nat), x3 = .int .i64 (i : Int) ∧ i ≤ l.length ∧ (∀ k, k < i → HashAt l k) ∧ Inv B H wr) (fun x3 _ => l.length - (intOf x3).toNat)
 case atStart => exact ⟨0, rfl, Nat.zero_le _, fun k h => by omega, hv⟩
 case round =>
  obtain ⟨i, rfl, hi, hall, hv⟩ := hrel
  refine sK fun _ k9 => sK fun _ k10 => rL (xM (.int .i64 (i : Int)) rfl ?_)
  refine xM (.slice ad l.length c) rfl (xG (.int .i64 (l.length : Int)) rfl (ex_len0 Tryz.underlying32 rfl rfl) ?_)
  simp only [zP, po]
  by_cases hb11 : (i : Int) < (l.length : Int)
  ·refine xG (.bool true) rfl (ex_lss rfl rfl rfl (decide_eq_true hb11)) ?_
   simp only [zP, po]
   refine wK k10 (cT rfl ?_)
   refine kS (tK k9 ?_)
   refine sK fun _ k12 => bB (sK fun _ k13 => ?_)
   obtain ⟨x, hx⟩ : ∃ x, l[i]? = some x := ⟨_, List.getElem?_eq_getElem (show i < l.length by omega)⟩
   obtain ⟨bb, bo, had, hrdx⟩ := pair_reads hr hx
   subst had
   refine rW mixed [31] [0,1,2,3,4,5,6,7,8,9,10,11,12,13,14,15,16,17,18,19,20,21,22,23,24,25,26,27,28,29,30,31,32,33,34] 48 rfl (by kernel_rfl) hv ?_
   simp only [qm, opAt]
   refine dM (.slice (some ⟨bb, bo, none⟩) l.length c) rfl (dM (.int .i64 (i : Int)) rfl ?_)
   refine dG (.pointer (some ⟨bb, bo + i * 2, none⟩)) rfl (ex_index rfl rfl rfl (run_idx (k := i) Tryz.underlying32 s10es32 (by omega))) ?_
   simp only [zP, po]
   refine dG (.pointer (some ⟨bb, bo + i * 2, none⟩)) rfl (ex_field rfl rfl (s10fa97_0 _ _ _)) (dL _ rfl (fun hv => ex_load rfl rfl (run_load1 s9na9 (hrdx _ _ _ (Base.Le.refl _) no_res hv 0 _ rfl))) ?_)
   refine dG (.int .i64 (x.1.length : Int)) rfl (ex_lenStr Tryz.underlying9 rfl rfl) ?_
   simp only [zP, po]
   by_cases hb14 : (x.1.length : Int) > 4096
   ·refine dG (.bool true) rfl (ex_gtr rfl rfl rfl (decide_eq_true hb14)) (dM (.bool true) rfl ?_)
    refine dP rfl ?_
    simp only [zP, po]
    refine dP rfl (dP rfl ?_)
    refine dP rfl ?_
    simp only [zP, po]
    refine dP rfl (dP rfl ?_)
    refine dP rfl ?_
    simp only [zP, po]
    refine dK true (.bool true) rfl (dM (.bool true) rfl ?_)
    refine dP rfl ?_
    simp only [zP, po]
    refine dP rfl (dP rfl ?_)
    refine dP rfl ?_
    simp only [zP, po]
    refine dP rfl (dP rfl ?_)
    refine dP rfl ?_
    simp only [zP, po]
    refine dP rfl (dP rfl ?_)
    refine dP rfl ?_
    simp only [zP, po]
    refine dP rfl (dP rfl ?_)
    refine dP rfl ?_
    simp only [zP, po]
    refine dP rfl (dP rfl ?_)
    refine dP rfl ?_
    simp only [zP, po]
    refine dP rfl (dK true (.bool true) rfl ?_)
    refine dE fun w15 hv => ?_
    simp only [zP, po]
    refine tK k13 (cT rfl ?_)
    refine sK fun _ k16 => rL (xA (.bool false) rfl ?_)
    simp only [zP, po]
    refine wK k16 (rR ?_)
    refine bE (tR ?_)
    refine tR (bE ?_)
    refine tR (bR rfl rfl ?_)
    exact ⟨false, rfl, ⟨fun h => (by cases h), fun h => by have := (h.2 i x hx).1; omega⟩, hv⟩
   refine dG (.bool false) rfl (ex_gtr rfl rfl rfl (decide_eq_false hb14)) (dM (.bool false) rfl ?_)
   refine dM (.slice (some ⟨bb, bo, none⟩) l.length c) rfl ?_
   simp only [zP, po]
   refine dM (.int .i64 (i : Int)) rfl (dG (.pointer (some ⟨bb, bo + i * 2, none⟩)) rfl (ex_index rfl rfl rfl (run_idx (k := i) Tryz.underlying32 s10es32 (by omega))) ?_)
   refine dG (.pointer (some ⟨bb, bo + i * 2 + 1, none⟩)) rfl (ex_field rfl rfl (s10fa97_1 _ _ _)) ?_
   simp only [zP, po]
   refine dL _ rfl (fun hv => ex_load rfl rfl (run_load1 s9na9 (hrdx _ _ _ (Base.Le.refl _) no_res hv 1 _ rfl))) (dG (.int .i64 (x.2.length : Int)) rfl (ex_lenStr Tryz.underlying9 rfl rfl) ?_)
   by_cases hb17 : (x.2.length : Int) > 4096
   ·refine dG (.bool true) rfl (ex_gtr rfl rfl rfl (decide_eq_true hb17)) ?_
    simp only [zP, po]
    refine dK false (.bool true) rfl (dM (.bool true) rfl ?_)
    refine dP rfl ?_
    simp only [zP, po]
    refine dP rfl (dP rfl ?_)
    refine dP rfl ?_
    simp only [zP, po]
    refine dP rfl (dP rfl ?_)
    refine dP rfl ?_
    simp only [zP, po]
    refine dP rfl (dP rfl ?_)
    refine dP rfl ?_
    simp only [zP, po]
    refine dP rfl (dP rfl ?_)
    refine dP rfl ?_
    simp only [zP, po]
    refine dP rfl (dP rfl ?_)
    refine dP rfl ?_
    simp only [zP, po]
    refine dP rfl (dK true (.bool true) rfl ?_)
    refine dE fun w18 hv => ?_
    simp only [zP, po]
    refine tK k13 (cT rfl ?_)
    refine sK fun _ k19 => rL (xA (.bool false) rfl ?_)
    simp only [zP, po]
    refine wK k19 (rR ?_)
    refine bE (tR ?_)
    refine tR (bE ?_)
    refine tR (bR rfl rfl ?_)
    exact ⟨false, rfl, ⟨fun h => (by cases h), fun h => by have := (h.2 i x hx).1; omega⟩, hv⟩
   refine dG (.bool false) rfl (ex_gtr rfl rfl rfl (decide_eq_false hb17)) ?_
   simp only [zP, po]
   refine dK false (.bool false) rfl (dM (.bool false) rfl ?_)
   refine dM (.int .i64 (i : Int)) rfl ?_
   simp only [zP, po]
   by_cases hb20 : (i : Int) > 0
   ·obtain ⟨j, hj⟩ : ∃ j : Nat, i = j + 1 := ⟨i - 1, by omega⟩
    obtain ⟨y, hy⟩ : ∃ x, l[j]? = some x := ⟨_, List.getElem?_eq_getElem (show j < l.length by omega)⟩
    obtain ⟨b9, o9, had9, hrdy⟩ := pair_reads hr hy
    cases had9
    have hyl := (hall j (by omega) y hy).1
    skip
    refine dG (.bool true) rfl (ex_gtr rfl rfl rfl (decide_eq_true hb20)) (dM (.bool true) rfl ?_)
    refine dM (.slice (some ⟨bb, bo, none⟩) l.length c) rfl ?_
    simp only [zP, po]
    refine dM (.int .i64 (i : Int)) rfl (dG (.int .i64 (j : Int)) rfl (ex_sub rfl rfl rfl (by rw [i64_in (by omega)]; omega)) ?_)
    refine dG (.pointer (some ⟨bb, bo + j * 2, none⟩)) rfl (ex_index rfl rfl rfl (run_idx (k := j) Tryz.underlying32 s10es32 (by omega))) ?_
    simp only [zP, po]
    refine dG (.pointer (some ⟨bb, bo + j * 2, none⟩)) rfl (ex_field rfl rfl (s10fa97_0 _ _ _)) (dL _ rfl (fun hv => ex_load rfl rfl (run_load1 s9na9 (hrdy _ _ _ (Base.Le.refl _) no_res hv 0 _ rfl))) ?_)
    refine dM (.slice (some ⟨bb, bo, none⟩) l.length c) rfl ?_
    simp only [zP, po]
    refine dM (.int .i64 (i : Int)) rfl (dG (.pointer (some ⟨bb, bo + i * 2, none⟩)) rfl (ex_index rfl rfl rfl (run_idx (k := i) Tryz.underlying32 s10es32 (by omega))) ?_)
    refine dG (.pointer (some ⟨bb, bo + i * 2, none⟩)) rfl (ex_field rfl rfl (s10fa97_0 _ _ _)) ?_
    simp only [zP, po]
    refine dL _ rfl (fun hv => ex_load rfl rfl (run_load1 s9na9 (hrdx _ _ _ (Base.Le.refl _) no_res hv 0 _ rfl))) (dS rfl fun w21 hv => ?_)
    by_cases hb22 : Op.bytesLess y.1 x.1 = true
    ·refine mC s30callable43 rfl ((calls_bool (refLess B _ _ y.1 x.1 (by omega) hv) hb22).mono ?_) rfl
     rintro e w23 ⟨rfl, hv⟩
     refine ⟨_, rfl, dW hv ?_⟩
     refine dG (.bool false) rfl (ex_not rfl rfl rfl) ?_
     simp only [zP, po]
     refine dK true (.bool false) rfl (dK false (.bool false) rfl ?_)
     refine dE fun w24 hv => ?_
     simp only [zP, po]
     refine tK k13 (cF rfl ?_)
     refine kS (bN ?_)
     refine tK k12 (rL ?_)
     refine xM (.int .i64 (i : Int)) rfl (xG (.int .i64 ((i + 1 : Nat) : Int)) rfl (ex_add rfl rfl rfl (by rw [i64_in (by omega)]; omega)) ?_)
     refine xA (.int .i64 ((i + 1 : Nat) : Int)) rfl (wL ?_)
     simp only [zP, po]
     refine then_normal ?_
     go_roundw
     case rel => exact ⟨i + 1, rfl, by omega, fun k hk => (by
        rcases Nat.lt_or_ge k i with h | h
        ·exact hall k h
        obtain rfl : k = i := by omega
        intro x' hx'
        rw [hx] at hx'; cases hx'
        refine ⟨by omega, fun j' y' hj' hy' => ?_⟩
        rw [show j' = j by omega, hy] at hy'; cases hy'; exact hb22), hv⟩
     case measure => show l.length - (((i + 1 : Nat) : Int)).toNat < l.length - ((i : Int)).toNat; omega
    refine mC s30callable43 rfl ((calls_bool (refLess B _ _ y.1 x.1 (by omega) hv) (by simpa using hb22)).mono ?_) rfl
    rintro e w25 ⟨rfl, hv⟩
    refine ⟨_, rfl, dW hv ?_⟩
    refine dG (.bool true) rfl (ex_not rfl rfl rfl) ?_
    simp only [zP, po]
    refine dK true (.bool true) rfl (dK false (.bool true) rfl ?_)
    refine dE fun w26 hv => ?_
    simp only [zP, po]
    refine tK k13 (cT rfl ?_)
    refine sK fun _ k27 => rL (xA (.bool false) rfl ?_)
    simp only [zP, po]
    refine wK k27 (rR ?_)
    refine bE (tR ?_)
    refine tR (bE ?_)
    refine tR (bR rfl rfl ?_)
    exact ⟨false, rfl, ⟨fun h => (by cases h), fun h => absurd ((h.2 i x hx).2 j y (by omega) hy) hb22⟩, hv⟩
   refine dG (.bool false) rfl (ex_gtr rfl rfl rfl (decide_eq_false hb20)) (dM (.bool false) rfl ?_)
   refine dP rfl ?_
   simp only [zP, po]
   refine dP rfl (dP rfl ?_)
   refine dP rfl ?_
   simp only [zP, po]
   refine dP rfl (dP rfl ?_)
   refine dP rfl ?_
   simp only [zP, po]
   refine dP rfl (dP rfl ?_)
   refine dP rfl ?_
   simp only [zP, po]
   refine dP rfl (dP rfl ?_)
   refine dP rfl ?_
   simp only [zP, po]
   refine dK false (.bool false) rfl (dK false (.bool false) rfl ?_)
   refine dE fun w28 hv => ?_
   simp only [zP, po]
   refine tK k13 (cF rfl ?_)
   refine kS (bN ?_)
   refine tK k12 (rL ?_)
   refine xM (.int .i64 (i : Int)) rfl (xG (.int .i64 ((i + 1 : Nat) : Int)) rfl (ex_add rfl rfl rfl (by rw [i64_in (by omega)]; omega)) ?_)
   refine xA (.int .i64 ((i + 1 : Nat) : Int)) rfl (wL ?_)
   simp only [zP, po]
   refine then_normal ?_
   go_roundw
   case rel => exact ⟨i + 1, rfl, by omega, fun k hk => (by
      rcases Nat.lt_or_ge k i with h | h
      ·exact hall k h
      obtain rfl : k = i := by omega
      intro x' hx'
      rw [hx] at hx'; cases hx'
      refine ⟨by omega, fun j' y' hj' hy' => ?_⟩
      omega), hv⟩
   case measure => show l.length - (((i + 1 : Nat) : Int)).toNat < l.length - ((i : Int)).toNat; omega
  refine xG (.bool false) rfl (ex_lss rfl rfl rfl (decide_eq_false hb11)) ?_
  simp only [zP, po]
  refine wK k10 (cF rfl ?_)
  refine xE (tX ?_)
  refine tX (bH ?_)
  refine tK k6 (sK fun _ k29 => ?_)
  refine rL (xA (.bool true) rfl ?_)
  simp only [zP, po]
  refine wK k29 (rR ?_)
  refine bR rfl rfl ?_
  obtain rfl : i = l.length := by omega
  exact ⟨_, rfl, ⟨fun h9 => ⟨by first | omega | (have h8 : (l.length : Int) ≤ 512 := (by simpa using h9); omega), fun k x hx => hall k (List.getElem?_eq_some_iff.1 hx).1 x hx⟩, fun h9 => by have h8 := h9.1; first | rfl | (rw [decide_eq_true_iff]; omega)⟩, hv⟩
def beforeB (a b : Int × List UInt8) : Bool := decide (a.1 < b.1) || (decide (a.1 = b.1) && Op.bytesLess a.2 b.2)
theorem before_cmp (a b : Int × List UInt8) : beforeB a b = true ↔ cmpM a b < 0 := by
 unfold beforeB cmpM
 rcases Int.lt_trichotomy a.1 b.1 with h | h | h
 ·have hI : cmpI a.1 b.1 = -1 := by unfold cmpI; rw [if_pos h]
  rw [hI, decide_eq_true h]; simp [orI]
 ·have hI : cmpI a.1 b.1 = 0 := by unfold cmpI; rw [if_neg (by omega), if_neg (by omega)]
  rw [hI, decide_eq_true h, decide_eq_false (show ¬ a.1 < b.1 by omega)]
  simp only [orI, ne_eq, not_true_eq_false, if_false, Bool.false_or, Bool.true_and]
  unfold cmpS
  cases h1 : Op.bytesLess a.2 b.2 with
  | true => simp
  | false => cases h2 : Op.bytesLess b.2 a.2 <;> simp
 have hI : cmpI a.1 b.1 = 1 := by unfold cmpI; rw [if_neg (by omega), if_pos h]
 rw [hI, decide_eq_false (show ¬ a.1 < b.1 by omega), decide_eq_false (show ¬ a.1 = b.1 by omega)]; simp [orI]
theorem nodup_place {l : List (Int × List UInt8)} : (l.map memName).Nodup ↔ ∀ (i j : Nat) x y, i < j → l[i]? = some x → l[j]? = some y → x.2 ≠ y.2 := by
 unfold List.Nodup
 rw [List.pairwise_iff_getElem]
 constructor
 ·intro h i j x y hij hx hy e
  obtain ⟨hi, rfl⟩ := List.getElem?_eq_some_iff.1 hx
  obtain ⟨hj, rfl⟩ := List.getElem?_eq_some_iff.1 hy
  exact h i j (by rw [List.length_map]; exact hi) (by rw [List.length_map]; exact hj) hij (by rw [List.getElem_map, List.getElem_map]; exact e)
 intro h i j hi hj hij e
 rw [List.length_map] at hi hj
 rw [List.getElem_map, List.getElem_map] at e
 exact h i j _ _ hij (List.getElem?_eq_getElem hi) (List.getElem?_eq_getElem hj) e
set_option maxHeartbeats 2000000 in
theorem refBefore (B : Base) (H : List Res) (w : World) (a b : Int × List UInt8) (hl : a.2.length ≤ 5000) (hv : Inv B H w) :
  Calls Tryz.prog 61 #[.agg #[.int .i64 a.1, .string ⟨a.2.toArray⟩], .agg #[.int .i64 b.1, .string ⟨b.2.toArray⟩]] w fun e w' => e = .returned (.bool (beforeB a b)) ∧ Inv B H w' := by
 refine cW Tryz.func61 rfl Tryz.ntmps61 ?_
 simp only [al]
 refine sK fun _ k1 => rL (sl_box (L := [.int .i64 a.1, .string ⟨a.2.toArray⟩]) tV (wn rfl) rfl rfl hv (fun w => by kernel_rfl) (fun b2 w3 hv => ?_))
 refine sl_box (L := [.int .i64 b.1, .string ⟨b.2.toArray⟩]) tV (wn rfl) rfl rfl hv (fun w => by kernel_rfl) (fun b4 w5 hv => ?_)
 refine xA (.bool false) rfl ?_
 simp only [zP, po]
 refine wK k1 (sK fun _ k6 => ?_)
 refine rL (xF (.pointer (some ⟨b2, 0, none⟩)) rfl (s11fa99_0 _ _ _) ?_)
 refine xL _ rfl (run_load1 s2na3 (hv.load 1 0 rfl rfl)) (xF (.pointer (some ⟨b4, 0, none⟩)) rfl (s11fa99_0 _ _ _) ?_)
 simp only [zP, po]
 refine xL _ rfl (run_load1 s2na3 (hv.load 0 0 rfl rfl)) ?_
 by_cases hb7 : a.1 < b.1
 ·refine xG (.bool true) rfl (ex_lss rfl rfl rfl (decide_eq_true hb7)) (xM (.bool true) rfl ?_)
  simp only [zP, po]
  iterate 12 refine yN rfl ?_
  refine xK true (.bool true) rfl (xA (.bool true) rfl ?_)
  simp only [zP, po]
  refine wK k6 (rR ?_)
  refine bR rfl rfl (⟨congrArg (fun b => Ending.returned (Value.bool b)) (by unfold beforeB; simp [*]), (hv.sub (List.Sublist.cons _ (List.Sublist.cons _ (List.Sublist.refl _))))⟩)
 refine xG (.bool false) rfl (ex_lss rfl rfl rfl (decide_eq_false hb7)) (xM (.bool false) rfl ?_)
 simp only [zP, po]
 refine xF (.pointer (some ⟨b2, 0, none⟩)) rfl (s11fa99_0 _ _ _) (xL _ rfl (run_load1 s2na3 (hv.load 1 0 rfl rfl)) ?_)
 refine xF (.pointer (some ⟨b4, 0, none⟩)) rfl (s11fa99_0 _ _ _) ?_
 simp only [zP, po]
 refine xL _ rfl (run_load1 s2na3 (hv.load 0 0 rfl rfl)) ?_
 by_cases hb8 : a.1 = b.1
 ·refine xG (.bool true) rfl (ex_eql rfl rfl rfl (decide_eq_true hb8)) (xM (.bool true) rfl ?_)
  simp only [zP, po]
  refine xF (.pointer (some ⟨b2, 1, none⟩)) rfl (s9fa99_1 _ _ _) (xL _ rfl (run_load1 s9na9 (hv.load 1 1 rfl rfl)) ?_)
  refine xF (.pointer (some ⟨b4, 1, none⟩)) rfl (s9fa99_1 _ _ _) ?_
  simp only [zP, po]
  refine xL _ rfl (run_load1 s9na9 (hv.load 0 1 rfl rfl)) (xC s30callable43 rfl ((refLess B _ _ a.2 b.2 (by omega) hv).mono ?_) rfl)
  rintro e w9 ⟨rfl, hv⟩
  refine ⟨_, rfl, ?_⟩
  refine xK true (.bool (Op.bytesLess a.2 b.2)) rfl ?_
  simp only [zP, po]
  refine xK false (.bool (Op.bytesLess a.2 b.2)) rfl (xA (.bool (Op.bytesLess a.2 b.2)) rfl ?_)
  simp only [zP, po]
  refine wK k6 (rR ?_)
  refine bR rfl rfl (⟨congrArg (fun b => Ending.returned (Value.bool b)) (by unfold beforeB; simp [*]), (hv.sub (List.Sublist.cons _ (List.Sublist.cons _ (List.Sublist.refl _))))⟩)
 refine xG (.bool false) rfl (ex_eql rfl rfl rfl (decide_eq_false hb8)) (xM (.bool false) rfl ?_)
 simp only [zP, po]
 iterate 5 refine yN rfl ?_
 refine xK false (.bool false) rfl (xK false (.bool false) rfl ?_)
 refine xA (.bool false) rfl ?_
 simp only [zP, po]
 refine wK k6 (rR ?_)
 refine bR rfl rfl (⟨congrArg (fun b => Ending.returned (Value.bool b)) (by unfold beforeB; simp [*]), (hv.sub (List.Sublist.cons _ (List.Sublist.cons _ (List.Sublist.refl _))))⟩)
def FirstZ (l : List (Int × List UInt8)) (s : List UInt8) (i : Nat) : Prop := (∃ x, l[i]? = some x ∧ x.2 = s) ∧ ∀ (j : Nat) y, j < i → l[j]? = some y → y.2 ≠ s
open Classical in
noncomputable def zAt (l : List (Int × List UInt8)) (s : List UInt8) : Int := if h : ∃ i, FirstZ l s i then ((Classical.choose h : Nat) : Int) else -1
theorem zAt_of {l : List (Int × List UInt8)} {s : List UInt8} {i : Nat} (h : FirstZ l s i) : zAt l s = (i : Int) := by
 have hex : ∃ i, FirstZ l s i := ⟨i, h⟩
 have h2 := Classical.choose_spec hex
 unfold zAt
 rw [dif_pos hex]
 obtain ⟨⟨x, hx, hxs⟩, h1⟩ := h
 obtain ⟨⟨y, hy, hys⟩, h3⟩ := h2
 rcases Nat.lt_trichotomy (Classical.choose hex) i with h4 | h4 | h4
 ·exact absurd hys (h1 _ y h4 hy)
 ·rw [h4]
 exact absurd hxs (h3 _ x h4 hx)
theorem zAt_no {l : List (Int × List UInt8)} {s : List UInt8} (h : ∀ x ∈ l, x.2 ≠ s) : zAt l s = -1 := by
 unfold zAt
 rw [dif_neg]
 rintro ⟨i, ⟨x, hx, hxs⟩, -⟩
 exact h x (List.mem_of_getElem? hx) hxs
theorem zAt_here {l : List (Int × List UInt8)} {i : Nat} {x : Int × List UInt8} (_ : l[i]? = some x) (h : zAt l x.2 = (i : Int)) : ∀ (j : Nat) y, j < i → l[j]? = some y → y.2 ≠ x.2 := by
 have hex : ∃ i, FirstZ l x.2 i := by
  refine Classical.byContradiction fun hno => ?_
  unfold zAt at h
  rw [dif_neg hno] at h
  omega
 have h2 := Classical.choose_spec hex
 unfold zAt at h
 rw [dif_pos hex] at h
 have h3 : Classical.choose hex = i := by omega
 rw [h3] at h2
 exact h2.2
set_option maxHeartbeats 2000000 in
theorem refZat (B : Base) (H : List Res) (w : World) (ad : Option Addr) (c : Nat) (l : List (Int × List UInt8)) (s : List UInt8) (hr : RdV B [] ad (memCells l)) (hm : l.length ≤ 1000000) (hv : Inv B H w) :
  Calls Tryz.prog 62 #[.slice ad l.length c, .string ⟨s.toArray⟩] w fun e w' => e = .returned (.int .i64 (zAt l s)) ∧ Inv B H w' := by
 refine cW Tryz.func62 rfl Tryz.ntmps62 ?_
 simp only [al]
 refine sK fun _ k1 => rL (xA (.int .i64 0) rfl ?_)
 simp only [zP, po]
 refine wK k1 (sK fun _ k2 => ?_)
 refine sK fun _ k3 => rL (xA (.int .i64 0) rfl ?_)
 simp only [zP, po]
 refine wK k3 (bB ?_)
 gi_loopw [5] (fun x5 wr => ∃ (i : Nat), x5 = .int .i64 (i : Int) ∧ i ≤ l.length ∧ (∀ (j : Nat) y, j < i → l[j]? = some y → y.2 ≠ s) ∧ Inv B H wr) (fun x5 _ => l.length - (intOf x5).toNat)
 case atStart => exact ⟨0, rfl, Nat.zero_le _, fun j y h => by omega, hv⟩
 case round =>
  obtain ⟨i, rfl, hi, hno, hv⟩ := hrel
  refine sK fun _ k5 => sK fun _ k6 => rL (xM (.int .i64 (i : Int)) rfl ?_)
  refine xM (.slice ad l.length c) rfl (xG (.int .i64 (l.length : Int)) rfl (ex_len0 Tryz.underlying33 rfl rfl) ?_)
  simp only [zP, po]
  by_cases hb7 : (i : Int) < (l.length : Int)
  ·refine xG (.bool true) rfl (ex_lss rfl rfl rfl (decide_eq_true hb7)) ?_
   simp only [zP, po]
   refine wK k6 (cT rfl ?_)
   refine kS (tK k5 ?_)
   refine sK fun _ k8 => bB (sK fun _ k9 => ?_)
   obtain ⟨x, hx⟩ : ∃ x, l[i]? = some x := ⟨_, List.getElem?_eq_getElem (show i < l.length by omega)⟩
   obtain ⟨bb, bo, had, hrdx⟩ := mem_reads hr hx
   subst had
   refine rL (xM (.slice (some ⟨bb, bo, none⟩) l.length c) rfl ?_)
   refine xM (.int .i64 (i : Int)) rfl (xG (.pointer (some ⟨bb, bo + i * 2, none⟩)) rfl (ex_index rfl rfl rfl (run_idx (k := i) Tryz.underlying33 s9es33 (by omega))) ?_)
   simp only [zP, po]
   refine xF (.pointer (some ⟨bb, bo + i * 2 + 1, none⟩)) rfl (s9fa99_1 _ _ _) (xL _ rfl (run_load1 s9na9 (hrdx _ _ _ (Base.Le.refl _) no_res hv 1 _ rfl)) ?_)
   refine xM (.string ⟨s.toArray⟩) rfl ?_
   simp only [zP, po]
   by_cases hb10 : x.2 = s
   ·refine xG (.bool true) rfl (ex_seql rfl rfl rfl (decide_eq_true hb10)) ?_
    simp only [zP, po]
    refine wK k9 (cT rfl ?_)
    refine sK fun _ k11 => rL (xM (.int .i64 (i : Int)) rfl ?_)
    refine xA (.int .i64 (i : Int)) rfl ?_
    simp only [zP, po]
    refine wK k11 (rR ?_)
    refine bE (tR ?_)
    refine tR (bE ?_)
    refine tR (bR rfl rfl ?_)
    exact ⟨by rw [zAt_of ⟨⟨x, hx, hb10⟩, hno⟩]; rfl, hv⟩
   refine xG (.bool false) rfl (ex_seql rfl rfl rfl (decide_eq_false hb10)) ?_
   simp only [zP, po]
   refine wK k9 (cF rfl ?_)
   refine kS (bN ?_)
   refine tK k8 (rL ?_)
   refine xM (.int .i64 (i : Int)) rfl (xG (.int .i64 ((i + 1 : Nat) : Int)) rfl (ex_add rfl rfl rfl (by rw [i64_in (by omega)]; omega)) ?_)
   refine xA (.int .i64 ((i + 1 : Nat) : Int)) rfl (wL ?_)
   simp only [zP, po]
   refine then_normal ?_
   go_roundw
   case rel => exact ⟨i + 1, rfl, by omega, fun j y hj hy => (by
      rcases Nat.lt_or_ge j i with h | h
      ·exact hno j y h hy
      rw [show j = i by omega, hx] at hy; cases hy; exact hb10), hv⟩
   case measure => show l.length - (((i + 1 : Nat) : Int)).toNat < l.length - ((i : Int)).toNat; omega
  refine xG (.bool false) rfl (ex_lss rfl rfl rfl (decide_eq_false hb7)) ?_
  simp only [zP, po]
  refine wK k6 (cF rfl ?_)
  refine xE (tX ?_)
  refine tX (bH ?_)
  refine tK k2 (sK fun _ k12 => ?_)
  refine rL (xA (.int .i64 (-1)) rfl ?_)
  simp only [zP, po]
  refine wK k12 (rR ?_)
  refine bR rfl rfl ?_
  obtain rfl : i = l.length := by omega
  exact ⟨by rw [zAt_no (fun x hx => by obtain ⟨j, hj⟩ := List.mem_iff_getElem?.1 hx; exact hno j x (List.getElem?_eq_some_iff.1 hj).1 hj)]; rfl, hv⟩
def ZAt (l : List (Int × List UInt8)) (i : Nat) : Prop := (∀ x, l[i]? = some x → x.2.length ≤ 4096) ∧ (∀ x, l[i]? = some x → ∀ (j : Nat) y, i = j + 1 → l[j]? = some y → cmpM y x < 0) ∧ ∀ x, l[i]? = some x → ∀ (j : Nat) y, j < i → l[j]? = some y → y.2 ≠ x.2
theorem zset_ok {l : List (Int × List UInt8)} (h : l.length ≤ 512) (ha : ∀ k, k < l.length → ZAt l k) : ZsetOk l := by
 refine ⟨h, List.any_eq_false.2 fun x hx => ?_, fun i x hx => (ha i (List.getElem?_eq_some_iff.1 hx).1).2.1 x hx, nodup_place.2 fun i j x y hij hx hy => (ha j (List.getElem?_eq_some_iff.1 hy).1).2.2 y hy i x hij hx⟩
 obtain ⟨j, hj⟩ := List.mem_iff_getElem?.1 hx
 have := (ha j (List.getElem?_eq_some_iff.1 hj).1).1 x hj
 simp; omega
theorem s30callable61 : Callable Tryz.prog 61 := ⟨_, Tryz.func61, by kernel_rfl, by kernel_rfl⟩
theorem s30callable62 : Callable Tryz.prog 62 := ⟨_, Tryz.func62, by kernel_rfl, by kernel_rfl⟩
set_option maxHeartbeats 4000000 in
theorem refZsetRight (B : Base) (H : List Res) (w : World) (ad : Option Addr) (c : Nat) (l : List (Int × List UInt8)) (hr : RdV B [] ad (memCells l)) (hm : l.length ≤ 1000000) (hv : Inv B H w) :
  Calls Tryz.prog 37 #[.slice ad l.length c] w fun e w' => ∃ b, e = .returned (.bool b) ∧ (b = true ↔ ZsetOk l) ∧ Inv B H w' := by
 refine cW Tryz.func37 rfl Tryz.ntmps37 ?_
 simp only [al]
 refine sK fun _ k1 => rL (xA (.bool false) rfl ?_)
 simp only [zP, po]
 refine wK k1 (sK fun _ k2 => ?_)
 refine sK fun _ k3 => rL (xA (.int .i64 0) rfl ?_)
 simp only [zP, po]
 refine wK k3 (bB ?_)
 gi_loopw [3] (fun x3 wr => ∃ (i : Nat), x3 = .int .i64 (i : Int) ∧ i ≤ l.length ∧ (∀ k, k < i → ZAt l k) ∧ Inv B H wr) (fun x3 _ => l.length - (intOf x3).toNat)
 case atStart => exact ⟨0, rfl, Nat.zero_le _, fun k h => by omega, hv⟩
 case round =>
  obtain ⟨i, rfl, hi, hall, hv⟩ := hrel
  refine sK fun _ k5 => sK fun _ k6 => rL (xM (.int .i64 (i : Int)) rfl ?_)
  refine xM (.slice ad l.length c) rfl (xG (.int .i64 (l.length : Int)) rfl (ex_len0 Tryz.underlying33 rfl rfl) ?_)
  simp only [zP, po]
  by_cases hb7 : (i : Int) < (l.length : Int)
  ·refine xG (.bool true) rfl (ex_lss rfl rfl rfl (decide_eq_true hb7)) ?_
   simp only [zP, po]
   refine wK k6 (cT rfl ?_)
   refine kS (tK k5 ?_)
   refine sK fun _ k8 => bB (sK fun _ k9 => ?_)
   obtain ⟨x, hx⟩ : ∃ x, l[i]? = some x := ⟨_, List.getElem?_eq_getElem (show i < l.length by omega)⟩
   obtain ⟨bb, bo, had, hrdx⟩ := mem_reads hr hx
   subst had
   refine rW mixed [20, 31] [0,1,2,3,4,5,6,7,8,9,10,11,12,13,14,15,16,17,18,19,20,21,22,23,24,25,26,27,28,29,30,32,31,33,34] 48 rfl (by kernel_rfl) hv ?_
   simp only [qm, opAt]
   refine dM (.slice (some ⟨bb, bo, none⟩) l.length c) rfl (dM (.int .i64 (i : Int)) rfl ?_)
   refine dG (.pointer (some ⟨bb, bo + i * 2, none⟩)) rfl (ex_index rfl rfl rfl (run_idx (k := i) Tryz.underlying33 s9es33 (by omega))) ?_
   simp only [zP, po]
   refine dG (.pointer (some ⟨bb, bo + i * 2 + 1, none⟩)) rfl (ex_field rfl rfl (s9fa99_1 _ _ _)) (dL _ rfl (fun hv => ex_load rfl rfl (run_load1 s9na9 (hrdx _ _ _ (Base.Le.refl _) no_res hv 1 _ rfl))) ?_)
   refine dG (.int .i64 (x.2.length : Int)) rfl (ex_lenStr Tryz.underlying9 rfl rfl) ?_
   simp only [zP, po]
   by_cases hb10 : (x.2.length : Int) > 4096
   ·refine dG (.bool true) rfl (ex_gtr rfl rfl rfl (decide_eq_true hb10)) (dM (.bool true) rfl ?_)
    refine dP rfl ?_
    simp only [zP, po]
    refine dP rfl (dP rfl ?_)
    refine dP rfl ?_
    simp only [zP, po]
    refine dP rfl (dP rfl ?_)
    refine dP rfl ?_
    simp only [zP, po]
    refine dP rfl (dP rfl ?_)
    refine dP rfl ?_
    simp only [zP, po]
    refine dP rfl (dP rfl ?_)
    refine dP rfl ?_
    simp only [zP, po]
    refine dP rfl (dP rfl ?_)
    refine dK true (.bool true) rfl ?_
    simp only [zP, po]
    refine dM (.bool true) rfl (dP rfl ?_)
    refine dP rfl ?_
    simp only [zP, po]
    refine dP rfl (dP rfl ?_)
    refine dP rfl ?_
    simp only [zP, po]
    refine dP rfl (dP rfl ?_)
    refine dP rfl ?_
    simp only [zP, po]
    refine dP rfl (dK true (.bool true) rfl ?_)
    refine dE fun w11 hv => ?_
    simp only [zP, po]
    refine tK k9 (cT rfl ?_)
    refine sK fun _ k12 => rL (xA (.bool false) rfl ?_)
    simp only [zP, po]
    refine wK k12 (rR ?_)
    refine bE (tR ?_)
    refine tR (bE ?_)
    refine tR (bR rfl rfl ?_)
    exact ⟨false, rfl, ⟨fun h => (by cases h), fun h => by have h8 := List.any_eq_false.1 h.2.1 x (List.mem_of_getElem? hx); simp at h8; omega⟩, hv⟩
   refine dG (.bool false) rfl (ex_gtr rfl rfl rfl (decide_eq_false hb10)) (dM (.bool false) rfl ?_)
   refine dM (.int .i64 (i : Int)) rfl ?_
   simp only [zP, po]
   by_cases hb13 : (i : Int) > 0
   ·obtain ⟨j, hj⟩ : ∃ j : Nat, i = j + 1 := ⟨i - 1, by omega⟩
    obtain ⟨y, hy⟩ : ∃ x, l[j]? = some x := ⟨_, List.getElem?_eq_getElem (show j < l.length by omega)⟩
    obtain ⟨b9, o9, had9, hrdy⟩ := mem_reads hr hy
    cases had9
    have hyl := (hall j (by omega)).1 y hy
    skip
    refine dG (.bool true) rfl (ex_gtr rfl rfl rfl (decide_eq_true hb13)) (dM (.bool true) rfl ?_)
    refine dM (.slice (some ⟨bb, bo, none⟩) l.length c) rfl ?_
    simp only [zP, po]
    refine dM (.int .i64 (i : Int)) rfl (dG (.int .i64 (j : Int)) rfl (ex_sub rfl rfl rfl (by rw [i64_in (by omega)]; omega)) ?_)
    refine dG (.pointer (some ⟨bb, bo + j * 2, none⟩)) rfl (ex_index rfl rfl rfl (run_idx (k := j) Tryz.underlying33 s9es33 (by omega))) ?_
    simp only [zP, po]
    refine dL (.agg #[.int .i64 y.1, .string ⟨y.2.toArray⟩]) rfl (fun hv => ex_load rfl rfl (run_loadR (cs := [.int .i64 y.1, .string ⟨y.2.toArray⟩]) s9wd99 (Reads.mid (pre := []) (mid := [.int .i64 y.1, .string ⟨y.2.toArray⟩]) (post := []) hrdy _ _ _ (Base.Le.refl _) no_res hv))) (dM (.slice (some ⟨bb, bo, none⟩) l.length c) rfl ?_)
    refine dM (.int .i64 (i : Int)) rfl ?_
    simp only [zP, po]
    refine dG (.pointer (some ⟨bb, bo + i * 2, none⟩)) rfl (ex_index rfl rfl rfl (run_idx (k := i) Tryz.underlying33 s9es33 (by omega))) (dL (.agg #[.int .i64 x.1, .string ⟨x.2.toArray⟩]) rfl (fun hv => ex_load rfl rfl (run_loadR (cs := [.int .i64 x.1, .string ⟨x.2.toArray⟩]) s9wd99 (Reads.mid (pre := []) (mid := [.int .i64 x.1, .string ⟨x.2.toArray⟩]) (post := []) hrdx _ _ _ (Base.Le.refl _) no_res hv))) ?_)
    refine dS rfl fun w14 hv => ?_
    by_cases hb15 : beforeB y x = true
    ·refine mC s30callable61 rfl ((calls_bool (refBefore B _ _ y x (by omega) hv) hb15).mono ?_) rfl
     rintro e w16 ⟨rfl, hv⟩
     refine ⟨_, rfl, dW hv ?_⟩
     simp only [zP, po]
     refine dG (.bool false) rfl (ex_not rfl rfl rfl) (dK true (.bool false) rfl ?_)
     refine dK false (.bool false) rfl ?_
     simp only [zP, po]
     refine dM (.bool false) rfl (dM (.slice (some ⟨bb, bo, none⟩) l.length c) rfl ?_)
     refine dM (.slice (some ⟨bb, bo, none⟩) l.length c) rfl ?_
     simp only [zP, po]
     refine dM (.int .i64 (i : Int)) rfl (dG (.pointer (some ⟨bb, bo + i * 2, none⟩)) rfl (ex_index rfl rfl rfl (run_idx (k := i) Tryz.underlying33 s9es33 (by omega))) ?_)
     refine dG (.pointer (some ⟨bb, bo + i * 2 + 1, none⟩)) rfl (ex_field rfl rfl (s9fa99_1 _ _ _)) ?_
     simp only [zP, po]
     refine dL _ rfl (fun hv => ex_load rfl rfl (run_load1 s9na9 (hrdx _ _ _ (Base.Le.refl _) no_res hv 1 _ rfl))) (dM (.int .i64 (i : Int)) rfl ?_)
     refine dS rfl fun w17 hv => mC s30callable62 rfl ((refZat B _ _ _ c l x.2 hr hm hv).mono ?_) rfl
     rintro e w18 ⟨rfl, hv⟩
     refine ⟨_, rfl, dW hv ?_⟩
     simp only [zP, po]
     refine dG (.bool (decide ((zAt l x.2) ≠ (i : Int)))) rfl (ex_neq rfl rfl rfl rfl) (dK false (.bool (decide ((zAt l x.2) ≠ (i : Int)))) rfl ?_)
     refine dE fun w19 hv => ?_
     simp only [zP, po]
     refine tK k9 (wpIn_cond_split (t := decide ((zAt l x.2) ≠ (i : Int))) rfl (fun hc20 => ?_) (fun hc20 => ?_))
     ·refine sK fun _ k21 => rL (xA (.bool false) rfl ?_)
      simp only [zP, po]
      refine wK k21 (rR ?_)
      refine bE (tR ?_)
      refine tR (bE ?_)
      refine tR (bR rfl rfl ?_)
      exact ⟨false, rfl, ⟨fun h => (by cases h), fun h => by
       have h5 : zAt l x.2 ≠ (i : Int) := by simpa using hc20
       exact absurd (zAt_of ⟨⟨x, hx, rfl⟩, fun j y hj hy => nodup_place.1 h.2.2.2 j i y x hj hy hx⟩) h5⟩, hv⟩
     refine kS (bN ?_)
     refine tK k8 (rL ?_)
     refine xM (.int .i64 (i : Int)) rfl (xG (.int .i64 ((i + 1 : Nat) : Int)) rfl (ex_add rfl rfl rfl (by rw [i64_in (by omega)]; omega)) ?_)
     refine xA (.int .i64 ((i + 1 : Nat) : Int)) rfl (wL ?_)
     simp only [zP, po]
     refine then_normal ?_
     go_roundw
     case rel => exact ⟨i + 1, rfl, by omega, fun k hk => (by
        rcases Nat.lt_or_ge k i with h | h
        ·exact hall k h
        obtain rfl : k = i := by omega
        refine ⟨fun x' hx' => ?_, fun x' hx' j' y' hj' hy' => ?_, fun x' hx' j' y' hj' hy' => ?_⟩ <;> (rw [hx] at hx'; cases hx')
        ·omega
        ·rw [show j' = j by omega, hy] at hy'; cases hy'; exact (before_cmp _ _).1 hb15
        have h5 : zAt l x.2 = (k : Int) := by simpa using hc20
        exact zAt_here hx h5 j' y' hj' hy'), hv⟩
     case measure => show l.length - (((i + 1 : Nat) : Int)).toNat < l.length - ((i : Int)).toNat; omega
    refine mC s30callable61 rfl ((calls_bool (refBefore B _ _ y x (by omega) hv) (by simpa using hb15)).mono ?_) rfl
    rintro e w22 ⟨rfl, hv⟩
    refine ⟨_, rfl, dW hv ?_⟩
    simp only [zP, po]
    refine dG (.bool true) rfl (ex_not rfl rfl rfl) (dK true (.bool true) rfl ?_)
    refine dK false (.bool true) rfl ?_
    simp only [zP, po]
    refine dM (.bool true) rfl (dP rfl ?_)
    refine dP rfl ?_
    simp only [zP, po]
    refine dP rfl (dP rfl ?_)
    refine dP rfl ?_
    simp only [zP, po]
    refine dP rfl (dP rfl ?_)
    refine dP rfl ?_
    simp only [zP, po]
    refine dP rfl (dK true (.bool true) rfl ?_)
    refine dE fun w23 hv => ?_
    simp only [zP, po]
    refine tK k9 (cT rfl ?_)
    refine sK fun _ k24 => rL (xA (.bool false) rfl ?_)
    simp only [zP, po]
    refine wK k24 (rR ?_)
    refine bE (tR ?_)
    refine tR (bE ?_)
    refine tR (bR rfl rfl ?_)
    exact ⟨false, rfl, ⟨fun h => (by cases h), fun h => absurd ((before_cmp _ _).2 (h.2.2.1 i x hx j y (by omega) hy)) hb15⟩, hv⟩
   refine dG (.bool false) rfl (ex_gtr rfl rfl rfl (decide_eq_false hb13)) (dM (.bool false) rfl ?_)
   refine dP rfl ?_
   simp only [zP, po]
   refine dP rfl (dP rfl ?_)
   refine dP rfl ?_
   simp only [zP, po]
   refine dP rfl (dP rfl ?_)
   refine dP rfl ?_
   simp only [zP, po]
   refine dP rfl (dP rfl ?_)
   refine dP rfl ?_
   simp only [zP, po]
   refine dP rfl (dK false (.bool false) rfl ?_)
   refine dK false (.bool false) rfl ?_
   simp only [zP, po]
   refine dM (.bool false) rfl (dM (.slice (some ⟨bb, bo, none⟩) l.length c) rfl ?_)
   refine dM (.slice (some ⟨bb, bo, none⟩) l.length c) rfl ?_
   simp only [zP, po]
   refine dM (.int .i64 (i : Int)) rfl (dG (.pointer (some ⟨bb, bo + i * 2, none⟩)) rfl (ex_index rfl rfl rfl (run_idx (k := i) Tryz.underlying33 s9es33 (by omega))) ?_)
   refine dG (.pointer (some ⟨bb, bo + i * 2 + 1, none⟩)) rfl (ex_field rfl rfl (s9fa99_1 _ _ _)) ?_
   simp only [zP, po]
   refine dL _ rfl (fun hv => ex_load rfl rfl (run_load1 s9na9 (hrdx _ _ _ (Base.Le.refl _) no_res hv 1 _ rfl))) (dM (.int .i64 (i : Int)) rfl ?_)
   refine dS rfl fun w25 hv => mC s30callable62 rfl ((refZat B _ _ _ c l x.2 hr hm hv).mono ?_) rfl
   rintro e w26 ⟨rfl, hv⟩
   refine ⟨_, rfl, dW hv ?_⟩
   simp only [zP, po]
   refine dG (.bool (decide ((zAt l x.2) ≠ (i : Int)))) rfl (ex_neq rfl rfl rfl rfl) (dK false (.bool (decide ((zAt l x.2) ≠ (i : Int)))) rfl ?_)
   refine dE fun w27 hv => ?_
   simp only [zP, po]
   refine tK k9 (wpIn_cond_split (t := decide ((zAt l x.2) ≠ (i : Int))) rfl (fun hc28 => ?_) (fun hc28 => ?_))
   ·refine sK fun _ k29 => rL (xA (.bool false) rfl ?_)
    simp only [zP, po]
    refine wK k29 (rR ?_)
    refine bE (tR ?_)
    refine tR (bE ?_)
    refine tR (bR rfl rfl ?_)
    exact ⟨false, rfl, ⟨fun h => (by cases h), fun h => by
     have h5 : zAt l x.2 ≠ (i : Int) := by simpa using hc28
     exact absurd (zAt_of ⟨⟨x, hx, rfl⟩, fun j y hj hy => nodup_place.1 h.2.2.2 j i y x hj hy hx⟩) h5⟩, hv⟩
   refine kS (bN ?_)
   refine tK k8 (rL ?_)
   refine xM (.int .i64 (i : Int)) rfl (xG (.int .i64 ((i + 1 : Nat) : Int)) rfl (ex_add rfl rfl rfl (by rw [i64_in (by omega)]; omega)) ?_)
   refine xA (.int .i64 ((i + 1 : Nat) : Int)) rfl (wL ?_)
   simp only [zP, po]
   refine then_normal ?_
   go_roundw
   case rel => exact ⟨i + 1, rfl, by omega, fun k hk => (by
      rcases Nat.lt_or_ge k i with h | h
      ·exact hall k h
      obtain rfl : k = i := by omega
      refine ⟨fun x' hx' => ?_, fun x' hx' j' y' hj' hy' => ?_, fun x' hx' j' y' hj' hy' => ?_⟩ <;> (rw [hx] at hx'; cases hx')
      ·omega
      ·omega
      have h5 : zAt l x.2 = (k : Int) := by simpa using hc28
      exact zAt_here hx h5 j' y' hj' hy'), hv⟩
   case measure => show l.length - (((i + 1 : Nat) : Int)).toNat < l.length - ((i : Int)).toNat; omega
  refine xG (.bool false) rfl (ex_lss rfl rfl rfl (decide_eq_false hb7)) ?_
  simp only [zP, po]
  refine wK k6 (cF rfl ?_)
  refine xE (tX ?_)
  refine tX (bH ?_)
  refine tK k2 (sK fun _ k30 => ?_)
  refine rL (xM (.slice ad l.length c) rfl ?_)
  refine xG (.int .i64 (l.length : Int)) rfl (ex_len0 Tryz.underlying33 rfl rfl) (xG (.bool (decide ((l.length : Int) ≤ 512))) rfl (ex_leq rfl rfl rfl rfl) ?_)
  simp only [zP, po]
  refine xA (.bool (decide ((l.length : Int) ≤ 512))) rfl ?_
  simp only [zP, po]
  refine wK k30 (rR ?_)
  refine bR rfl rfl ?_
  obtain rfl : i = l.length := by omega
  exact ⟨_, rfl, by rw [decide_eq_true_iff]; exact ⟨fun h9 => zset_ok (by omega) hall, fun h9 => by have := h9.1; omega⟩, hv⟩
end Go.Proofs.YtkoghbmjbobfjaaGreat
/- What a chain has at a stamp, in plain data; what a pruned one has. -/
namespace Go.Proofs.YtkoghbmjbobfjaaGreat
open Go.RowKit Go.Pm
end Go.Proofs.YtkoghbmjbobfjaaGreat
