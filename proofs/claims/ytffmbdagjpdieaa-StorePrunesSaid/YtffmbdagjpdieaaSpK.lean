/- index.remove on the whole index; index.Set of an empty chain. -/
import Derived.Test.YtffmbdagjpdieaaSpB
import Derived.Test.YtffmbdagjpdieaaSpJ
import Derived.Test.YtffmbdagjpdieaaRows
import Derived.Test.YtffmbdagjpdieaaSpH
import Derived.Test.YtffmbdagjpdieaaSpC
import Derived.Scope
import Derived.Test.YtffmbdagjpdieaaSpI
import Derived.Test.YtffmbdagjpdieaaSpE
set_option maxRecDepth 100000
namespace Go.Proofs.Ytffmbdagjpdieaa
open Go.RowKit Go.Pm
theorem ixRemove (B : Base) (H : List Res) (w : World) (p : Nat) (v : Value) (n : Int) (X : List (List Ent)) (bvs : List Value) (key : List UInt8) (i j : Nat) (hfi : FindI X key i j true) (hne : ∀ es ∈ X, es ≠ []) (hX : X.length ≤ 1000000) (hE : ∀ es ∈ X, es.length ≤ 1000000) (h1 : ∀ es ∈ X, ∀ e ∈ es, e.2.oneCell' = true) (hn : 1 ≤ n ∧ n ≤ 1000000) (hv : Inv B (ixS 81 93 92 p v n X bvs :: H) w) :
  Calls Try.prog 45 #[.pointer (some ⟨p, 0, none⟩), .int .i64 (i : Int), .int .i64 (j : Int)] w fun e w' => e = .returned (.tuple #[]) ∧ ∃ v' X' bvs', Inv B (ixS 81 93 92 p v' (n - 1) X' bvs' :: H) w' ∧ X'.flatten = X.flatten.take (posOf X i j) ++ X.flatten.drop (posOf X i j + 1) ∧ ∀ es ∈ X', es ≠ [] := by
 have one_ent : ∀ l : List Ent, (∀ e ∈ l, e.2.oneCell' = true) → ∀ u ∈ entCells l, u.oneCell' = true := by
  intro l hl u hu
  obtain ⟨e, he, h⟩ := List.mem_flatMap.1 hu
  simp only [List.mem_cons, List.not_mem_nil, or_false] at h
  rcases h with h | h
  ·rw [h]; rfl
  rw [h]; exact hl e he
 have hilt := hfi.lt
 obtain ⟨es, hes⟩ : ∃ es, X[i]? = some es := ⟨_, List.getElem?_eq_getElem hilt⟩
 obtain ⟨f, hf, -, -, -⟩ := hfi.at_ es hes
 have hj : j < es.length := (List.getElem?_eq_some_iff.1 hf).1
 have hesm := List.mem_of_getElem? hes
 obtain ⟨a, ca, b, c, rfl, hlen, hbi, hv1⟩ := hv.ixOpen hes (hne es hesm)
 have hsplit : entCells es = entCells (es.take j) ++ [strV f.1, f.2] ++ entCells (es.drop (j + 1)) := by
  conv => lhs; rw [split_at hf]
  rw [entCells_append, List.append_assoc]; rfl
 rw [hsplit] at hv1
 have h1b : ∀ u ∈ bvs, u.oneCell' = true := by
  intro u hu
  obtain ⟨k, hk⟩ := List.mem_iff_getElem?.1 hu
  obtain ⟨es2, hes2⟩ : ∃ es2, X[k]? = some es2 := ⟨_, List.getElem?_eq_getElem (by have := (List.getElem?_eq_some_iff.1 hk).1; omega)⟩
  obtain ⟨ad2, c2, rfl⟩ := row_slice (ixS_blk hv.head hes2 hk)
  rfl
 have hl' : (es.take j ++ es.drop (j + 1)).length = j + (es.length - (j + 1)) := by
  simp only [List.length_append, List.length_take, List.length_drop]; omega
 refine (ixRemove0 B _ w p a X.length ca b es.length c i j (es.length - (j + 1)) n bvs (entCells (es.take j)) [strV f.1, f.2] (entCells (es.drop (j + 1))) hX hilt (by omega) (hE es hesm) hn (by rw [entCells_len, List.length_take]; omega) rfl (by rw [entCells_len, List.length_drop]) (one_ent _ (fun e he => h1 es hesm e (List.mem_of_mem_drop he))) h1b hlen hbi hv1).mono ?_
 rintro e w' ⟨he, ⟨h0, h3⟩ | ⟨h0, h3⟩⟩
 ·refine ⟨he, _, X.set i (es.take j ++ es.drop (j + 1)), _, Inv.ixClose1 (es' := es.take j ++ es.drop (j + 1)) hlen hilt (by rw [hl', entCells_append]; exact h3), flat_rem1 hes hj, fun es2 h2 => ?_⟩
  rcases List.mem_or_eq_of_mem_set h2 with h2 | h2
  ·exact hne es2 h2
  intro h4
  rw [h2] at h4
  have := congrArg List.length h4
  rw [hl', List.length_nil] at this
  omega
 obtain rfl : j = 0 := by omega
 refine ⟨he, _, X.take i ++ X.drop (i + 1), _, Inv.ixClose0 hlen hilt h3, flat_rem2 hes (by omega), fun es2 h2 => ?_⟩
 rcases List.mem_append.1 h2 with h2 | h2
 ·exact hne es2 (List.mem_of_mem_take h2)
 exact hne es2 (List.mem_of_mem_drop h2)
theorem s21callable45 : Callable Try.prog 45 := ⟨_, Try.func45, by kernel_rfl, by kernel_rfl⟩
set_option maxHeartbeats 4000000 in
theorem ixDel0 (B : Base) (H : List Res) (w : World) (p : Nat) (v : Value) (X : List (List Ent)) (bvs : List Value) (M : Model) (key : List UInt8) (cad : Option Addr) (cc : Nat) (hx : IxM B X M) (hv : Inv B (ixS 81 93 92 p v (M.length : Int) X bvs :: H) w) :
  Calls Try.prog 25 #[.pointer (some ⟨p, 0, none⟩), .string ⟨key.toArray⟩, .slice cad 0 cc] w fun e w' => e = .returned (.tuple #[]) ∧ ∃ v' X' bvs' M', IxM B X' M' ∧ (∀ k, getM M' k = if k = key then [] else getM M k) ∧ (M'.length ≤ M.length ∧ M.length ≤ M'.length + 1) ∧ Inv B (ixS 81 93 92 p v' (M'.length : Int) X' bvs' :: H) w' := by
 obtain ⟨ad, c, hva0, hok0, hp, hr, hbv⟩ := ixS_facts hv List.mem_cons_self
 subst hva0
 refine (callsIn_wide (n := 5)).1 ?_
 refine callsIn_of_wp Try.func25 rfl trivial ?_
 simp only [Try.ntmps25, List.size_toArray, List.length_cons, List.length_nil, Nat.reduceAdd, Nat.reduceSub, Array.replicate_succ, Array.replicate_zero, List.push_toArray, List.append_toArray, List.nil_append, List.cons_append]
 refine sK fun K1 hK1 => rL ?_
 refine xM (.pointer (some ⟨p, 0, none⟩)) rfl rfl rfl ?_
 refine xM (.string ⟨key.toArray⟩) rfl rfl rfl ?_
 refine xC s3callable42 rfl rfl (l := [.pointer (some ⟨p, 0, none⟩), .string ⟨key.toArray⟩]) rfl ((ixFind B _ _ p _ X ad c bvs key _ (fun r hr => by rw [List.mem_singleton.1 hr]; exact List.mem_cons_self) hp hr hbv hx.ok hv).mono ?_)
 rintro e w2 ⟨i, j, ok, hfi, rfl, hv⟩
 refine ⟨_, rfl, ?_⟩
 simp only [zP, zI, zS, zO]
 refine xM (.tuple #[.int .i64 (i : Int), .int .i64 (j : Int), .bool ok]) rfl rfl rfl ?_
 refine xG (.int .i64 (i : Int)) rfl rfl (ex_extract rfl rfl rfl) ?_
 refine xG (.int .i64 (j : Int)) rfl rfl (ex_extract rfl rfl rfl) ?_
 simp only [zP, zI, zS, zO]
 refine xG (.bool ok) rfl rfl (ex_extract rfl rfl rfl) ?_
 refine xA (.int .i64 (i : Int)) rfl rfl rfl ?_
 refine xA (.int .i64 (j : Int)) rfl rfl rfl ?_
 simp only [zP, zI, zS, zO]
 refine xA (.bool ok) rfl rfl rfl ?_
 refine wL ?_
 simp only [zP, zI, zS, zO]
 refine tN (hK1 _ _ ?_)
 clear hK1 K1
 refine wpIn_block ?_
 refine sK fun K3 hK3 => rL ?_
 refine xM (.slice cad 0 cc) rfl rfl rfl ?_
 refine xG (.int .i64 0) rfl rfl (ex_len0 Try.underlying66 rfl rfl) ?_
 refine xG (.bool false) rfl rfl (ex_gtr (k := .i64) (m := 0) (n := 0) rfl rfl rfl (by decide)) ?_
 simp only [zP, zI, zS, zO]
 refine xM (.bool false) rfl rfl rfl ?_
 refine xN 3 20 true false rfl rfl rfl (by decide) ?_
 refine xK false (.bool false) rfl rfl rfl rfl ?_
 simp only [zP, zI, zS, zO]
 refine xA (.bool false) rfl rfl rfl ?_
 refine wL ?_
 simp only [zP, zI, zS, zO]
 refine tN (hK3 _ _ ?_)
 clear hK3 K3
 refine wpIn_cond_false rfl ?_
 refine sK fun K4 hK4 => rL ?_
 refine xM (.slice cad 0 cc) rfl rfl rfl ?_
 refine xG (.int .i64 0) rfl rfl (ex_len0 Try.underlying66 rfl rfl) ?_
 refine xG (.bool false) rfl rfl (ex_gtr (k := .i64) (m := 0) (n := 0) rfl rfl rfl (by decide)) ?_
 simp only [zP, zI, zS, zO]
 refine xA (.bool false) rfl rfl rfl ?_
 refine wL ?_
 simp only [zP, zI, zS, zO]
 refine tN (hK4 _ _ ?_)
 clear hK4 K4
 refine wpIn_cond_false rfl ?_
 refine sK fun K5 hK5 => rL ?_
 refine xM (.bool ok) rfl rfl rfl ?_
 refine xA (.bool ok) rfl rfl rfl ?_
 refine wL ?_
 simp only [zP, zI, zS, zO]
 refine tN (hK5 _ _ ?_)
 clear hK5 K5
 refine wpIn_cond_split (t := ok) rfl (fun hc6 => ?_) (fun hc6 => ?_)
 ·refine rL ?_
  refine xM (.pointer (some ⟨p, 0, none⟩)) rfl rfl rfl ?_
  refine xM (.int .i64 (i : Int)) rfl rfl rfl ?_
  refine xM (.int .i64 (j : Int)) rfl rfl rfl ?_
  simp only [zP, zI, zS, zO]
  subst hc6
  obtain ⟨e0, m0, -, hm0, -⟩ := (hfi.pos hx.so).some hx.mo
  have hM1 : 1 ≤ M.length := by have := (List.getElem?_eq_some_iff.1 hm0).1; omega
  have hMs := hx.sm
  refine xC s21callable45 rfl rfl (l := [.pointer (some ⟨p, 0, none⟩), .int .i64 (i : Int), .int .i64 (j : Int)]) rfl ((ixRemove B _ _ p _ _ X bvs key i j hfi hx.ne hx.ok.lenX hx.ok.lenE (fun es hes e he => by obtain ⟨m, -, -, h9⟩ := (mods_mem hx.mo (List.mem_flatten.2 ⟨es, hes, he⟩)); exact h9.one) (by omega) hv).mono ?_)
  rintro e w7 ⟨rfl, v2, X2, bvs2, hv, hfl, hne2⟩
  refine ⟨_, rfl, ?_⟩
  refine wL ?_
  simp only [zP, zI, zS, zO]
  refine blk_normal ?_
  go_end0
  obtain ⟨hm1, hm2, hm3⟩ := ixm_remove hx hfi hfl hne2
  have h8 := hv
  rw [show (M.length : Int) - 1 = ((remM M (posOf X i j)).length : Int) by omega] at h8
  exact ⟨rfl, v2, X2, bvs2, _, hm1, hm2, by omega, h8⟩
 refine wpIn_skip ?_
 refine blk_normal ?_
 go_end0
 obtain rfl : ok = false := by simpa using hc6
 exact ⟨rfl, _, X, bvs, M, hx, fun k => (by split; (next h => rw [h, hx.none hfi]); rfl), by omega, hv⟩
end Go.Proofs.Ytffmbdagjpdieaa
/- What a chain has at a stamp, in plain data; what a pruned one has. -/
namespace Go.Proofs.Ytffmbdagjpdieaa
open Go.RowKit Go.Pm
def Asc (l : List Ver) : Prop := l.Pairwise (fun a b => a.stamp < b.stamp)
theorem ChainOk.asc {l : List Ver} (h : ChainOk l) : Asc l := by
 have key : ∀ (j i : Nat) (x y : Ver), i < j → l[i]? = some x → l[j]? = some y → x.stamp < y.stamp := by
  intro j
  induction j with
  | zero => intro i x y hij; omega
  | succ j ih =>
   intro i x y hij hx hy
   have hj : j < l.length := by have := (List.getElem?_eq_some_iff.1 hy).1; omega
   have h1 := (h (j + 1) y hy).2.2.2 j l[j] rfl (List.getElem?_eq_getElem hj)
   rcases Nat.lt_or_ge i j with h2 | h2
   ·have := ih i x l[j] h2 hx (List.getElem?_eq_getElem hj)
    omega
   obtain rfl : i = j := by omega
   rw [List.getElem?_eq_getElem hj] at hx
   cases hx
   exact h1
 unfold Asc
 rw [List.pairwise_iff_getElem]
 intro i j hi hj hij
 exact key j i _ _ hij (List.getElem?_eq_getElem hi) (List.getElem?_eq_getElem hj)
theorem filt0 {p : Ver → Bool} {l : List Ver} (h : ∀ x ∈ l, p x = false) : l.filter p = [] := List.filter_eq_nil_iff.2 fun x hx => by rw [h x hx]; simp
theorem filtA {p : Ver → Bool} {l : List Ver} (h : ∀ x ∈ l, p x = true) : l.filter p = l := List.filter_eq_self.2 h
def uptoL (l : List Ver) (s : Int) : List Ver := l.filter fun x => decide (x.stamp ≤ s)
theorem uptoL_eq {l : List Ver} {s : Int} {i : Nat} (ha : Asc l) (h : UptoI l s i) : uptoL l s = l.take i ∧ (∀ x ∈ l.drop i, s < x.stamp) ∧ ∀ x ∈ l.take i, x.stamp ≤ s := by
 have hd : ∀ x ∈ l.drop i, s < x.stamp := by
  rcases Nat.lt_or_ge i l.length with hi | hi
  ·intro x hx
   have h1 := h.2.1 l[i] (List.getElem?_eq_getElem hi)
   unfold Asc at ha
   rw [← List.take_append_drop i l, List.drop_eq_getElem_cons hi, List.pairwise_append] at ha
   rw [List.drop_eq_getElem_cons hi] at hx
   rcases List.mem_cons.1 hx with rfl | hx
   ·exact h1
   have := (List.pairwise_cons.1 ha.2.1).1 x hx; omega
  rw [List.drop_of_length_le hi]
  intro x hx; cases hx
 have ht : ∀ x ∈ l.take i, x.stamp ≤ s := by
  intro x hx
  cases i with
  | zero => simp at hx
  | succ j =>
   have hj : j < l.length := by have := h.1; omega
   have h1 := h.2.2 j l[j] rfl (List.getElem?_eq_getElem hj)
   rw [take_next (List.getElem?_eq_getElem hj)] at hx
   rcases List.mem_append.1 hx with hx | hx
   ·unfold Asc at ha
    rw [← List.take_append_drop j l, List.drop_eq_getElem_cons hj, List.pairwise_append] at ha
    have := ha.2.2 x hx l[j] List.mem_cons_self
    omega
   rw [List.mem_singleton.1 hx]; exact h1
 refine ⟨?_, hd, ht⟩
 unfold uptoL
 conv => lhs; rw [← List.take_append_drop i l]
 rw [List.filter_append, List.filter_eq_self.2 (fun x hx => by simpa using ht x hx), List.filter_eq_nil_iff.2 (fun x hx => by have := hd x hx; simp; omega), List.append_nil]
def readV (l : List Ver) (s c : Int) : Option Ver := (uptoL l s).getLast?.filter fun x => aliveB x c
theorem take_last {l : List Ver} {j : Nat} {x : Ver} (h : l[j]? = some x) : (l.take (j + 1)).getLast? = some x := by
 rw [take_next h]; simp
theorem readV_of {l : List Ver} {s c : Int} {x : Ver} {ok : Bool} (ha : Asc l) (h : ReadI l s c x ok) : (ok = true ∧ readV l s c = some x) ∨ (ok = false ∧ readV l s c = none) := by
 unfold readV
 rcases h with ⟨rfl, h1, h2⟩ | ⟨rfl, -, y, b, h2, h3⟩
 ·refine .inl ⟨rfl, ?_⟩
  rcases h2 with ⟨h4, -⟩ | ⟨-, j, hj, h4⟩
  ·cases h4
  rw [(uptoL_eq ha h4).1, take_last hj]
  simp [Option.filter, h1]
 refine .inr ⟨rfl, ?_⟩
 rcases h2 with ⟨-, -, h4⟩ | ⟨rfl, j, hj, h4⟩
 ·rw [(uptoL_eq ha h4).1]; rfl
 rw [(uptoL_eq ha h4).1, take_last hj]
 simp [Option.filter, h3 rfl]
theorem readV_some {l : List Ver} {s c : Int} {x : Ver} (h : readV l s c = some x) : x ∈ l ∧ x.stamp ≤ s ∧ aliveB x c = true := by
 unfold readV at h
 rw [Option.filter_eq_some_iff] at h
 have h1 := List.mem_of_getLast? h.1
 unfold uptoL at h1
 rw [List.mem_filter] at h1
 exact ⟨h1.1, by simpa using h1.2, h.2⟩
theorem alive_later {x : Ver} {c d : Int} (h : c ≤ d) (ha : aliveB x c = false) : aliveB x d = false := by
 unfold aliveB at ha ⊢
 cases hg : x.gone with
 | true => rfl
 | false =>
  rw [hg] at ha
  simp at ha ⊢
  omega
def pruneC (l : List Ver) (mark c : Int) : List Ver := (match readV l mark c with | some x => [x] | none => []) ++ l.filter fun x => decide (mark < x.stamp)
theorem filter_gt {l : List Ver} {s : Int} {i : Nat} (ha : Asc l) (h : UptoI l s i) : (l.filter fun x => decide (s < x.stamp)) = l.drop i := by
 obtain ⟨-, hd, ht⟩ := uptoL_eq ha h
 conv => lhs; rw [← List.take_append_drop i l]
 rw [List.filter_append, List.filter_eq_nil_iff.2 (fun x hx => by have := ht x hx; simp; omega), List.filter_eq_self.2 (fun x hx => by simpa using hd x hx), List.nil_append]
def PruneN (l : List Ver) (mark c : Int) (n : Nat) : Prop := ∃ i, UptoI l mark i ∧ ((∃ x, i = n + 1 ∧ l[n]? = some x ∧ aliveB x c = true) ∨ (i = n ∧ ∀ k x, i = k + 1 → l[k]? = some x → aliveB x c = false))
theorem pruneC_of {l : List Ver} {mark c : Int} {n : Nat} (ha : Asc l) (h : PruneN l mark c n) : l.drop n = pruneC l mark c := by
 obtain ⟨i, hu, h⟩ := h
 unfold pruneC readV
 rw [filter_gt ha hu, (uptoL_eq ha hu).1]
 rcases h with ⟨x, rfl, hx, hal⟩ | ⟨rfl, hno⟩
 ·rw [take_last hx]
  obtain ⟨hn, rfl⟩ := List.getElem?_eq_some_iff.1 hx
  simp only [Option.filter, hal, if_true]
  rw [List.drop_eq_getElem_cons hn]; rfl
 cases i with
 | zero => rfl
 | succ k =>
  have hk : k < l.length := by have := hu.1; omega
  have h1 := hno k l[k] rfl (List.getElem?_eq_getElem hk)
  rw [take_last (List.getElem?_eq_getElem hk)]
  simp [Option.filter, h1]
theorem PruneN.le {l : List Ver} {mark c : Int} {n : Nat} (h : PruneN l mark c n) : n ≤ l.length := by
 obtain ⟨i, hu, h⟩ := h
 have := hu.1
 rcases h with ⟨x, rfl, hx, -⟩ | ⟨rfl, -⟩ <;> omega
theorem getLast_append_or {l r : List Ver} : (l ++ r).getLast? = (r.getLast?).or l.getLast? := by
 cases h : r.getLast? with
 | none => rw [List.getLast?_eq_none_iff] at h; subst h; simp
 | some x => rw [List.getLast?_append, h]
theorem uptoL_split {l : List Ver} (ha : Asc l) {mark at_ : Int} (h : mark ≤ at_) : uptoL l at_ = uptoL l mark ++ uptoL (l.filter fun x => decide (mark < x.stamp)) at_ := by
 induction l with
 | nil => rfl
 | cons x l ih =>
  obtain ⟨h1, h2⟩ := List.pairwise_cons.1 ha
  have ih := ih h2
  unfold uptoL at ih ⊢
  by_cases hm : x.stamp ≤ mark
  ·have h4 : decide (mark < x.stamp) = false := by simp; omega
   rw [List.filter_cons_of_pos (by simp; omega), List.filter_cons_of_pos (by simpa using hm), List.filter_cons, h4, ih]; rfl
  have h3 : ∀ y ∈ x :: l, mark < y.stamp := fun y hy => by
   rcases List.mem_cons.1 hy with rfl | hy
   ·omega
   have := h1 y hy; omega
  rw [filt0 (p := fun y => decide (y.stamp ≤ mark)) (fun y hy => by have := h3 y hy; simp; omega), List.nil_append, filtA (p := fun y => decide (mark < y.stamp)) (fun y hy => by simpa using h3 y hy)]
theorem readV_prune {l : List Ver} (ha : Asc l) {mark c at_ d : Int} (h1 : mark ≤ at_) (h2 : c ≤ d) : readV (pruneC l mark c) at_ d = readV l at_ d := by
 have hkeep : ∀ x, readV l mark c = some x → uptoL [x] at_ = [x] := fun x hx => by
  have := (readV_some hx).2.1
  unfold uptoL
  rw [List.filter_eq_self.2]
  intro y hy
  rw [List.mem_singleton.1 hy]; simp; omega
 have hr : readV (pruneC l mark c) at_ d = (((uptoL (l.filter fun x => decide (mark < x.stamp)) at_).getLast?).or (readV l mark c)).filter fun x => aliveB x d := by
  unfold readV pruneC
  cases hx : readV l mark c with
  | none =>
   have hx' : ((uptoL l mark).getLast?.filter fun x => aliveB x c) = none := hx
   rw [hx']
   simp
  | some x =>
   have hx' : ((uptoL l mark).getLast?.filter fun x => aliveB x c) = some x := hx
   rw [hx']
   have e : uptoL ([x] ++ l.filter fun x => decide (mark < x.stamp)) at_ = [x] ++ uptoL (l.filter fun x => decide (mark < x.stamp)) at_ := by
    have := hkeep x hx
    unfold uptoL at this ⊢
    rw [List.filter_append, this]
   rw [e, getLast_append_or]; rfl
 rw [hr]
 conv => rhs; unfold readV; rw [uptoL_split ha h1, getLast_append_or]
 cases hb : (uptoL (l.filter fun x => decide (mark < x.stamp)) at_).getLast? with
 | some y => rfl
 | none =>
  show Option.filter _ (readV l mark c) = Option.filter _ (uptoL l mark).getLast?
  unfold readV
  cases hy : (uptoL l mark).getLast? with
  | none => rfl
  | some y =>
   cases hc : aliveB y c with
   | true => simp [Option.filter, hc]
   | false => simp [Option.filter, hc, alive_later h2 hc]
theorem readV_dump {l : List Ver} {last c d : Int} (h2 : c ≤ d) : readV (match readV l last c with | some x => [x] | none => []) last d = readV l last d := by
 unfold readV
 cases hy : (uptoL l last).getLast? with
 | none => rfl
 | some y =>
  have hm : y ∈ l ∧ y.stamp ≤ last := by
   have h1 := List.mem_of_getLast? hy
   unfold uptoL at h1
   rw [List.mem_filter] at h1
   exact ⟨h1.1, by simpa using h1.2⟩
  cases hc : aliveB y c with
  | true =>
   have e : uptoL [y] last = [y] := by
    unfold uptoL
    rw [List.filter_eq_self.2]
    intro z hz
    rw [List.mem_singleton.1 hz]; simpa using hm.2
   simp [Option.filter, hc, e]
  | false => simp [Option.filter, hc, alive_later h2 hc, uptoL]
end Go.Proofs.Ytffmbdagjpdieaa
/- A part of a row that stays. -/
namespace Go.Pm
open Go.RowKit
theorem RdV.shift {B : Base} {H : List Res} {b off : Nat} {xs : List Value} (h : RdV B H (some ⟨b, off, none⟩) xs) (k : Nat) : RdV B H (some ⟨b, off + k, none⟩) (xs.drop k) := fun i hi => by
 rw [List.length_drop] at hi
 obtain ⟨b', off', h1, h2⟩ := h (k + i) (by omega)
 cases h1
 refine ⟨b, off + k, rfl, ?_⟩
 rw [List.getElem_drop, Nat.add_assoc]
 exact h2
theorem rdV_nil_any (B : Base) (ad : Option Addr) : RdV B [] ad [] := fun i hi => by simp at hi
theorem sliced_rdV {B : Base} {ad : Option Addr} {n c k : Nat} {xs : List Value} (size : Nat) (hr : RdV B [] ad xs) (hl : xs.length = n * size) (hn : n ≤ c) (hk : k ≤ n) (hz : 0 < size) : ∃ a2, sliced ad k n c size = .slice a2 (n - k) (c - k) ∧ RdV B [] a2 (xs.drop (k * size)) := by
 rcases Nat.lt_or_ge k n with h | h
 ·have h1 : 0 < xs.length := by rw [hl]; exact Nat.mul_pos (by omega) hz
  obtain ⟨b, off, rfl, -⟩ := hr 0 h1
  refine ⟨some ⟨b, off + k * size, none⟩, ?_, hr.shift _⟩
  unfold sliced
  rw [if_neg (by omega), Option.map_some, addr_add]
 obtain rfl : k = n := by omega
 have hd : xs.drop (k * size) = [] := List.drop_of_length_le (by omega)
 refine ⟨_, rfl, ?_⟩
 rw [hd]
 exact rdV_nil_any _ _
theorem sliced_rdW {B : Base} {R : List Res} {ad : Option Addr} {n c k : Nat} {xs : List Value} (size : Nat) (hr : RdW B R ad xs) (hl : xs.length = n * size) (hn : n ≤ c) (hk : k ≤ n) (hz : 0 < size) : ∃ a2, sliced ad k n c size = .slice a2 (n - k) (c - k) ∧ RdW B R a2 (xs.drop (k * size)) := by
 rcases Nat.lt_or_ge k n with h | h
 ·have h1 : 0 < xs.length := by rw [hl]; exact Nat.mul_pos (by omega) hz
  obtain ⟨b, off, rfl, -⟩ := hr 0 h1
  refine ⟨some ⟨b, off + k * size, none⟩, ?_, hr.drop _⟩
  unfold sliced
  rw [if_neg (by omega), Option.map_some, addr_add]
 obtain rfl : k = n := by omega
 have hd : xs.drop (k * size) = [] := List.drop_of_length_le (by omega)
 refine ⟨_, rfl, ?_⟩
 rw [hd]
 exact fun i hi => by simp at hi
end Go.Pm
/- chain.Prune. -/
namespace Go.Proofs.Ytffmbdagjpdieaa
open Go.RowKit Go.Pm
theorem s22mk38 : (Try.prog.info? 38).map (fun i => (i.zero, i.size, i.bytes)) = some (some (.agg #[.int .i64 0, .bool false, .int .i64 0, .int .i64 0, .string ⟨([] : List UInt8).toArray⟩, .slice none 0 0, .slice none 0 0, .slice none 0 0]), 8, 120) := by kernel_rfl
theorem s22el66 : Elem Try.prog 66 38 (.agg #[.int .i64 0, .bool false, .int .i64 0, .int .i64 0, .string ⟨([] : List UInt8).toArray⟩, .slice none 0 0, .slice none 0 0, .slice none 0 0]) 8 120 := elem_of Try.underlying66 s22mk38 (by rfl) (by decide)
theorem s22al38 (w : World) : (Instr.alloc 38 true (.tuple #[])).run Try.prog w = .ok (.pointer (some ⟨w.heap.size, 0, none⟩)) (w.alloc (.cells ([.int .i64 0, .bool false, .int .i64 0, .int .i64 0, .string ⟨([] : List UInt8).toArray⟩, .slice none 0 0, .slice none 0 0, .slice none 0 0] : List Value).toArray 38)) := by kernel_rfl
set_option maxHeartbeats 4000000 in
theorem chainPrune (B : Base) (H : List Res) (w : World) (ad : Option Addr) (c : Nat) (mark clock : Int) (xs : List Value) (l : List Ver) (hok : SliceOk ad l.length c) (hr : RdV B [] ad xs) (hxs : VersAt B l xs) (hm : l.length ≤ 100000) (hv : Inv B H w) :
  Calls Try.prog 34 #[.slice ad l.length c, .int .i64 mark, .int .i64 clock] w fun e w' => ∃ C v' n, B.Le C ∧ e = .returned v' ∧ PruneN l mark clock n ∧ ChainB C v' (l.drop n) ∧ Inv C H w' := by
 refine (callsIn_wide (n := 5)).1 ?_
 refine callsIn_of_wp Try.func34 rfl trivial ?_
 simp only [Try.ntmps34, List.size_toArray, List.length_cons, List.length_nil, Nat.reduceAdd, Nat.reduceSub, Array.replicate_succ, Array.replicate_zero, List.push_toArray, List.append_toArray, List.nil_append, List.cons_append]
 refine sK fun K1 hK1 => rL ?_
 refine xA (.slice none 0 0) rfl rfl rfl ?_
 refine wL ?_
 simp only [zP, zI, zS, zO]
 refine tN (hK1 _ _ ?_)
 clear hK1 K1
 refine sK fun K2 hK2 => rL ?_
 refine xM (.slice ad l.length c) rfl rfl rfl ?_
 refine xM (.int .i64 mark) rfl rfl rfl ?_
 refine xC s2callable46 rfl rfl (l := [.slice ad l.length c, .int .i64 mark]) rfl ((chainUpto B _ _ ad c mark xs l hr hxs (by omega) hv).mono ?_)
 rintro e w3 ⟨i, hu, rfl, hv⟩
 refine ⟨_, rfl, ?_⟩
 simp only [zP, zI, zS, zO]
 refine xA (.int .i64 (i : Int)) rfl rfl rfl ?_
 refine wL ?_
 simp only [zP, zI, zS, zO]
 refine tN (hK2 _ _ ?_)
 clear hK2 K2
 refine sK fun K4 hK4 => ?_
 refine sK fun K5 hK5 => rL ?_
 refine xM (.int .i64 (i : Int)) rfl rfl rfl ?_
 by_cases hb6 : (i : Int) > 0
 ·refine xG (.bool true) rfl rfl (ex_gtr (k := .i64) (m := (i : Int)) (n := 0) rfl rfl rfl (decide_eq_true hb6)) ?_
  obtain ⟨j, hij⟩ : ∃ j : Nat, i = j + 1 := ⟨i - 1, by omega⟩
  have hjl : j < l.length := by have := hu.1; omega
  obtain ⟨x, hx⟩ : ∃ x, l[j]? = some x := ⟨_, List.getElem?_eq_getElem (show j < l.length by omega)⟩
  obtain ⟨bb, bo, xp, xt, xz, had, hvalx, hrdx⟩ := VersAt.reads hxs hr hx
  subst had
  refine xM (.bool true) rfl rfl rfl ?_
  simp only [zP, zI, zS, zO]
  refine xH 2 16 true (.slice (some ⟨bb, bo, none⟩) l.length c) rfl rfl rfl rfl (ex_move rfl rfl) ?_
  refine xH 2 16 true (.int .i64 (i : Int)) rfl rfl rfl rfl (ex_move rfl rfl) ?_
  refine xH 2 16 true (.int .i64 (j : Int)) rfl rfl rfl rfl (ex_sub (m := (i : Int)) (n := 1) rfl rfl rfl (by rw [i64_in (by omega)]; omega)) ?_
  simp only [zP, zI, zS, zO]
  refine xH 2 16 true (.pointer (some ⟨bb, bo + j * 8, none⟩)) rfl rfl rfl rfl (ex_index rfl rfl rfl (run_idx (k := j) Try.underlying66 s1es66 (by omega))) ?_
  refine xH 2 16 true (.agg #[.int .i64 x.stamp, .bool x.gone, .int .i64 x.expire, .int .i64 x.val.kind, .string ⟨x.val.text.toArray⟩, xp, xt, xz]) rfl rfl rfl rfl (ex_load rfl rfl (run_loadR (cs := [.int .i64 x.stamp, .bool x.gone, .int .i64 x.expire, .int .i64 x.val.kind, .string ⟨x.val.text.toArray⟩, xp, xt, xz]) s1wd38 (Reads.mid (pre := []) (mid := [.int .i64 x.stamp, .bool x.gone, .int .i64 x.expire, .int .i64 x.val.kind, .string ⟨x.val.text.toArray⟩, xp, xt, xz]) (post := []) hrdx _ _ _ (Base.Le.refl _) no_res hv))) ?_
  refine xH 2 16 true (.int .i64 clock) rfl rfl rfl rfl (ex_move rfl rfl) ?_
  simp only [zP, zI, zS, zO]
  refine wpi_callG s15callable28 tV wideC rfl (wanted_of (j := 2) (d := 16) (b := true) rfl rfl rfl) rfl (args := #[.agg #[.int .i64 x.stamp, .bool x.gone, .int .i64 x.expire, .int .i64 x.val.kind, .string ⟨x.val.text.toArray⟩, xp, xt, xz], .int .i64 clock]) (by simp only [yA, yB, yC]; rfl) ((chainAlive B _ _ x xp xt xz clock hv).mono ?_)
  rintro e w7 ⟨rfl, hv⟩
  refine ⟨_, rfl, ?_⟩
  refine xK true (.bool (aliveB x clock)) rfl rfl rfl rfl ?_
  refine wL ?_
  simp only [zP, zI, zS, zO]
  refine tN (hK5 _ _ ?_)
  clear hK5 K5
  refine wpIn_cond_split (t := aliveB x clock) rfl (fun hc8 => ?_) (fun hc8 => ?_)
  ·refine rL ?_
   refine xM (.int .i64 (i : Int)) rfl rfl rfl ?_
   refine xG (.int .i64 (j : Int)) rfl rfl (ex_sub (m := (i : Int)) (n := 1) rfl rfl rfl (by rw [i64_in (by omega)]; omega)) ?_
   refine xA (.int .i64 (j : Int)) rfl rfl rfl ?_
   refine wL ?_
   simp only [zP, zI, zS, zO]
   refine tN (hK4 _ _ ?_)
   clear hK4 K4
   refine sK fun K9 hK9 => ?_
   have hn : PruneN l mark clock j := ⟨i, hu, .inl ⟨x, hij, hx, hc8⟩⟩
   obtain ⟨n, hne⟩ : ∃ n, n = j := ⟨_, rfl⟩
   rw [← hne] at hn
   have hnl := hn.le
   obtain ⟨l2, hl2⟩ : ∃ l2, l2 = l.drop n := ⟨_, rfl⟩
   have hl2l : l2.length = l.length - n := by rw [hl2, List.length_drop]
   clear hvalx hrdx
   obtain ⟨a2, ha2, hr2⟩ := sliced_rdV 8 hr hxs.len hok.le hnl (by decide)
   rw [← hl2l] at ha2
   have hxs2 : VersAt B l2 (xs.drop (n * 8)) := by rw [hl2]; exact hxs.drop n
   rw [hne] at ha2
   refine rL ?_
   refine xM (.slice (some ⟨bb, bo, none⟩) l.length c) rfl rfl rfl ?_
   refine xG (.int .i64 (l.length : Int)) rfl rfl (ex_len0 Try.underlying66 rfl rfl) ?_
   refine xM (.int .i64 (j : Int)) rfl rfl rfl ?_
   simp only [zP, zI, zS, zO]
   refine xG (.int .i64 ((l.length - j : Nat) : Int)) rfl rfl (ex_sub (m := (l.length : Int)) (n := (j : Int)) rfl rfl rfl (by rw [i64_in (by omega)]; omega)) ?_
   refine sl_makeRow (cap := (l.length - j : Nat)) tV (wn rfl) rfl rfl rfl s22el66 (by unfold maxLen; omega) (by omega) hv (fun b10 w11 hv => ?_)
   refine xA (.slice (some ⟨b10, 0, none⟩) 0 (l.length - j : Nat)) rfl rfl rfl ?_
   refine wL ?_
   simp only [zP, zI, zS, zO]
   refine tN (hK9 _ _ ?_)
   clear hK9 K9
   refine sK fun K12 hK12 => ?_
   refine sK fun K13 hK13 => rL ?_
   refine xM (.slice (some ⟨bb, bo, none⟩) l.length c) rfl rfl rfl ?_
   refine xM (.int .i64 (j : Int)) rfl rfl rfl ?_
   refine xG (.slice a2 l2.length (c - j)) rfl rfl (ex_slice (lo' := some (.int .i64 (j : Int))) rfl rfl (congrArg some rfl) rfl rfl ((run_fromAny Try.underlying66 s1es66 (by omega)).trans (by rw [ha2]))) ?_
   simp only [zP, zI, zS, zO]
   refine xG (.int .i64 (l2.length : Int)) rfl rfl (ex_len0 Try.underlying66 rfl rfl) ?_
   refine xM (.int .i64 0) rfl rfl rfl ?_
   refine wL ?_
   simp only [zP, zI, zS, zO]
   refine tN (hK13 _ _ ?_)
   clear hK13 K13
   refine wpIn_block ?_
   gi_loopw [8, 36] (fun x8 x36 wr => ∃ (k : Nat) (C : Base) (ra : Option Addr) (rc : Nat) (ys : List Value), x8 = .slice ra k rc ∧ x36 = .int .i64 (k : Int) ∧ B.Le C ∧ k ≤ l2.length ∧ VersAt C (l2.take k) ys ∧ Inv C (Res.row 38 8 (.slice ra k rc) k ys :: H) wr) (fun x8 x36 _ => l2.length - (intOf x36).toNat)
   case atStart => exact ⟨0, B, _, _, [], rfl, rfl, Base.Le.refl _, Nat.zero_le _, rfl, hv⟩
   case round =>
    obtain ⟨k, C, ra, rc, ys, rfl, rfl, hBC, hk, hys, hv⟩ := hrel
    refine sK fun K15 hK15 => rL ?_
    by_cases hb16 : (k : Int) < (l2.length : Int)
    ·refine xG (.bool true) rfl rfl (ex_lss (k := .i64) (m := (k : Int)) (n := (l2.length : Int)) rfl rfl rfl (decide_eq_true hb16)) ?_
     refine wL ?_
     simp only [zP, zI, zS, zO]
     refine tN (hK15 _ _ ?_)
     clear hK15 K15
     refine sK fun K17 hK17 => ?_
     refine wpIn_cond_true rfl ?_
     refine wpIn_skip ?_
     refine tN (hK17 _ _ ?_)
     clear hK17 K17
     refine sK fun K18 hK18 => ?_
     refine wpIn_block ?_
     refine sK fun K19 hK19 => ?_
     obtain ⟨y, hy⟩ : ∃ x, l2[k]? = some x := ⟨_, List.getElem?_eq_getElem (show k < l2.length by omega)⟩
     obtain ⟨b2, o2, yp, yt, yz, had, hvaly, hrdy⟩ := VersAt.reads hxs2 hr2 hy
     subst had
     refine rL ?_
     refine xG (.pointer (some ⟨b2, o2 + k * 8, none⟩)) rfl rfl (ex_index rfl rfl rfl (run_idx (k := k) Try.underlying66 s1es66 (by omega))) ?_
     refine xL (.agg #[.int .i64 y.stamp, .bool y.gone, .int .i64 y.expire, .int .i64 y.val.kind, .string ⟨y.val.text.toArray⟩, yp, yt, yz]) rfl rfl rfl (run_loadR (cs := [.int .i64 y.stamp, .bool y.gone, .int .i64 y.expire, .int .i64 y.val.kind, .string ⟨y.val.text.toArray⟩, yp, yt, yz]) s1wd38 (Reads.mid (pre := []) (mid := [.int .i64 y.stamp, .bool y.gone, .int .i64 y.expire, .int .i64 y.val.kind, .string ⟨y.val.text.toArray⟩, yp, yt, yz]) (post := []) hrdy _ _ _ hBC no_res hv)) ?_
     refine sl_alloc tV (wn rfl) rfl hv s22al38 (fun b20 w21 hv => ?_)
     simp only [zP, zI, zS, zO]
     refine sl_storeNAt 0 (new := [.int .i64 y.stamp, .bool y.gone, .int .i64 y.expire, .int .i64 y.val.kind, .string ⟨y.val.text.toArray⟩, yp, yt, yz]) (pre := []) (mid := [.int .i64 0, .bool false, .int .i64 0, .int .i64 0, .string ⟨([] : List UInt8).toArray⟩, .slice none 0 0, .slice none 0 0, .slice none 0 0]) (post := []) (L' := [.int .i64 y.stamp, .bool y.gone, .int .i64 y.expire, .int .i64 y.val.kind, .string ⟨y.val.text.toArray⟩, yp, yt, yz]) tV (wn rfl) rfl rfl rfl hv rfl s1sz38 rfl rfl rfl (one_cons rfl (one_cons rfl (one_cons rfl (one_cons rfl (one_cons rfl (one_cons hvaly.p.one (one_cons hvaly.t.one (one_cons hvaly.z.one one_nil)))))))) rfl (fun w22 hv => ?_)
     simp only [List.set_cons_zero] at hv
     refine wL ?_
     simp only [zN]
     refine tN (hK19 _ _ ?_)
     clear hK19 K19
     refine rL ?_
     refine xM (.slice ra k rc) rfl rfl rfl ?_
     refine xL (.agg #[.int .i64 y.stamp, .bool y.gone, .int .i64 y.expire, .int .i64 y.val.kind, .string ⟨y.val.text.toArray⟩, yp, yt, yz]) rfl rfl rfl (run_load_mid (pre := []) (mid := [.int .i64 y.stamp, .bool y.gone, .int .i64 y.expire, .int .i64 y.val.kind, .string ⟨y.val.text.toArray⟩, yp, yt, yz]) (post := []) s1wd38 (show Blk _ b20 ([] ++ [.int .i64 y.stamp, .bool y.gone, .int .i64 y.expire, .int .i64 y.val.kind, .string ⟨y.val.text.toArray⟩, yp, yt, yz] ++ []) _ from hv.get 0 rfl) rfl) ?_
     refine xC s2callable47 rfl rfl (l := [.agg #[.int .i64 y.stamp, .bool y.gone, .int .i64 y.expire, .int .i64 y.val.kind, .string ⟨y.val.text.toArray⟩, yp, yt, yz]]) rfl ((chainClone _ _ _ y yp yt yz (hvaly.more hBC) hv).mono ?_)
     rintro e w27 ⟨C23, p24, t25, z26, hC23, rfl, hp24, hv⟩
     refine ⟨_, rfl, ?_⟩
     simp only [zP, zI, zS, zO]
     refine sl_rowAgg (L := [.int .i64 y.stamp, .bool y.gone, .int .i64 y.expire, .int .i64 y.val.kind, .string ⟨y.val.text.toArray⟩, p24, t25, z26]) tV (wn rfl) rfl rfl hv s22el66 rfl (by decide) (fun b28 w29 hv => ?_)
     replace hv := hv.front 2 rfl
     simp only [List.eraseIdx_cons_succ, List.eraseIdx_cons_zero] at hv
     refine sl_append (news := [.int .i64 y.stamp, .bool y.gone, .int .i64 y.expire, .int .i64 y.val.kind, .string ⟨y.val.text.toArray⟩, p24, t25, z26]) tV (wn rfl) rfl rfl rfl s22el66 hv (ok_full (by omega)) rfl (rd_all (hv.get 1 rfl)) (verCells_one (v := y) hp24) (by unfold maxLen; omega) (by omega) (fun rv30 w33 hv => ?_)
     obtain ⟨ra31, rc32, rfl⟩ := row_slice hv.head
     refine xA (.slice ra31 (k + 1) rc32) rfl rfl rfl ?_
     refine wL ?_
     simp only [zP, zI, zS, zO]
     refine blk_normal ?_
     refine tN (hK18 _ _ ?_)
     clear hK18 K18
     refine rL ?_
     refine xG (.int .i64 ((k + 1 : Nat) : Int)) rfl rfl (ex_add (m := (k : Int)) (n := 1) rfl rfl rfl (by rw [i64_in (by omega)]; omega)) ?_
     refine xM (.int .i64 ((k + 1 : Nat) : Int)) rfl rfl rfl ?_
     refine wL ?_
     simp only [zP, zI, zS, zO]
     refine then_normal ?_
     go_roundw
     case rel => exact ⟨k + 1, _, _, _, _, rfl, rfl, (hBC.trans hC23), by omega, (hys.more hC23).next hy hp24, (hv.sub (List.Sublist.cons_cons _ (List.Sublist.cons _ (List.Sublist.cons _ (List.Sublist.refl _)))))⟩
     case measure => show l2.length - (((k + 1 : Nat) : Int)).toNat < l2.length - ((k : Int)).toNat; omega
    refine xG (.bool false) rfl rfl (ex_lss (k := .i64) (m := (k : Int)) (n := (l2.length : Int)) rfl rfl rfl (decide_eq_false hb16)) ?_
    refine wL ?_
    simp only [zP, zI, zS, zO]
    refine tN (hK15 _ _ ?_)
    clear hK15 K15
    refine sK fun K34 hK34 => ?_
    refine wpIn_cond_false rfl ?_
    refine wpIn_exit ?_
    refine then_exit ?_
    clear hK34 K34
    refine then_exit ?_
    refine blk_hit ?_
    refine tN (hK12 _ _ ?_)
    clear hK12 K12
    refine sK fun K35 hK35 => rL ?_
    refine xM (.slice ra k rc) rfl rfl rfl ?_
    refine xA (.slice ra k rc) rfl rfl rfl ?_
    refine wL ?_
    simp only [zP, zI, zS, zO]
    refine tN (hK35 _ _ ?_)
    clear hK35 K35
    refine wpIn_ret ?_
    refine bR rfl rfl ?_
    obtain rfl : k = l2.length := by omega
    rw [List.take_length] at hys
    obtain ⟨D, hCD, hv, hrD, hokD, -⟩ := (hv).rowBy
    exact ⟨D, _, n, hBC.trans hCD, rfl, hn, by rw [← hl2]; exact ⟨ra, rc, ys, rfl, hokD, hrD, hys.more hCD⟩, hv⟩
  refine wpIn_skip ?_
  refine tN (hK4 _ _ ?_)
  clear hK4 K4
  refine sK fun K36 hK36 => ?_
  have hn : PruneN l mark clock i := ⟨i, hu, .inr ⟨rfl, fun k y hk hy => by rw [show k = j by omega, hx] at hy; cases hy; exact hc8⟩⟩
  obtain ⟨n, hne⟩ : ∃ n, n = i := ⟨_, rfl⟩
  rw [← hne] at hn
  have hnl := hn.le
  obtain ⟨l2, hl2⟩ : ∃ l2, l2 = l.drop n := ⟨_, rfl⟩
  have hl2l : l2.length = l.length - n := by rw [hl2, List.length_drop]
  clear hvalx hrdx
  obtain ⟨a2, ha2, hr2⟩ := sliced_rdV 8 hr hxs.len hok.le hnl (by decide)
  rw [← hl2l] at ha2
  have hxs2 : VersAt B l2 (xs.drop (n * 8)) := by rw [hl2]; exact hxs.drop n
  rw [hne] at ha2
  refine rL ?_
  refine xM (.slice (some ⟨bb, bo, none⟩) l.length c) rfl rfl rfl ?_
  refine xG (.int .i64 (l.length : Int)) rfl rfl (ex_len0 Try.underlying66 rfl rfl) ?_
  refine xM (.int .i64 (i : Int)) rfl rfl rfl ?_
  simp only [zP, zI, zS, zO]
  refine xG (.int .i64 ((l.length - i : Nat) : Int)) rfl rfl (ex_sub (m := (l.length : Int)) (n := (i : Int)) rfl rfl rfl (by rw [i64_in (by omega)]; omega)) ?_
  refine sl_makeRow (cap := (l.length - i : Nat)) tV (wn rfl) rfl rfl rfl s22el66 (by unfold maxLen; omega) (by omega) hv (fun b37 w38 hv => ?_)
  refine xA (.slice (some ⟨b37, 0, none⟩) 0 (l.length - i : Nat)) rfl rfl rfl ?_
  refine wL ?_
  simp only [zP, zI, zS, zO]
  refine tN (hK36 _ _ ?_)
  clear hK36 K36
  refine sK fun K39 hK39 => ?_
  refine sK fun K40 hK40 => rL ?_
  refine xM (.slice (some ⟨bb, bo, none⟩) l.length c) rfl rfl rfl ?_
  refine xM (.int .i64 (i : Int)) rfl rfl rfl ?_
  refine xG (.slice a2 l2.length (c - i)) rfl rfl (ex_slice (lo' := some (.int .i64 (i : Int))) rfl rfl (congrArg some rfl) rfl rfl ((run_fromAny Try.underlying66 s1es66 (by omega)).trans (by rw [ha2]))) ?_
  simp only [zP, zI, zS, zO]
  refine xG (.int .i64 (l2.length : Int)) rfl rfl (ex_len0 Try.underlying66 rfl rfl) ?_
  refine xM (.int .i64 0) rfl rfl rfl ?_
  refine wL ?_
  simp only [zP, zI, zS, zO]
  refine tN (hK40 _ _ ?_)
  clear hK40 K40
  refine wpIn_block ?_
  gi_loopw [8, 36] (fun x8 x36 wr => ∃ (k : Nat) (C : Base) (ra : Option Addr) (rc : Nat) (ys : List Value), x8 = .slice ra k rc ∧ x36 = .int .i64 (k : Int) ∧ B.Le C ∧ k ≤ l2.length ∧ VersAt C (l2.take k) ys ∧ Inv C (Res.row 38 8 (.slice ra k rc) k ys :: H) wr) (fun x8 x36 _ => l2.length - (intOf x36).toNat)
  case atStart => exact ⟨0, B, _, _, [], rfl, rfl, Base.Le.refl _, Nat.zero_le _, rfl, hv⟩
  case round =>
   obtain ⟨k, C, ra, rc, ys, rfl, rfl, hBC, hk, hys, hv⟩ := hrel
   refine sK fun K42 hK42 => rL ?_
   by_cases hb43 : (k : Int) < (l2.length : Int)
   ·refine xG (.bool true) rfl rfl (ex_lss (k := .i64) (m := (k : Int)) (n := (l2.length : Int)) rfl rfl rfl (decide_eq_true hb43)) ?_
    refine wL ?_
    simp only [zP, zI, zS, zO]
    refine tN (hK42 _ _ ?_)
    clear hK42 K42
    refine sK fun K44 hK44 => ?_
    refine wpIn_cond_true rfl ?_
    refine wpIn_skip ?_
    refine tN (hK44 _ _ ?_)
    clear hK44 K44
    refine sK fun K45 hK45 => ?_
    refine wpIn_block ?_
    refine sK fun K46 hK46 => ?_
    obtain ⟨y, hy⟩ : ∃ x, l2[k]? = some x := ⟨_, List.getElem?_eq_getElem (show k < l2.length by omega)⟩
    obtain ⟨b2, o2, yp, yt, yz, had, hvaly, hrdy⟩ := VersAt.reads hxs2 hr2 hy
    subst had
    refine rL ?_
    refine xG (.pointer (some ⟨b2, o2 + k * 8, none⟩)) rfl rfl (ex_index rfl rfl rfl (run_idx (k := k) Try.underlying66 s1es66 (by omega))) ?_
    refine xL (.agg #[.int .i64 y.stamp, .bool y.gone, .int .i64 y.expire, .int .i64 y.val.kind, .string ⟨y.val.text.toArray⟩, yp, yt, yz]) rfl rfl rfl (run_loadR (cs := [.int .i64 y.stamp, .bool y.gone, .int .i64 y.expire, .int .i64 y.val.kind, .string ⟨y.val.text.toArray⟩, yp, yt, yz]) s1wd38 (Reads.mid (pre := []) (mid := [.int .i64 y.stamp, .bool y.gone, .int .i64 y.expire, .int .i64 y.val.kind, .string ⟨y.val.text.toArray⟩, yp, yt, yz]) (post := []) hrdy _ _ _ hBC no_res hv)) ?_
    refine sl_alloc tV (wn rfl) rfl hv s22al38 (fun b47 w48 hv => ?_)
    simp only [zP, zI, zS, zO]
    refine sl_storeNAt 0 (new := [.int .i64 y.stamp, .bool y.gone, .int .i64 y.expire, .int .i64 y.val.kind, .string ⟨y.val.text.toArray⟩, yp, yt, yz]) (pre := []) (mid := [.int .i64 0, .bool false, .int .i64 0, .int .i64 0, .string ⟨([] : List UInt8).toArray⟩, .slice none 0 0, .slice none 0 0, .slice none 0 0]) (post := []) (L' := [.int .i64 y.stamp, .bool y.gone, .int .i64 y.expire, .int .i64 y.val.kind, .string ⟨y.val.text.toArray⟩, yp, yt, yz]) tV (wn rfl) rfl rfl rfl hv rfl s1sz38 rfl rfl rfl (one_cons rfl (one_cons rfl (one_cons rfl (one_cons rfl (one_cons rfl (one_cons hvaly.p.one (one_cons hvaly.t.one (one_cons hvaly.z.one one_nil)))))))) rfl (fun w49 hv => ?_)
    simp only [List.set_cons_zero] at hv
    refine wL ?_
    simp only [zN]
    refine tN (hK46 _ _ ?_)
    clear hK46 K46
    refine rL ?_
    refine xM (.slice ra k rc) rfl rfl rfl ?_
    refine xL (.agg #[.int .i64 y.stamp, .bool y.gone, .int .i64 y.expire, .int .i64 y.val.kind, .string ⟨y.val.text.toArray⟩, yp, yt, yz]) rfl rfl rfl (run_load_mid (pre := []) (mid := [.int .i64 y.stamp, .bool y.gone, .int .i64 y.expire, .int .i64 y.val.kind, .string ⟨y.val.text.toArray⟩, yp, yt, yz]) (post := []) s1wd38 (show Blk _ b47 ([] ++ [.int .i64 y.stamp, .bool y.gone, .int .i64 y.expire, .int .i64 y.val.kind, .string ⟨y.val.text.toArray⟩, yp, yt, yz] ++ []) _ from hv.get 0 rfl) rfl) ?_
    refine xC s2callable47 rfl rfl (l := [.agg #[.int .i64 y.stamp, .bool y.gone, .int .i64 y.expire, .int .i64 y.val.kind, .string ⟨y.val.text.toArray⟩, yp, yt, yz]]) rfl ((chainClone _ _ _ y yp yt yz (hvaly.more hBC) hv).mono ?_)
    rintro e w54 ⟨C50, p51, t52, z53, hC50, rfl, hp51, hv⟩
    refine ⟨_, rfl, ?_⟩
    simp only [zP, zI, zS, zO]
    refine sl_rowAgg (L := [.int .i64 y.stamp, .bool y.gone, .int .i64 y.expire, .int .i64 y.val.kind, .string ⟨y.val.text.toArray⟩, p51, t52, z53]) tV (wn rfl) rfl rfl hv s22el66 rfl (by decide) (fun b55 w56 hv => ?_)
    replace hv := hv.front 2 rfl
    simp only [List.eraseIdx_cons_succ, List.eraseIdx_cons_zero] at hv
    refine sl_append (news := [.int .i64 y.stamp, .bool y.gone, .int .i64 y.expire, .int .i64 y.val.kind, .string ⟨y.val.text.toArray⟩, p51, t52, z53]) tV (wn rfl) rfl rfl rfl s22el66 hv (ok_full (by omega)) rfl (rd_all (hv.get 1 rfl)) (verCells_one (v := y) hp51) (by unfold maxLen; omega) (by omega) (fun rv57 w60 hv => ?_)
    obtain ⟨ra58, rc59, rfl⟩ := row_slice hv.head
    refine xA (.slice ra58 (k + 1) rc59) rfl rfl rfl ?_
    refine wL ?_
    simp only [zP, zI, zS, zO]
    refine blk_normal ?_
    refine tN (hK45 _ _ ?_)
    clear hK45 K45
    refine rL ?_
    refine xG (.int .i64 ((k + 1 : Nat) : Int)) rfl rfl (ex_add (m := (k : Int)) (n := 1) rfl rfl rfl (by rw [i64_in (by omega)]; omega)) ?_
    refine xM (.int .i64 ((k + 1 : Nat) : Int)) rfl rfl rfl ?_
    refine wL ?_
    simp only [zP, zI, zS, zO]
    refine then_normal ?_
    go_roundw
    case rel => exact ⟨k + 1, _, _, _, _, rfl, rfl, (hBC.trans hC50), by omega, (hys.more hC50).next hy hp51, (hv.sub (List.Sublist.cons_cons _ (List.Sublist.cons _ (List.Sublist.cons _ (List.Sublist.refl _)))))⟩
    case measure => show l2.length - (((k + 1 : Nat) : Int)).toNat < l2.length - ((k : Int)).toNat; omega
   refine xG (.bool false) rfl rfl (ex_lss (k := .i64) (m := (k : Int)) (n := (l2.length : Int)) rfl rfl rfl (decide_eq_false hb43)) ?_
   refine wL ?_
   simp only [zP, zI, zS, zO]
   refine tN (hK42 _ _ ?_)
   clear hK42 K42
   refine sK fun K61 hK61 => ?_
   refine wpIn_cond_false rfl ?_
   refine wpIn_exit ?_
   refine then_exit ?_
   clear hK61 K61
   refine then_exit ?_
   refine blk_hit ?_
   refine tN (hK39 _ _ ?_)
   clear hK39 K39
   refine sK fun K62 hK62 => rL ?_
   refine xM (.slice ra k rc) rfl rfl rfl ?_
   refine xA (.slice ra k rc) rfl rfl rfl ?_
   refine wL ?_
   simp only [zP, zI, zS, zO]
   refine tN (hK62 _ _ ?_)
   clear hK62 K62
   refine wpIn_ret ?_
   refine bR rfl rfl ?_
   obtain rfl : k = l2.length := by omega
   rw [List.take_length] at hys
   obtain ⟨D, hCD, hv, hrD, hokD, -⟩ := (hv).rowBy
   exact ⟨D, _, n, hBC.trans hCD, rfl, hn, by rw [← hl2]; exact ⟨ra, rc, ys, rfl, hokD, hrD, hys.more hCD⟩, hv⟩
 refine xG (.bool false) rfl rfl (ex_gtr (k := .i64) (m := (i : Int)) (n := 0) rfl rfl rfl (decide_eq_false hb6)) ?_
 refine xM (.bool false) rfl rfl rfl ?_
 simp only [zP, zI, zS, zO]
 refine xT 2 16 true false rfl rfl rfl rfl rfl rfl rfl (by decide) ?_
 simp only [zP, zI, zS, zO]
 refine xT 2 16 true false rfl rfl rfl rfl rfl rfl rfl (by decide) ?_
 simp only [zP, zI, zS, zO]
 refine xN 2 16 true false rfl rfl rfl (by decide) ?_
 refine xK false (.bool false) rfl rfl rfl rfl ?_
 refine wL ?_
 simp only [zP, zI, zS, zO]
 refine tN (hK5 _ _ ?_)
 clear hK5 K5
 refine wpIn_cond_false rfl ?_
 refine wpIn_skip ?_
 refine tN (hK4 _ _ ?_)
 clear hK4 K4
 refine sK fun K63 hK63 => ?_
 have hn : PruneN l mark clock i := ⟨i, hu, .inr ⟨rfl, fun k y hk hy => by omega⟩⟩
 obtain ⟨n, hne⟩ : ∃ n, n = i := ⟨_, rfl⟩
 rw [← hne] at hn
 have hnl := hn.le
 obtain ⟨l2, hl2⟩ : ∃ l2, l2 = l.drop n := ⟨_, rfl⟩
 have hl2l : l2.length = l.length - n := by rw [hl2, List.length_drop]
 obtain ⟨a2, ha2, hr2⟩ := sliced_rdV 8 hr hxs.len hok.le hnl (by decide)
 rw [← hl2l] at ha2
 have hxs2 : VersAt B l2 (xs.drop (n * 8)) := by rw [hl2]; exact hxs.drop n
 rw [hne] at ha2
 refine rL ?_
 refine xM (.slice ad l.length c) rfl rfl rfl ?_
 refine xG (.int .i64 (l.length : Int)) rfl rfl (ex_len0 Try.underlying66 rfl rfl) ?_
 refine xM (.int .i64 (i : Int)) rfl rfl rfl ?_
 simp only [zP, zI, zS, zO]
 refine xG (.int .i64 ((l.length - i : Nat) : Int)) rfl rfl (ex_sub (m := (l.length : Int)) (n := (i : Int)) rfl rfl rfl (by rw [i64_in (by omega)]; omega)) ?_
 refine sl_makeRow (cap := (l.length - i : Nat)) tV (wn rfl) rfl rfl rfl s22el66 (by unfold maxLen; omega) (by omega) hv (fun b64 w65 hv => ?_)
 refine xA (.slice (some ⟨b64, 0, none⟩) 0 (l.length - i : Nat)) rfl rfl rfl ?_
 refine wL ?_
 simp only [zP, zI, zS, zO]
 refine tN (hK63 _ _ ?_)
 clear hK63 K63
 refine sK fun K66 hK66 => ?_
 refine sK fun K67 hK67 => rL ?_
 refine xM (.slice ad l.length c) rfl rfl rfl ?_
 refine xM (.int .i64 (i : Int)) rfl rfl rfl ?_
 refine xG (.slice a2 l2.length (c - i)) rfl rfl (ex_slice (lo' := some (.int .i64 (i : Int))) rfl rfl (congrArg some rfl) rfl rfl ((run_fromAny Try.underlying66 s1es66 (by omega)).trans (by rw [ha2]))) ?_
 simp only [zP, zI, zS, zO]
 refine xG (.int .i64 (l2.length : Int)) rfl rfl (ex_len0 Try.underlying66 rfl rfl) ?_
 refine xM (.int .i64 0) rfl rfl rfl ?_
 refine wL ?_
 simp only [zP, zI, zS, zO]
 refine tN (hK67 _ _ ?_)
 clear hK67 K67
 refine wpIn_block ?_
 gi_loopw [8, 36] (fun x8 x36 wr => ∃ (k : Nat) (C : Base) (ra : Option Addr) (rc : Nat) (ys : List Value), x8 = .slice ra k rc ∧ x36 = .int .i64 (k : Int) ∧ B.Le C ∧ k ≤ l2.length ∧ VersAt C (l2.take k) ys ∧ Inv C (Res.row 38 8 (.slice ra k rc) k ys :: H) wr) (fun x8 x36 _ => l2.length - (intOf x36).toNat)
 case atStart => exact ⟨0, B, _, _, [], rfl, rfl, Base.Le.refl _, Nat.zero_le _, rfl, hv⟩
 case round =>
  obtain ⟨k, C, ra, rc, ys, rfl, rfl, hBC, hk, hys, hv⟩ := hrel
  refine sK fun K69 hK69 => rL ?_
  by_cases hb70 : (k : Int) < (l2.length : Int)
  ·refine xG (.bool true) rfl rfl (ex_lss (k := .i64) (m := (k : Int)) (n := (l2.length : Int)) rfl rfl rfl (decide_eq_true hb70)) ?_
   refine wL ?_
   simp only [zP, zI, zS, zO]
   refine tN (hK69 _ _ ?_)
   clear hK69 K69
   refine sK fun K71 hK71 => ?_
   refine wpIn_cond_true rfl ?_
   refine wpIn_skip ?_
   refine tN (hK71 _ _ ?_)
   clear hK71 K71
   refine sK fun K72 hK72 => ?_
   refine wpIn_block ?_
   refine sK fun K73 hK73 => ?_
   obtain ⟨y, hy⟩ : ∃ x, l2[k]? = some x := ⟨_, List.getElem?_eq_getElem (show k < l2.length by omega)⟩
   obtain ⟨b2, o2, yp, yt, yz, had, hvaly, hrdy⟩ := VersAt.reads hxs2 hr2 hy
   subst had
   refine rL ?_
   refine xG (.pointer (some ⟨b2, o2 + k * 8, none⟩)) rfl rfl (ex_index rfl rfl rfl (run_idx (k := k) Try.underlying66 s1es66 (by omega))) ?_
   refine xL (.agg #[.int .i64 y.stamp, .bool y.gone, .int .i64 y.expire, .int .i64 y.val.kind, .string ⟨y.val.text.toArray⟩, yp, yt, yz]) rfl rfl rfl (run_loadR (cs := [.int .i64 y.stamp, .bool y.gone, .int .i64 y.expire, .int .i64 y.val.kind, .string ⟨y.val.text.toArray⟩, yp, yt, yz]) s1wd38 (Reads.mid (pre := []) (mid := [.int .i64 y.stamp, .bool y.gone, .int .i64 y.expire, .int .i64 y.val.kind, .string ⟨y.val.text.toArray⟩, yp, yt, yz]) (post := []) hrdy _ _ _ hBC no_res hv)) ?_
   refine sl_alloc tV (wn rfl) rfl hv s22al38 (fun b74 w75 hv => ?_)
   simp only [zP, zI, zS, zO]
   refine sl_storeNAt 0 (new := [.int .i64 y.stamp, .bool y.gone, .int .i64 y.expire, .int .i64 y.val.kind, .string ⟨y.val.text.toArray⟩, yp, yt, yz]) (pre := []) (mid := [.int .i64 0, .bool false, .int .i64 0, .int .i64 0, .string ⟨([] : List UInt8).toArray⟩, .slice none 0 0, .slice none 0 0, .slice none 0 0]) (post := []) (L' := [.int .i64 y.stamp, .bool y.gone, .int .i64 y.expire, .int .i64 y.val.kind, .string ⟨y.val.text.toArray⟩, yp, yt, yz]) tV (wn rfl) rfl rfl rfl hv rfl s1sz38 rfl rfl rfl (one_cons rfl (one_cons rfl (one_cons rfl (one_cons rfl (one_cons rfl (one_cons hvaly.p.one (one_cons hvaly.t.one (one_cons hvaly.z.one one_nil)))))))) rfl (fun w76 hv => ?_)
   simp only [List.set_cons_zero] at hv
   refine wL ?_
   simp only [zN]
   refine tN (hK73 _ _ ?_)
   clear hK73 K73
   refine rL ?_
   refine xM (.slice ra k rc) rfl rfl rfl ?_
   refine xL (.agg #[.int .i64 y.stamp, .bool y.gone, .int .i64 y.expire, .int .i64 y.val.kind, .string ⟨y.val.text.toArray⟩, yp, yt, yz]) rfl rfl rfl (run_load_mid (pre := []) (mid := [.int .i64 y.stamp, .bool y.gone, .int .i64 y.expire, .int .i64 y.val.kind, .string ⟨y.val.text.toArray⟩, yp, yt, yz]) (post := []) s1wd38 (show Blk _ b74 ([] ++ [.int .i64 y.stamp, .bool y.gone, .int .i64 y.expire, .int .i64 y.val.kind, .string ⟨y.val.text.toArray⟩, yp, yt, yz] ++ []) _ from hv.get 0 rfl) rfl) ?_
   refine xC s2callable47 rfl rfl (l := [.agg #[.int .i64 y.stamp, .bool y.gone, .int .i64 y.expire, .int .i64 y.val.kind, .string ⟨y.val.text.toArray⟩, yp, yt, yz]]) rfl ((chainClone _ _ _ y yp yt yz (hvaly.more hBC) hv).mono ?_)
   rintro e w81 ⟨C77, p78, t79, z80, hC77, rfl, hp78, hv⟩
   refine ⟨_, rfl, ?_⟩
   simp only [zP, zI, zS, zO]
   refine sl_rowAgg (L := [.int .i64 y.stamp, .bool y.gone, .int .i64 y.expire, .int .i64 y.val.kind, .string ⟨y.val.text.toArray⟩, p78, t79, z80]) tV (wn rfl) rfl rfl hv s22el66 rfl (by decide) (fun b82 w83 hv => ?_)
   replace hv := hv.front 2 rfl
   simp only [List.eraseIdx_cons_succ, List.eraseIdx_cons_zero] at hv
   refine sl_append (news := [.int .i64 y.stamp, .bool y.gone, .int .i64 y.expire, .int .i64 y.val.kind, .string ⟨y.val.text.toArray⟩, p78, t79, z80]) tV (wn rfl) rfl rfl rfl s22el66 hv (ok_full (by omega)) rfl (rd_all (hv.get 1 rfl)) (verCells_one (v := y) hp78) (by unfold maxLen; omega) (by omega) (fun rv84 w87 hv => ?_)
   obtain ⟨ra85, rc86, rfl⟩ := row_slice hv.head
   refine xA (.slice ra85 (k + 1) rc86) rfl rfl rfl ?_
   refine wL ?_
   simp only [zP, zI, zS, zO]
   refine blk_normal ?_
   refine tN (hK72 _ _ ?_)
   clear hK72 K72
   refine rL ?_
   refine xG (.int .i64 ((k + 1 : Nat) : Int)) rfl rfl (ex_add (m := (k : Int)) (n := 1) rfl rfl rfl (by rw [i64_in (by omega)]; omega)) ?_
   refine xM (.int .i64 ((k + 1 : Nat) : Int)) rfl rfl rfl ?_
   refine wL ?_
   simp only [zP, zI, zS, zO]
   refine then_normal ?_
   go_roundw
   case rel => exact ⟨k + 1, _, _, _, _, rfl, rfl, (hBC.trans hC77), by omega, (hys.more hC77).next hy hp78, (hv.sub (List.Sublist.cons_cons _ (List.Sublist.cons _ (List.Sublist.cons _ (List.Sublist.refl _)))))⟩
   case measure => show l2.length - (((k + 1 : Nat) : Int)).toNat < l2.length - ((k : Int)).toNat; omega
  refine xG (.bool false) rfl rfl (ex_lss (k := .i64) (m := (k : Int)) (n := (l2.length : Int)) rfl rfl rfl (decide_eq_false hb70)) ?_
  refine wL ?_
  simp only [zP, zI, zS, zO]
  refine tN (hK69 _ _ ?_)
  clear hK69 K69
  refine sK fun K88 hK88 => ?_
  refine wpIn_cond_false rfl ?_
  refine wpIn_exit ?_
  refine then_exit ?_
  clear hK88 K88
  refine then_exit ?_
  refine blk_hit ?_
  refine tN (hK66 _ _ ?_)
  clear hK66 K66
  refine sK fun K89 hK89 => rL ?_
  refine xM (.slice ra k rc) rfl rfl rfl ?_
  refine xA (.slice ra k rc) rfl rfl rfl ?_
  refine wL ?_
  simp only [zP, zI, zS, zO]
  refine tN (hK89 _ _ ?_)
  clear hK89 K89
  refine wpIn_ret ?_
  refine bR rfl rfl ?_
  obtain rfl : k = l2.length := by omega
  rw [List.take_length] at hys
  obtain ⟨D, hCD, hv, hrD, hokD, -⟩ := (hv).rowBy
  exact ⟨D, _, n, hBC.trans hCD, rfl, hn, by rw [← hl2]; exact ⟨ra, rc, ys, rfl, hokD, hrD, hys.more hCD⟩, hv⟩
theorem chainPruneX (B : Base) (H : List Res) (w : World) (v : Value) (mark clock : Int) (l : List Ver) (h : ChainB B v l) (hm : l.length ≤ 100000) (hv : Inv B H w) : Calls Try.prog 34 #[v, .int .i64 mark, .int .i64 clock] w fun e w' => ∃ C v' n, B.Le C ∧ e = .returned v' ∧ PruneN l mark clock n ∧ ChainB C v' (l.drop n) ∧ Inv C H w' := by
 obtain ⟨ad, c, xs, rfl, hok, hr, hxs⟩ := h
 exact chainPrune B H w ad c mark clock xs l hok hr hxs hm hv
end Go.Proofs.Ytffmbdagjpdieaa
/- Scopes out of which no jump goes. -/
namespace Go.Pm
section
variable {P : Program} {Q : Exit → Act → World → Prop} {a : Act} {w : World} {n : Nat} {c : Code}
theorem wpIn_scopeW (h : c.wpIn Fence.wide n P (Exit.noGoto Q) a w) : (Code.scope c).wpIn Fence.wide n P Q a w := wpIn_wide.2 (wp_scope_straight (wpIn_wide.1 h))
theorem scope_ret (h : Q .ret a w) : Exit.noGoto Q .ret a w := h
end
section
variable {P : Program} {a : Act} {w : World} {o : Oper} {t u : TypeId} {x y : Operand}
theorem ex_beqS {p q b : Bool} (ht : P.underlying t = some .bool) (ho : o.op = .binOp .eql t x y u) (hx : a.eval x = .bool p) (hy : a.eval y = .bool q) (hb : (p == q) = b) : Ex P a o w (.bool b) w := by
 subst hb
 have he : (Op.equal t (.bool p) (.bool q)).run P w = .ok (p == q) w := run_equal_bool w t p q ht
 unfold Ex; simp [execOp, ho, hx, hy, eqGuard, binOp, he]
end
end Go.Pm
/- index.Keys. -/
namespace Go.Proofs.Ytffmbdagjpdieaa
open Go.RowKit Go.Pm
theorem find_nil {X : List (List Ent)} {i j : Nat} {ok : Bool} (h : FindI X [] i j ok) : i = 0 ∧ j = 0 := by
 have hl : ∀ a : List UInt8, Op.bytesLess a [] = false := by intro a; cases a <;> rfl
 constructor
 ·cases i with
  | zero => rfl
  | succ k =>
   exfalso
   obtain ⟨es, hes⟩ : ∃ es, X[k]? = some es := ⟨_, List.getElem?_eq_getElem (by have := h.le; omega)⟩
   obtain ⟨la, -, h2⟩ := h.lo k es rfl hes
   rw [hl] at h2; cases h2
 rcases Nat.lt_or_ge i X.length with hi | hi
 ·obtain ⟨es, hes⟩ : ∃ es, X[i]? = some es := ⟨_, List.getElem?_eq_getElem hi⟩
  obtain ⟨e, he, -, -, h3⟩ := h.at_ es hes
  cases j with
  | zero => rfl
  | succ k =>
   exfalso
   obtain ⟨f, hf⟩ : ∃ f, es[k]? = some f := ⟨_, List.getElem?_eq_getElem (by have := (List.getElem?_eq_some_iff.1 he).1; omega)⟩
   have h2 := h3 k f rfl hf
   rw [hl] at h2; cases h2
 exact (h.out (by have := h.le; omega)).1
def keyCells (l : List Ent) : List Value := textCells (l.map (·.1))
theorem keyCells_append (l r : List Ent) : keyCells (l ++ r) = keyCells l ++ keyCells r := by simp [keyCells, textCells]
theorem keyCells_next {l : List Ent} {m : Nat} {f : Ent} (pre : List Ent) (h : l[m]? = some f) : keyCells (pre ++ l.take (m + 1)) = keyCells (pre ++ l.take m) ++ [strV f.1] := by
 rw [take_next h, ← List.append_assoc, keyCells_append]; rfl
theorem flat_next {X : List (List Ent)} {i : Nat} {es : List Ent} (h : X[i]? = some es) : (X.take (i + 1)).flatten = (X.take i).flatten ++ es := by
 rw [take_next h]; simp
theorem flat_le (X : List (List Ent)) (i : Nat) : (X.take i).flatten.length ≤ X.flatten.length := by
 conv => rhs; rw [← List.take_append_drop i X, List.flatten_append, List.length_append]
 omega
theorem mods_mem0 {B : Base} {l : List Ent} {M : Model} (h : Mods B l M) {e : Ent} (he : e ∈ l) : ∃ m, m ∈ M ∧ e.1 = m.1 ∧ ChainB B e.2 m.2 := by
 obtain ⟨k, hk⟩ := List.mem_iff_getElem?.1 he
 obtain ⟨m, h1, h2, h3⟩ := h.get hk
 exact ⟨m, List.mem_of_getElem? h1, h2, h3⟩
theorem s23wd92 : Wide Try.prog 92 2 := wide_of (fun w => by kernel_rfl) (by kernel_rfl)
theorem s23al92 (w : World) : (Instr.alloc 92 true (.tuple #[])).run Try.prog w = .ok (.pointer (some ⟨w.heap.size, 0, none⟩)) (w.alloc (.cells ([.string ⟨([] : List UInt8).toArray⟩, .slice none 0 0] : List Value).toArray 92)) := by kernel_rfl
theorem s23sz92 : (Try.prog.info? 92).map (·.size) = some 2 := by kernel_rfl
theorem s23mk9 : (Try.prog.info? 9).map (fun i => (i.zero, i.size, i.bytes)) = some (some (.string ⟨([] : List UInt8).toArray⟩), 1, 16) := by kernel_rfl
theorem s23el33 : Elem Try.prog 33 9 (.string ⟨([] : List UInt8).toArray⟩) 1 16 := elem_of Try.underlying33 s23mk9 (by rfl) (by decide)
set_option maxHeartbeats 4000000 in
theorem ixKeys0 (B : Base) (H : List Res) (w : World) (p : Nat) (n : Int) (X : List (List Ent)) (ad : Option Addr) (c : Nat) (bvs : List Value) (R : List Res) (hRH : ∀ r ∈ R, r ∈ H) (hp : Reads B R p 0 [.slice ad X.length c, .int .i64 n]) (hr : RdW B R ad bvs) (hbv : BlksAt B R X bvs) (M : Model) (hx : IxM B X M) (hv : Inv B H w) :
  Calls Try.prog 31 #[.pointer (some ⟨p, 0, none⟩), .string ⟨([] : List UInt8).toArray⟩, .int .i64 0] w fun e w' => ∃ ra rc, e = .returned (.slice ra M.length rc) ∧ Inv B (Res.row 9 1 (.slice ra M.length rc) M.length (textCells (keysM M)) :: H) w' := by
 refine (callsIn_wide (n := 5)).1 ?_
 refine callsIn_of_wp Try.func31 rfl trivial ?_
 simp only [Try.ntmps31, List.size_toArray, List.length_cons, List.length_nil, Nat.reduceAdd, Nat.reduceSub, Array.replicate_succ, Array.replicate_zero, List.push_toArray, List.append_toArray, List.nil_append, List.cons_append]
 refine sK fun K1 hK1 => rL ?_
 refine xA (.slice none 0 0) rfl rfl rfl ?_
 refine wL ?_
 simp only [zP, zI, zS, zO]
 refine tN (hK1 _ _ ?_)
 clear hK1 K1
 refine wpIn_scopeW ?_
 refine sK fun K2 hK2 => rL ?_
 refine xM (.pointer (some ⟨p, 0, none⟩)) rfl rfl rfl ?_
 refine xM (.string ⟨([] : List UInt8).toArray⟩) rfl rfl rfl ?_
 refine xC s3callable42 rfl rfl (l := [.pointer (some ⟨p, 0, none⟩), .string ⟨([] : List UInt8).toArray⟩]) rfl ((ixFind B _ _ p n X ad c bvs [] R hRH hp hr hbv hx.ok hv).mono ?_)
 rintro e w3 ⟨i0, j0, ok0, hfi, rfl, hv⟩
 refine ⟨_, rfl, ?_⟩
 obtain ⟨rfl, rfl⟩ := find_nil hfi
 simp only [zP, zI, zS, zO]
 refine xM (.tuple #[.int .i64 ((0 : Nat) : Int), .int .i64 ((0 : Nat) : Int), .bool ok0]) rfl rfl rfl ?_
 refine xG (.int .i64 ((0 : Nat) : Int)) rfl rfl (ex_extract rfl rfl rfl) ?_
 refine xG (.int .i64 ((0 : Nat) : Int)) rfl rfl (ex_extract rfl rfl rfl) ?_
 simp only [zP, zI, zS, zO]
 refine xG (.bool ok0) rfl rfl (ex_extract rfl rfl rfl) ?_
 refine xA (.int .i64 ((0 : Nat) : Int)) rfl rfl rfl ?_
 refine xA (.int .i64 ((0 : Nat) : Int)) rfl rfl rfl ?_
 simp only [zP, zI, zS, zO]
 refine xA (.bool ok0) rfl rfl rfl ?_
 refine wL ?_
 simp only [zP, zI, zS, zO]
 refine tN (hK2 _ _ ?_)
 clear hK2 K2
 refine sK fun K4 hK4 => rL ?_
 refine xA (.slice none 0 0) rfl rfl rfl ?_
 refine wL ?_
 simp only [zP, zI, zS, zO]
 refine tN (hK4 _ _ ?_)
 clear hK4 K4
 refine sK fun K5 hK5 => ?_
 refine wpIn_label ?_
 refine tN (hK5 _ _ ?_)
 clear hK5 K5
 refine sK fun K6 hK6 => ?_
 refine wpIn_block ?_
 gi_loopw [7, 8, 10] (fun x7 x8 x10 wr => ∃ (i n1 : Nat) (ra : Option Addr) (rc : Nat), x7 = .int .i64 (i : Int) ∧ x8 = .int .i64 ((0 : Nat) : Int) ∧ x10 = .slice ra n1 rc ∧ i ≤ X.length ∧ n1 = (X.take i).flatten.length ∧ Inv B (Res.row 9 1 (.slice ra n1 rc) n1 (keyCells (X.take i).flatten) :: H) wr) (fun x7 x8 x10 _ => X.length - (intOf x7).toNat)
 case atStart => exact ⟨0, 0, none, 0, rfl, rfl, rfl, Nat.zero_le _, rfl, hv.rowNil 9 1⟩
 case round =>
  obtain ⟨i, n1, ra, rc, rfl, rfl, rfl, hi, hn1, hv⟩ := hrel
  have hn1b := flat_le X i
  have hfl := hx.mo.len
  have hMs := hx.sm
  have hXl := hx.ok.lenX
  refine sK fun K8 hK8 => ?_
  refine sK fun K9 hK9 => rL ?_
  refine xM (.int .i64 (i : Int)) rfl rfl rfl ?_
  refine xM (.pointer (some ⟨p, 0, none⟩)) rfl rfl rfl ?_
  refine xG (.pointer (some ⟨p, 0, none⟩)) rfl rfl (ex_nil rfl rfl) ?_
  simp only [zP, zI, zS, zO]
  refine xF (.pointer (some ⟨p, 0, none⟩)) rfl rfl rfl (s3fa81_0 _ _ _) ?_
  refine xL (.slice ad X.length c) rfl rfl rfl (run_load1 s3na79 (hp _ _ _ (Base.Le.refl _) (fun r9 hr9 => (List.mem_cons_of_mem _ (hRH r9 hr9))) hv 0 _ rfl)) ?_
  refine xG (.int .i64 (X.length : Int)) rfl rfl (ex_len0 Try.underlying79 rfl rfl) ?_
  simp only [zP, zI, zS, zO]
  by_cases hb10 : (i : Int) < (X.length : Int)
  ·refine xG (.bool true) rfl rfl (ex_lss (k := .i64) (m := (i : Int)) (n := (X.length : Int)) rfl rfl rfl (decide_eq_true hb10)) ?_
   refine wL ?_
   simp only [zP, zI, zS, zO]
   refine tN (hK9 _ _ ?_)
   clear hK9 K9
   refine wpIn_cond_true rfl ?_
   refine wpIn_skip ?_
   refine tN (hK8 _ _ ?_)
   clear hK8 K8
   refine sK fun K11 hK11 => ?_
   refine wpIn_block ?_
   refine sK fun K12 hK12 => ?_
   refine sK fun K13 hK13 => ?_
   obtain ⟨es, hes⟩ : ∃ es, X[i]? = some es := ⟨_, List.getElem?_eq_getElem (show i < X.length by omega)⟩
   have hfl2 := flat_le X (i + 1)
   rw [flat_next hes, List.length_append] at hfl2
   obtain ⟨ead, ec, hbve, hoke, hree⟩ := hbv.2 _ _ hes
   obtain ⟨bb, bo, had, hrb⟩ := row1_reads hr hbve
   subst had
   obtain ⟨a2, ha2, hre2⟩ := sliced_rdW 2 hree (entCells_len es) hoke.le (Nat.zero_le _) (by decide)
   rw [Nat.zero_mul, List.drop_zero] at hre2
   rw [Nat.sub_zero, Nat.sub_zero] at ha2
   refine rL ?_
   refine xM (.pointer (some ⟨p, 0, none⟩)) rfl rfl rfl ?_
   refine xG (.pointer (some ⟨p, 0, none⟩)) rfl rfl (ex_nil rfl rfl) ?_
   refine xF (.pointer (some ⟨p, 0, none⟩)) rfl rfl rfl (s3fa81_0 _ _ _) ?_
   simp only [zP, zI, zS, zO]
   refine xL (.slice (some ⟨bb, bo, none⟩) X.length c) rfl rfl rfl (run_load1 s3na79 (hp _ _ _ (Base.Le.refl _) (fun r9 hr9 => (List.mem_cons_of_mem _ (hRH r9 hr9))) hv 0 _ rfl)) ?_
   refine xM (.int .i64 (i : Int)) rfl rfl rfl ?_
   refine xG (.pointer (some ⟨bb, bo + i, none⟩)) rfl rfl (ex_index rfl rfl rfl (run_idx1 (k := i) Try.underlying79 s3es79 (by omega))) ?_
   simp only [zP, zI, zS, zO]
   refine xL (.slice ead es.length ec) rfl rfl rfl (run_load1 s3na93 (hrb _ _ _ (Base.Le.refl _) (fun r9 hr9 => (List.mem_cons_of_mem _ (hRH r9 hr9))) hv 0 _ rfl)) ?_
   refine xM (.int .i64 ((0 : Nat) : Int)) rfl rfl rfl ?_
   refine xG (.slice a2 es.length ec) rfl rfl (ex_slice (lo' := some (.int .i64 ((0 : Nat) : Int))) rfl rfl (congrArg some rfl) rfl rfl ((run_fromAny (l := 0) Try.underlying93 s3es93 (by omega)).trans (by rw [ha2]))) ?_
   simp only [zP, zI, zS, zO]
   refine xG (.int .i64 (es.length : Int)) rfl rfl (ex_len0 Try.underlying93 rfl rfl) ?_
   refine xM (.int .i64 0) rfl rfl rfl ?_
   refine wL ?_
   simp only [zP, zI, zS, zO]
   refine tN (hK13 _ _ ?_)
   clear hK13 K13
   refine wpIn_block ?_
   gi_loopw [39, 10] (fun x39 x10 wr => ∃ (m : Nat) (ra : Option Addr) (rc : Nat), x39 = .int .i64 (m : Int) ∧ x10 = .slice ra (n1 + m) rc ∧ m ≤ es.length ∧ Inv B (Res.row 9 1 (.slice ra (n1 + m) rc) (n1 + m) (keyCells ((X.take i).flatten ++ es.take m)) :: H) wr) (fun x39 x10 _ => es.length - (intOf x39).toNat)
   case atStart => exact ⟨0, _, _, rfl, rfl, Nat.zero_le _, by rw [List.take_zero, List.append_nil]; exact hv⟩
   case round =>
    obtain ⟨m, ra, rc, rfl, rfl, hm, hv⟩ := hrel
    refine sK fun K15 hK15 => rL ?_
    by_cases hb16 : (m : Int) < (es.length : Int)
    ·refine xG (.bool true) rfl rfl (ex_lss (k := .i64) (m := (m : Int)) (n := (es.length : Int)) rfl rfl rfl (decide_eq_true hb16)) ?_
     refine wL ?_
     simp only [zP, zI, zS, zO]
     refine tN (hK15 _ _ ?_)
     clear hK15 K15
     refine sK fun K17 hK17 => ?_
     refine wpIn_cond_true rfl ?_
     refine wpIn_skip ?_
     refine tN (hK17 _ _ ?_)
     clear hK17 K17
     refine sK fun K18 hK18 => ?_
     refine wpIn_block ?_
     refine sK fun K19 hK19 => ?_
     obtain ⟨f, hf⟩ : ∃ f, es[m]? = some f := ⟨_, List.getElem?_eq_getElem (show m < es.length by omega)⟩
     obtain ⟨eb, eo, had2, hrdb⟩ := ent_reads hre2 hf
     subst had2
     obtain ⟨mm, -, -, hch⟩ := mods_mem0 hx.mo (List.mem_flatten.2 ⟨es, List.mem_of_getElem? hes, List.mem_of_getElem? hf⟩)
     refine rL ?_
     refine xG (.pointer (some ⟨eb, eo + m * 2, none⟩)) rfl rfl (ex_index rfl rfl rfl (run_idx (k := m) Try.underlying93 s3es93 (by omega))) ?_
     refine xL (.agg #[.string ⟨f.1.toArray⟩, f.2]) rfl rfl rfl (run_loadR (cs := [.string ⟨f.1.toArray⟩, f.2]) s23wd92 (Reads.mid (pre := []) (mid := [.string ⟨f.1.toArray⟩, f.2]) (post := []) hrdb _ _ _ (Base.Le.refl _) (fun r9 hr9 => (List.mem_cons_of_mem _ (hRH r9 hr9))) hv)) ?_
     refine sl_alloc tV (wn rfl) rfl hv s23al92 (fun b20 w21 hv => ?_)
     simp only [zP, zI, zS, zO]
     refine sl_storeNAt 0 (new := [.string ⟨f.1.toArray⟩, f.2]) (pre := []) (mid := [.string ⟨([] : List UInt8).toArray⟩, .slice none 0 0]) (post := []) (L' := [.string ⟨f.1.toArray⟩, f.2]) tV (wn rfl) rfl rfl rfl hv rfl s23sz92 rfl rfl rfl (one_cons rfl (one_cons hch.one one_nil)) rfl (fun w22 hv => ?_)
     simp only [List.set_cons_zero] at hv
     refine wL ?_
     simp only [zN]
     refine tN (hK19 _ _ ?_)
     clear hK19 K19
     refine sK fun K23 hK23 => ?_
     refine sK fun K24 hK24 => rL ?_
     refine xM (.int .i64 0) rfl rfl rfl ?_
     refine xG (.bool false) rfl rfl (ex_geq (k := .i64) (m := 0) (n := 1) rfl rfl rfl (by decide)) ?_
     refine xM (.bool false) rfl rfl rfl ?_
     simp only [zP, zI, zS, zO]
     refine xT 2 45 true false rfl rfl rfl rfl rfl rfl rfl (by decide) ?_
     simp only [zP, zI, zS, zO]
     refine xN 2 45 true false rfl rfl rfl (by decide) ?_
     refine xK false (.bool false) rfl rfl rfl rfl ?_
     refine wL ?_
     simp only [zP, zI, zS, zO]
     refine tN (hK24 _ _ ?_)
     clear hK24 K24
     refine wpIn_cond_false rfl ?_
     refine wpIn_skip ?_
     refine tN (hK23 _ _ ?_)
     clear hK23 K23
     refine rL ?_
     refine xM (.slice ra (n1 + m) rc) rfl rfl rfl ?_
     refine xF (.pointer (some ⟨b20, 0, none⟩)) rfl rfl rfl (s3fa92_0 _ _ _) ?_
     refine xL (.string ⟨f.1.toArray⟩) rfl rfl rfl (run_load1 s3na9 (hv.load 0 0 rfl rfl)) ?_
     simp only [zP, zI, zS, zO]
     refine sl_rowOne (v := .string ⟨f.1.toArray⟩) tV (wn rfl) rfl rfl hv s23el33 rfl (fun b25 w26 hv => ?_)
     replace hv := hv.front 2 rfl
     simp only [List.eraseIdx_cons_succ, List.eraseIdx_cons_zero] at hv
     refine sl_append (news := [.string ⟨f.1.toArray⟩]) tV (wn rfl) rfl rfl rfl s23el33 hv (ok_full (by omega)) rfl (rd_all (hv.get 1 rfl)) (by intro u hu; simp only [List.mem_cons, List.not_mem_nil, or_false] at hu; rcases hu with rfl <;> rfl) (by unfold maxLen; omega) (by omega) (fun rv27 w30 hv => ?_)
     obtain ⟨ra28, rc29, rfl⟩ := row_slice hv.head
     refine xA (.slice ra28 ((n1 + m) + 1) rc29) rfl rfl rfl ?_
     refine wL ?_
     simp only [zP, zI, zS, zO]
     refine blk_normal ?_
     refine tN (hK18 _ _ ?_)
     clear hK18 K18
     refine rL ?_
     refine xG (.int .i64 ((m + 1 : Nat) : Int)) rfl rfl (ex_add (m := (m : Int)) (n := 1) rfl rfl rfl (by rw [i64_in (by omega)]; omega)) ?_
     refine xM (.int .i64 ((m + 1 : Nat) : Int)) rfl rfl rfl ?_
     refine wL ?_
     simp only [zP, zI, zS, zO]
     refine then_normal ?_
     go_roundw
     case rel => exact ⟨m + 1, _, _, rfl, rfl, by omega, by rw [keyCells_next _ hf]; exact (hv.sub (List.Sublist.cons_cons _ (List.Sublist.cons _ (List.Sublist.cons _ (List.Sublist.refl _)))))⟩
     case measure => show es.length - (((m + 1 : Nat) : Int)).toNat < es.length - ((m : Int)).toNat; omega
    refine xG (.bool false) rfl rfl (ex_lss (k := .i64) (m := (m : Int)) (n := (es.length : Int)) rfl rfl rfl (decide_eq_false hb16)) ?_
    refine wL ?_
    simp only [zP, zI, zS, zO]
    refine tN (hK15 _ _ ?_)
    clear hK15 K15
    refine sK fun K31 hK31 => ?_
    refine wpIn_cond_false rfl ?_
    refine wpIn_exit ?_
    refine then_exit ?_
    clear hK31 K31
    refine then_exit ?_
    refine blk_hit ?_
    refine tN (hK12 _ _ ?_)
    clear hK12 K12
    obtain rfl : m = es.length := by omega
    rw [List.take_length] at hv
    refine rL ?_
    refine xA (.int .i64 0) rfl rfl rfl ?_
    refine wL ?_
    simp only [zP, zI, zS, zO]
    refine blk_normal ?_
    refine tN (hK11 _ _ ?_)
    clear hK11 K11
    refine rL ?_
    refine xM (.int .i64 (i : Int)) rfl rfl rfl ?_
    refine xG (.int .i64 ((i + 1 : Nat) : Int)) rfl rfl (ex_add (m := (i : Int)) (n := 1) rfl rfl rfl (by rw [i64_in (by omega)]; omega)) ?_
    refine xA (.int .i64 ((i + 1 : Nat) : Int)) rfl rfl rfl ?_
    refine wL ?_
    simp only [zP, zI, zS, zO]
    refine then_normal ?_
    go_roundw
    case rel => exact ⟨i + 1, n1 + es.length, _, _, rfl, rfl, rfl, by omega, by rw [flat_next hes, List.length_append, hn1], by rw [flat_next hes]; exact hv⟩
    case measure => show X.length - (((i + 1 : Nat) : Int)).toNat < X.length - ((i : Int)).toNat; omega
  refine xG (.bool false) rfl rfl (ex_lss (k := .i64) (m := (i : Int)) (n := (X.length : Int)) rfl rfl rfl (decide_eq_false hb10)) ?_
  refine wL ?_
  simp only [zP, zI, zS, zO]
  refine tN (hK9 _ _ ?_)
  clear hK9 K9
  refine wpIn_cond_false rfl ?_
  refine wpIn_exit ?_
  refine then_exit ?_
  clear hK8 K8
  refine then_exit ?_
  refine blk_hit ?_
  refine tN (hK6 _ _ ?_)
  clear hK6 K6
  refine sK fun K32 hK32 => rL ?_
  refine xM (.slice ra n1 rc) rfl rfl rfl ?_
  refine xA (.slice ra n1 rc) rfl rfl rfl ?_
  refine wL ?_
  simp only [zP, zI, zS, zO]
  refine tN (hK32 _ _ ?_)
  clear hK32 K32
  refine wpIn_ret ?_
  refine scope_ret ?_
  refine bR rfl rfl ?_
  obtain rfl : i = X.length := by omega
  rw [List.take_length] at hv hn1
  have hk : keyCells X.flatten = textCells (keysM M) := by unfold keyCells; rw [hx.mo.keysEq]
  obtain rfl : n1 = M.length := by omega
  rw [hk] at hv
  exact ⟨_, _, rfl, hv⟩
theorem ixKeys (B : Base) (H : List Res) (w : World) (p : Nat) (v : Value) (X : List (List Ent)) (bvs : List Value) (M : Model) (hx : IxM B X M) (hv : Inv B (ixS 81 93 92 p v (M.length : Int) X bvs :: H) w) : Calls Try.prog 31 #[.pointer (some ⟨p, 0, none⟩), .string ⟨([] : List UInt8).toArray⟩, .int .i64 0] w fun e w' => ∃ ra rc, e = .returned (.slice ra M.length rc) ∧ Inv B (Res.row 9 1 (.slice ra M.length rc) M.length (textCells (keysM M)) :: ixS 81 93 92 p v (M.length : Int) X bvs :: H) w' := by
 obtain ⟨ad, c, rfl, hok0, hp, hr, hbv⟩ := ixS_facts hv List.mem_cons_self
 exact ixKeys0 B _ w p _ X ad c bvs _ (fun r hr => by rw [List.mem_singleton.1 hr]; exact List.mem_cons_self) hp hr hbv M hx hv
end Go.Proofs.Ytffmbdagjpdieaa
/- A model pruned key by key; the keys that have something; what a dump holds. -/
namespace Go.Proofs.Ytffmbdagjpdieaa
open Go.RowKit Go.Pm
theorem len_le {B C : Base} {X Y : List (List Ent)} {M M' : Model} (h : IxM B X M) (h' : IxM C Y M') (hs : ∀ k, getM M' k ≠ [] → getM M k ≠ []) : M'.length ≤ M.length := by
 have e : keysM M' = (keysM M).filter fun k => decide (k ∈ keysM M') := by
  refine sorted_ext h'.sorted (List.Pairwise.filter _ h.sorted) (fun k => ?_)
  rw [List.mem_filter, decide_eq_true_iff]
  constructor
  ·intro hk
   exact ⟨(keysM_mem h k).2 (hs k ((keysM_mem h' k).1 hk)), hk⟩
  exact fun hk => hk.2
 have h1 := List.length_filter_le (fun k => decide (k ∈ keysM M')) (keysM M)
 rw [← e, List.length_map, List.length_map] at h1
 exact h1
theorem one_model {B : Base} {X : List (List Ent)} {M : Model} (h : IxM B X M) {a : List UInt8} {c : List Ver} (ha : getM M a = c) (hc : c ≠ []) (hr : ∀ k, k ≠ a → getM M k = []) : M = [(a, c)] := by
 have hs1 : SortedT (keysM [(a, c)]) := List.pairwise_singleton _ _
 refine model_ext (sorted_ext h.sorted hs1 (fun k => ?_)) h.sorted hs1 (fun k => ?_)
 ·rw [keysM_mem h]
  constructor
  ·intro hk
   refine List.mem_singleton.2 (Classical.byContradiction fun e => hk (hr k e))
  intro hk
  rw [List.mem_singleton.1 hk]
  show getM M a ≠ []
  rw [ha]; exact hc
 by_cases e : k = a
 ·subst e
  rw [ha, getM_cons_self]
 rw [hr k e, getM_cons_ne (fun h => e h.symm)]; rfl
theorem getM_out {M : Model} {k : List UInt8} (h : k ∉ keysM M) : getM M k = [] := getM_none fun m hm e => h (List.mem_map.2 ⟨m, hm, e⟩)
def AscM (M : Model) : Prop := ∀ k, Asc (getM M k)
theorem ascM_of {M : Model} (h : ∀ m ∈ M, Asc m.2) : AscM M := fun k => by
 by_cases hk : getM M k = []
 ·rw [hk]; exact List.Pairwise.nil
 exact h _ (getM_mem hk)
theorem key_at {M : Model} {i : Nat} {m : List UInt8 × List Ver} (h : M[i]? = some m) : (keysM M)[i]? = some m.1 := by rw [keysM, List.getElem?_map, h]; rfl
theorem key_new {M : Model} (hs : SortedT (keysM M)) {i : Nat} {m : List UInt8 × List Ver} (h : M[i]? = some m) : m.1 ∉ keysM (M.take i) := by
 intro hm
 obtain ⟨q, hq, e⟩ := List.mem_map.1 hm
 unfold SortedT keysM at hs
 rw [split_at h, List.map_append, List.map_cons, List.pairwise_append] at hs
 exact lt_ne (hs.2.2 q.1 (List.mem_map.2 ⟨q, hq, rfl⟩) m.1 List.mem_cons_self) e
def PrI (M M' : Model) (mark c : Int) (i : Nat) : Prop := ∀ k, getM M' k = if k ∈ keysM (M.take i) then pruneC (getM M k) mark c else getM M k
section
variable {M M' M2 : Model} {mark c : Int} {i : Nat} {m : List UInt8 × List Ver}
theorem PrI.zero : PrI M M mark c 0 := fun k => by rw [List.take_zero]; rfl
theorem PrI.old (h : PrI M M' mark c i) (hs : SortedT (keysM M)) (hm : M[i]? = some m) : getM M' m.1 = m.2 := by
 rw [h, if_neg (key_new hs hm), getM_at hs (List.mem_of_getElem? hm)]
theorem PrI.next (h : PrI M M' mark c i) (hs : SortedT (keysM M)) (hm : M[i]? = some m) (hg : ∀ k, getM M2 k = if k = m.1 then pruneC m.2 mark c else getM M' k) : PrI M M2 mark c (i + 1) := by
 intro k
 rw [hg, take_next hm, keysM, List.map_append]
 by_cases e : k = m.1
 ·rw [if_pos e, if_pos (by rw [e]; simp), e, getM_at hs (List.mem_of_getElem? hm)]
 rw [if_neg e, h]
 have : (k ∈ (M.take i).map (·.1) ++ [m].map (·.1)) ↔ k ∈ keysM (M.take i) := by
  rw [List.mem_append]
  constructor
  ·rintro (h1 | h1)
   ·exact h1
   exact absurd (List.mem_singleton.1 h1) e
  exact .inl
 by_cases h2 : k ∈ keysM (M.take i)
 ·rw [if_pos h2, if_pos (this.2 h2)]
 rw [if_neg h2, if_neg (fun h3 => h2 (this.1 h3))]
theorem PrI.same (h : PrI M M' mark c i) (hs : SortedT (keysM M)) (hm : M[i]? = some m) (he : pruneC m.2 mark c = m.2) : PrI M M' mark c (i + 1) := by
 refine h.next hs hm fun k => ?_
 by_cases e : k = m.1
 ·rw [if_pos e, he, e, h.old hs hm]
 rw [if_neg e]
theorem PrI.done (h : PrI M M' mark c M.length) (k : List UInt8) : getM M' k = pruneC (getM M k) mark c := by
 rw [h, List.take_length]
 by_cases hk : k ∈ keysM M
 ·rw [if_pos hk]
 rw [if_neg hk, getM_out hk]; rfl
theorem PrI.sub (h : PrI M M' mark c i) (k : List UInt8) (hk : getM M' k ≠ []) : getM M k ≠ [] := by
 intro e
 rw [h, e] at hk
 split at hk <;> exact hk rfl
def goneN (M : Model) (mark c : Int) : Nat := (M.map fun m => m.2.length - (pruneC m.2 mark c).length).sum
theorem goneN_next (hm : M[i]? = some m) : goneN (M.take (i + 1)) mark c = goneN (M.take i) mark c + (m.2.length - (pruneC m.2 mark c).length) := by
 unfold goneN
 rw [take_next hm, List.map_append, List.sum_append]
 simp
end
theorem drop_same {α : Type} {l : List α} {n : Nat} (h : ¬ (l.drop n).length < l.length) : l.drop n = l := by
 rw [List.length_drop] at h
 rcases Nat.eq_zero_or_pos l.length with h1 | h1
 ·rw [List.eq_nil_of_length_eq_zero h1]; simp
 rw [show n = 0 by omega, List.drop_zero]
def namesM (M : Model) (s c : Int) : List (List UInt8) := (keysM M).filter fun k => (readV (getM M k) s c).isSome
theorem namesM_sorted {M : Model} (h : SortedT (keysM M)) (s c : Int) : SortedT (namesM M s c) := List.Pairwise.filter _ h
theorem namesM_mem {M : Model} {s c : Int} (k : List UInt8) : k ∈ namesM M s c ↔ (readV (getM M k) s c).isSome = true := by
 unfold namesM
 rw [List.mem_filter]
 constructor
 ·exact fun h => h.2
 intro h
 refine ⟨Classical.byContradiction fun hk => ?_, h⟩
 rw [getM_out hk] at h
 cases h
theorem namesM_eq {M M' : Model} (h : SortedT (keysM M)) (h' : SortedT (keysM M')) {s s' c c' : Int} (hr : ∀ k, (readV (getM M k) s c).isSome = (readV (getM M' k) s' c').isSome) : namesM M s c = namesM M' s' c' :=
 sorted_ext (namesM_sorted h s c) (namesM_sorted h' s' c') fun k => by rw [namesM_mem, namesM_mem, hr]
def dumpM (M : Model) (s c : Int) : List Wr := M.filterMap fun m => (readV m.2 s c).map fun v => ⟨m.1, v⟩
theorem dumpM_some {M : Model} {s c : Int} {i : Nat} {m : List UInt8 × List Ver} {v : Ver} (hm : M[i]? = some m) (hv : readV m.2 s c = some v) : dumpM (M.take (i + 1)) s c = dumpM (M.take i) s c ++ [⟨m.1, v⟩] := by
 unfold dumpM
 rw [take_next hm, List.filterMap_append]
 simp [hv]
theorem dumpM_none {M : Model} {s c : Int} {i : Nat} {m : List UInt8 × List Ver} (hm : M[i]? = some m) (hv : readV m.2 s c = none) : dumpM (M.take (i + 1)) s c = dumpM (M.take i) s c := by
 unfold dumpM
 rw [take_next hm, List.filterMap_append]
 simp [hv]
theorem dumpM_le (M : Model) (s c : Int) : (dumpM M s c).length ≤ M.length := List.length_filterMap_le _ _
theorem dumpM_keys {M : Model} (hs : SortedT (keysM M)) (s c : Int) : (dumpM M s c).map (·.key) = namesM M s c := by
 unfold namesM
 have key : ∀ N : Model, (∀ m ∈ N, getM M m.1 = m.2) → (dumpM N s c).map (·.key) = (keysM N).filter fun k => (readV (getM M k) s c).isSome := by
  intro N
  induction N with
  | nil => intro _; rfl
  | cons m N ih =>
   intro h
   have h1 := h m List.mem_cons_self
   have ih := ih (fun q hq => h q (List.mem_cons_of_mem _ hq))
   unfold dumpM keysM at ih ⊢
   rw [List.filterMap_cons, List.map_cons, List.filter_cons, h1]
   cases hv : readV m.2 s c with
   | none => simpa using ih
   | some v => simpa using ih
 exact key M fun m hm => getM_at hs hm
theorem dumpM_get {M : Model} (hs : SortedT (keysM M)) {s c : Int} {x : Wr} (hx : x ∈ dumpM M s c) : readV (getM M x.key) s c = some x.ver := by
 unfold dumpM at hx
 obtain ⟨m, hm, h⟩ := List.mem_filterMap.1 hx
 obtain ⟨v, hv, rfl⟩ := Option.map_eq_some_iff.1 h
 rw [getM_at hs hm]
 exact hv
end Go.Proofs.Ytffmbdagjpdieaa
/- store.Prune. -/
namespace Go.Proofs.Ytffmbdagjpdieaa
open Go.RowKit Go.Pm
theorem ixSetAny (B : Base) (H : List Res) (w : World) (p : Nat) (v : Value) (X : List (List Ent)) (bvs : List Value) (M : Model) (key : List UInt8) (cv : Value) (l : List Ver) (hx : IxM B X M) (hM : M.length < 100000) (hc : ChainB B cv l) (hl : l.length ≤ 1000) (hv : Inv B (ixS 81 93 92 p v (M.length : Int) X bvs :: H) w) :
  Calls Try.prog 25 #[.pointer (some ⟨p, 0, none⟩), .string ⟨key.toArray⟩, cv] w fun e w' => e = .returned (.tuple #[]) ∧ ∃ C v' X' bvs' M', B.Le C ∧ IxM C X' M' ∧ (∀ k, getM M' k = if k = key then l else getM M k) ∧ Inv C (ixS 81 93 92 p v' (M'.length : Int) X' bvs' :: H) w' := by
 by_cases h0 : l = []
 ·subst h0
  obtain ⟨cad, cc, cxs, rfl, -⟩ := hc
  refine (ixDel0 B H w p v X bvs M key cad cc hx hv).mono ?_
  rintro e w' ⟨he, v', X', bvs', M', h1, h2, -, h3⟩
  exact ⟨he, B, v', X', bvs', M', Base.Le.refl _, h1, h2, h3⟩
 refine (ixSet B H w p v X bvs M key cv l hx hM hc h0 hl hv).mono ?_
 rintro e w' ⟨he, C, v', X', bvs', M', h1, h2, h3, -, h4⟩
 exact ⟨he, C, v', X', bvs', M', h1, h2, h3, h4⟩
theorem s25fa60_2 (w : World) (b o : Nat) : (Instr.fieldAt 60 (.pointer (some ⟨b, o, none⟩)) 2).run Try.prog w = .ok (.pointer (some ⟨b, o + 2, none⟩)) w := by kernel_rfl
theorem s25callable31 : Callable Try.prog 31 := ⟨_, Try.func31, by kernel_rfl, by kernel_rfl⟩
theorem s25callable34 : Callable Try.prog 34 := ⟨_, Try.func34, by kernel_rfl, by kernel_rfl⟩
set_option maxHeartbeats 4000000 in
theorem storePrune (B : Base) (H : List Res) (w : World) (s p : Nat) (v : Value) (X : List (List Ent)) (bvs : List Value) (M : Model) (last mark mk clock : Int) (hx : IxM B X M) (hM : M.length ≤ 90000) (hasc : AscM M) (hv : Inv B (Res.cell s [.pointer (some ⟨p, 0, none⟩), .int .i64 last, .int .i64 mark] 60 :: ixS 81 93 92 p v (M.length : Int) X bvs :: H) w) :
  Calls Try.prog 16 #[.pointer (some ⟨s, 0, none⟩), .int .i64 mk, .int .i64 clock] w fun e w' => ∃ C n ec, B.Le C ∧ e = .returned (.tuple #[.int .i64 n, .int .i64 ec]) ∧ ((¬ (mark ≤ mk ∧ mk ≤ last) ∧ n = 0 ∧ ec = 2 ∧ Inv C (Res.cell s [.pointer (some ⟨p, 0, none⟩), .int .i64 last, .int .i64 mark] 60 :: ixS 81 93 92 p v (M.length : Int) X bvs :: H) w') ∨ ((mark ≤ mk ∧ mk ≤ last) ∧ ec = 0 ∧ n = (goneN M mk clock : Int) ∧ ∃ v' X' bvs' M', IxM C X' M' ∧ (∀ k, getM M' k = pruneC (getM M k) mk clock) ∧ Inv C (Res.cell s [.pointer (some ⟨p, 0, none⟩), .int .i64 last, .int .i64 mk] 60 :: ixS 81 93 92 p v' (M'.length : Int) X' bvs' :: H) w')) := by
 refine (callsIn_wide (n := 5)).1 ?_
 refine callsIn_of_wp Try.func16 rfl trivial ?_
 simp only [Try.ntmps16, List.size_toArray, List.length_cons, List.length_nil, Nat.reduceAdd, Nat.reduceSub, Array.replicate_succ, Array.replicate_zero, List.push_toArray, List.append_toArray, List.nil_append, List.cons_append]
 refine sK fun K1 hK1 => rL ?_
 refine xA (.int .i64 0) rfl rfl rfl ?_
 refine xA (.int .i64 0) rfl rfl rfl ?_
 refine wL ?_
 simp only [zP, zI, zS, zO]
 refine tN (hK1 _ _ ?_)
 clear hK1 K1
 refine sK fun K2 hK2 => ?_
 refine sK fun K3 hK3 => rL ?_
 refine xM (.int .i64 mk) rfl rfl rfl ?_
 refine xM (.pointer (some ⟨s, 0, none⟩)) rfl rfl rfl ?_
 refine xG (.pointer (some ⟨s, 0, none⟩)) rfl rfl (ex_nil rfl rfl) ?_
 simp only [zP, zI, zS, zO]
 refine xF (.pointer (some ⟨s, 2, none⟩)) rfl rfl rfl (s25fa60_2 _ _ _) ?_
 refine xL (.int .i64 mark) rfl rfl rfl (run_load1 s2na3 (hv.load 0 2 rfl rfl)) ?_
 by_cases hb4 : mk < mark
 ·refine xG (.bool true) rfl rfl (ex_lss (k := .i64) (m := mk) (n := mark) rfl rfl rfl (decide_eq_true hb4)) ?_
  simp only [zP, zI, zS, zO]
  refine xM (.bool true) rfl rfl rfl ?_
  refine xT 6 19 false true rfl rfl rfl rfl rfl rfl rfl (by decide) ?_
  simp only [zP, zI, zS, zO]
  refine xT 6 19 false true rfl rfl rfl rfl rfl rfl rfl (by decide) ?_
  simp only [zP, zI, zS, zO]
  refine xK true (.bool true) rfl rfl rfl rfl ?_
  refine wL ?_
  simp only [zP, zI, zS, zO]
  refine tN (hK3 _ _ ?_)
  clear hK3 K3
  refine wpIn_cond_true rfl ?_
  refine sK fun K5 hK5 => rL ?_
  refine xA (.int .i64 0) rfl rfl rfl ?_
  refine xA (.int .i64 2) rfl rfl rfl ?_
  refine wL ?_
  simp only [zP, zI, zS, zO]
  refine tN (hK5 _ _ ?_)
  clear hK5 K5
  refine wpIn_ret ?_
  refine then_ret ?_
  clear hK2 K2
  refine bodyPost_ret (results_tmp2 rfl _ _ _) rfl ?_
  exact ⟨B, 0, 2, Base.Le.refl _, rfl, .inl ⟨by omega, rfl, rfl, ((hv.front 1 rfl).front 1 rfl)⟩⟩
 refine xG (.bool false) rfl rfl (ex_lss (k := .i64) (m := mk) (n := mark) rfl rfl rfl (decide_eq_false hb4)) ?_
 simp only [zP, zI, zS, zO]
 refine xM (.bool false) rfl rfl rfl ?_
 refine xH 6 19 false (.int .i64 mk) rfl rfl rfl rfl (ex_move rfl rfl) ?_
 refine xH 6 19 false (.pointer (some ⟨s, 0, none⟩)) rfl rfl rfl rfl (ex_move rfl rfl) ?_
 simp only [zP, zI, zS, zO]
 refine xH 6 19 false (.pointer (some ⟨s, 0, none⟩)) rfl rfl rfl rfl (ex_nil rfl rfl) ?_
 refine xH 6 19 false (.pointer (some ⟨s, 1, none⟩)) rfl rfl rfl rfl (ex_field rfl rfl (s15fa60_1 _ _ _)) ?_
 refine xH 6 19 false (.int .i64 last) rfl rfl rfl rfl (ex_load rfl rfl (run_load1 s2na3 (hv.load 0 1 rfl rfl))) ?_
 simp only [zP, zI, zS, zO]
 by_cases hb6 : mk > last
 ·refine xH 6 19 false (.bool true) rfl rfl rfl rfl (ex_gtr (k := .i64) (m := mk) (n := last) rfl rfl rfl (decide_eq_true hb6)) ?_
  refine xK false (.bool true) rfl rfl rfl rfl ?_
  refine wL ?_
  simp only [zP, zI, zS, zO]
  refine tN (hK3 _ _ ?_)
  clear hK3 K3
  refine wpIn_cond_true rfl ?_
  refine sK fun K7 hK7 => rL ?_
  refine xA (.int .i64 0) rfl rfl rfl ?_
  refine xA (.int .i64 2) rfl rfl rfl ?_
  refine wL ?_
  simp only [zP, zI, zS, zO]
  refine tN (hK7 _ _ ?_)
  clear hK7 K7
  refine wpIn_ret ?_
  refine then_ret ?_
  clear hK2 K2
  refine bodyPost_ret (results_tmp2 rfl _ _ _) rfl ?_
  exact ⟨B, 0, 2, Base.Le.refl _, rfl, .inl ⟨by omega, rfl, rfl, ((hv.front 1 rfl).front 1 rfl)⟩⟩
 refine xH 6 19 false (.bool false) rfl rfl rfl rfl (ex_gtr (k := .i64) (m := mk) (n := last) rfl rfl rfl (decide_eq_false hb6)) ?_
 refine xK false (.bool false) rfl rfl rfl rfl ?_
 refine wL ?_
 simp only [zP, zI, zS, zO]
 refine tN (hK3 _ _ ?_)
 clear hK3 K3
 refine wpIn_cond_false rfl ?_
 refine wpIn_skip ?_
 refine tN (hK2 _ _ ?_)
 clear hK2 K2
 refine sK fun K8 hK8 => rL ?_
 refine xA (.int .i64 0) rfl rfl rfl ?_
 refine wL ?_
 simp only [zP, zI, zS, zO]
 refine tN (hK8 _ _ ?_)
 clear hK8 K8
 refine sK fun K9 hK9 => ?_
 refine sK fun K10 hK10 => rL ?_
 refine xM (.pointer (some ⟨s, 0, none⟩)) rfl rfl rfl ?_
 refine xG (.pointer (some ⟨s, 0, none⟩)) rfl rfl (ex_nil rfl rfl) ?_
 refine xF (.pointer (some ⟨s, 0, none⟩)) rfl rfl rfl (s15fa60_0 _ _ _) ?_
 simp only [zP, zI, zS, zO]
 refine xL (.pointer (some ⟨p, 0, none⟩)) rfl rfl rfl (run_load1 s3na57 (hv.load 0 0 rfl rfl)) ?_
 replace hv := hv.front 1 rfl
 simp only [List.eraseIdx_cons_succ, List.eraseIdx_cons_zero] at hv
 refine xC s25callable31 rfl rfl (l := [.pointer (some ⟨p, 0, none⟩), .string ⟨([] : List UInt8).toArray⟩, .int .i64 0]) rfl ((ixKeys B _ _ p v X bvs M hx hv).mono ?_)
 rintro e w11 ⟨ka, kc, rfl, hv⟩
 refine ⟨_, rfl, ?_⟩
 obtain ⟨K0, hK0, hv7, hrk, -, -⟩ := hv.rowBy
 clear hv
 have hv := hv7
 clear hv7
 refine xG (.int .i64 (M.length : Int)) rfl rfl (ex_len0 Try.underlying33 rfl rfl) ?_
 simp only [zP, zI, zS, zO]
 refine xM (.int .i64 0) rfl rfl rfl ?_
 refine wL ?_
 simp only [zP, zI, zS, zO]
 refine tN (hK10 _ _ ?_)
 clear hK10 K10
 refine wpIn_block ?_
 gi_loopw [8, 33] (fun x8 x33 wr => ∃ (i gn : Nat) (C : Base) (v' : Value) (X' : List (List Ent)) (bvs' : List Value) (M' : Model), x8 = .int .i64 (gn : Int) ∧ x33 = .int .i64 (i : Int) ∧ K0.Le C ∧ i ≤ M.length ∧ IxM C X' M' ∧ PrI M M' mk clock i ∧ gn = goneN (M.take i) mk clock ∧ gn ≤ 1000 * i ∧ Inv C (Res.cell s [.pointer (some ⟨p, 0, none⟩), .int .i64 last, .int .i64 mark] 60 :: ixS 81 93 92 p v' (M'.length : Int) X' bvs' :: H) wr) (fun x8 x33 _ => M.length - (intOf x33).toNat)
 case atStart => exact ⟨0, 0, K0, v, X, bvs, M, rfl, rfl, Base.Le.refl _, Nat.zero_le _, hx.more hK0, PrI.zero, rfl, Nat.le_refl _, (hv.front 1 rfl)⟩
 case round =>
  obtain ⟨i, gn, C, v', X', bvs', M', rfl, rfl, hKC, hi, hxm, hpr, hgn, hgb, hv⟩ := hrel
  refine sK fun K13 hK13 => rL ?_
  by_cases hb14 : (i : Int) < (M.length : Int)
  ·refine xG (.bool true) rfl rfl (ex_lss (k := .i64) (m := (i : Int)) (n := (M.length : Int)) rfl rfl rfl (decide_eq_true hb14)) ?_
   refine wL ?_
   simp only [zP, zI, zS, zO]
   refine tN (hK13 _ _ ?_)
   clear hK13 K13
   refine sK fun K15 hK15 => ?_
   refine wpIn_cond_true rfl ?_
   refine wpIn_skip ?_
   refine tN (hK15 _ _ ?_)
   clear hK15 K15
   refine sK fun K16 hK16 => ?_
   refine wpIn_block ?_
   refine sK fun K17 hK17 => ?_
   obtain ⟨m, hm⟩ : ∃ m, M[i]? = some m := ⟨_, List.getElem?_eq_getElem (show i < M.length by omega)⟩
   obtain ⟨bb, bo, had, hrd⟩ := text_reads hrk (key_at hm)
   subst had
   have hml0 := hpr.old hx.sorted hm
   have hch := hx.ch m (List.mem_of_getElem? hm)
   have hasm : Asc m.2 := by have := hasc m.1; rw [getM_at hx.sorted (List.mem_of_getElem? hm)] at this; exact this
   have hMl := len_le hx hxm hpr.sub
   refine rL ?_
   refine xG (.pointer (some ⟨bb, bo + i, none⟩)) rfl rfl (ex_index rfl rfl rfl (run_idx1 (k := i) Try.underlying33 s9es33 (by omega))) ?_
   refine xL (.string ⟨m.1.toArray⟩) rfl rfl rfl (run_load1 s3na9 (hrd _ _ _ hKC no_res hv 0 _ rfl)) ?_
   refine xA (.string ⟨m.1.toArray⟩) rfl rfl rfl ?_
   refine wL ?_
   simp only [zP, zI, zS, zO]
   refine tN (hK17 _ _ ?_)
   clear hK17 K17
   refine sK fun K18 hK18 => rL ?_
   refine xM (.pointer (some ⟨s, 0, none⟩)) rfl rfl rfl ?_
   refine xG (.pointer (some ⟨s, 0, none⟩)) rfl rfl (ex_nil rfl rfl) ?_
   refine xF (.pointer (some ⟨s, 0, none⟩)) rfl rfl rfl (s15fa60_0 _ _ _) ?_
   simp only [zP, zI, zS, zO]
   refine xL (.pointer (some ⟨p, 0, none⟩)) rfl rfl rfl (run_load1 s3na57 (hv.load 0 0 rfl rfl)) ?_
   refine xM (.string ⟨m.1.toArray⟩) rfl rfl rfl ?_
   replace hv := hv.front 1 rfl
   simp only [List.eraseIdx_cons_succ, List.eraseIdx_cons_zero] at hv
   refine xC s15callable27 rfl rfl (l := [.pointer (some ⟨p, 0, none⟩), .string ⟨m.1.toArray⟩]) rfl ((ixGetS C _ _ p v' X' bvs' M' m.1 (hxm.more (Base.Le.refl _)) hv).mono ?_)
   rintro e w19 ⟨D, q, hCD, rfl, hQ, hv⟩
   refine ⟨_, rfl, ?_⟩
   obtain ⟨l, hml⟩ : ∃ l, l = m.2 := ⟨_, rfl⟩
   rw [hml0, ← hml] at hQ
   rw [← hml] at hch hasm
   obtain ⟨qa, qc, hqe⟩ := hQ.shape
   subst hqe
   simp only [zP, zI, zS, zO]
   refine xA (.slice qa l.length qc) rfl rfl rfl ?_
   refine wL ?_
   simp only [zP, zI, zS, zO]
   refine tN (hK18 _ _ ?_)
   clear hK18 K18
   refine sK fun K20 hK20 => rL ?_
   refine xM (.slice qa l.length qc) rfl rfl rfl ?_
   refine xM (.int .i64 mk) rfl rfl rfl ?_
   refine xM (.int .i64 clock) rfl rfl rfl ?_
   simp only [zP, zI, zS, zO]
   refine xC s25callable34 rfl rfl (l := [.slice qa l.length qc, .int .i64 mk, .int .i64 clock]) rfl ((chainPruneX D _ _ _ mk clock l (hQ.more (Base.Le.refl _)) (by omega) hv).mono ?_)
   rintro e w21 ⟨E, q2, n, hDE, rfl, hpn, hQ2, hv⟩
   refine ⟨_, rfl, ?_⟩
   have hpc := pruneC_of hasm hpn
   obtain ⟨l2, hl2⟩ : ∃ l2, l2 = l.drop n := ⟨_, rfl⟩
   have hl2n : l2.length ≤ l.length := by rw [hl2, List.length_drop]; omega
   rw [← hl2] at hpc hQ2
   obtain ⟨qa2, qc2, hqe2⟩ := hQ2.shape
   subst hqe2
   refine xA (.slice qa2 l2.length qc2) rfl rfl rfl ?_
   refine wL ?_
   simp only [zP, zI, zS, zO]
   refine tN (hK20 _ _ ?_)
   clear hK20 K20
   refine sK fun K22 hK22 => rL ?_
   refine xM (.slice qa2 l2.length qc2) rfl rfl rfl ?_
   refine xG (.int .i64 (l2.length : Int)) rfl rfl (ex_len0 Try.underlying66 rfl rfl) ?_
   refine xM (.slice qa l.length qc) rfl rfl rfl ?_
   simp only [zP, zI, zS, zO]
   refine xG (.int .i64 (l.length : Int)) rfl rfl (ex_len0 Try.underlying66 rfl rfl) ?_
   by_cases hb23 : (l2.length : Int) < (l.length : Int)
   ·refine xG (.bool true) rfl rfl (ex_lss (k := .i64) (m := (l2.length : Int)) (n := (l.length : Int)) rfl rfl rfl (decide_eq_true hb23)) ?_
    refine wL ?_
    simp only [zP, zI, zS, zO]
    refine tN (hK22 _ _ ?_)
    clear hK22 K22
    refine wpIn_cond_true rfl ?_
    refine sK fun K24 hK24 => rL ?_
    refine xM (.int .i64 (gn : Int)) rfl rfl rfl ?_
    refine xM (.slice qa l.length qc) rfl rfl rfl ?_
    refine xG (.int .i64 (l.length : Int)) rfl rfl (ex_len0 Try.underlying66 rfl rfl) ?_
    simp only [zP, zI, zS, zO]
    refine xM (.slice qa2 l2.length qc2) rfl rfl rfl ?_
    refine xG (.int .i64 (l2.length : Int)) rfl rfl (ex_len0 Try.underlying66 rfl rfl) ?_
    refine xG (.int .i64 ((l.length - l2.length : Nat) : Int)) rfl rfl (ex_sub (m := (l.length : Int)) (n := (l2.length : Int)) rfl rfl rfl (by rw [i64_in (by omega)]; omega)) ?_
    simp only [zP, zI, zS, zO]
    refine xG (.int .i64 ((gn + (l.length - l2.length) : Nat) : Int)) rfl rfl (ex_add (m := (gn : Int)) (n := ((l.length - l2.length : Nat) : Int)) rfl rfl rfl (by rw [i64_in (by omega)]; omega)) ?_
    refine xA (.int .i64 ((gn + (l.length - l2.length) : Nat) : Int)) rfl rfl rfl ?_
    refine wL ?_
    simp only [zP, zI, zS, zO]
    refine tN (hK24 _ _ ?_)
    clear hK24 K24
    refine rL ?_
    refine xM (.pointer (some ⟨s, 0, none⟩)) rfl rfl rfl ?_
    refine xG (.pointer (some ⟨s, 0, none⟩)) rfl rfl (ex_nil rfl rfl) ?_
    refine xF (.pointer (some ⟨s, 0, none⟩)) rfl rfl rfl (s15fa60_0 _ _ _) ?_
    simp only [zP, zI, zS, zO]
    refine xL (.pointer (some ⟨p, 0, none⟩)) rfl rfl rfl (run_load1 s3na57 (hv.load 1 0 rfl rfl)) ?_
    refine xM (.string ⟨m.1.toArray⟩) rfl rfl rfl ?_
    refine xM (.slice qa2 l2.length qc2) rfl rfl rfl ?_
    simp only [zP, zI, zS, zO]
    refine xC s17callable25 rfl rfl (l := [.pointer (some ⟨p, 0, none⟩), .string ⟨m.1.toArray⟩, .slice qa2 l2.length qc2]) rfl ((ixSetAny E _ _ p v' X' bvs' M' m.1 _ l2 (hxm.more (hCD.trans hDE)) (by omega) (hQ2.more (Base.Le.refl _)) (by omega) hv).mono ?_)
    rintro e w25 ⟨rfl, E3, v2, X2, bvs2, M2, hA1, hA2, hA3, hv⟩
    refine ⟨_, rfl, ?_⟩
    refine wL ?_
    simp only [zP, zI, zS, zO]
    refine blk_normal ?_
    refine tN (hK16 _ _ ?_)
    clear hK16 K16
    refine rL ?_
    refine xG (.int .i64 ((i + 1 : Nat) : Int)) rfl rfl (ex_add (m := (i : Int)) (n := 1) rfl rfl rfl (by rw [i64_in (by omega)]; omega)) ?_
    refine xM (.int .i64 ((i + 1 : Nat) : Int)) rfl rfl rfl ?_
    refine wL ?_
    simp only [zP, zI, zS, zO]
    refine then_normal ?_
    go_roundw
    case rel => exact ⟨i + 1, gn + (l.length - l2.length), E3, _, _, _, M2, rfl, rfl, (((hKC.trans hCD).trans hDE).trans hA1), by omega, hA2, hpr.next hx.sorted hm (by rw [← hml, ← hpc]; exact hA3), by rw [goneN_next hm, hgn, ← hml, ← hpc], by omega, (hv.front 1 rfl)⟩
    case measure => show M.length - (((i + 1 : Nat) : Int)).toNat < M.length - ((i : Int)).toNat; omega
   refine xG (.bool false) rfl rfl (ex_lss (k := .i64) (m := (l2.length : Int)) (n := (l.length : Int)) rfl rfl rfl (decide_eq_false hb23)) ?_
   refine wL ?_
   simp only [zP, zI, zS, zO]
   refine tN (hK22 _ _ ?_)
   clear hK22 K22
   refine wpIn_cond_false rfl ?_
   refine wpIn_skip ?_
   refine blk_normal ?_
   refine tN (hK16 _ _ ?_)
   clear hK16 K16
   have hsame : l2 = l := by rw [hl2]; exact drop_same (by rw [← hl2]; omega)
   refine rL ?_
   refine xG (.int .i64 ((i + 1 : Nat) : Int)) rfl rfl (ex_add (m := (i : Int)) (n := 1) rfl rfl rfl (by rw [i64_in (by omega)]; omega)) ?_
   refine xM (.int .i64 ((i + 1 : Nat) : Int)) rfl rfl rfl ?_
   refine wL ?_
   simp only [zP, zI, zS, zO]
   refine then_normal ?_
   go_roundw
   case rel => exact ⟨i + 1, gn, _, _, _, _, M', rfl, rfl, ((hKC.trans hCD).trans hDE), by omega, hxm.more (hCD.trans hDE), hpr.same hx.sorted hm (by rw [← hml, ← hpc]; exact hsame), by rw [goneN_next hm, hgn, ← hml, ← hpc, hsame, Nat.sub_self]; rfl, by omega, (hv.front 1 rfl)⟩
   case measure => show M.length - (((i + 1 : Nat) : Int)).toNat < M.length - ((i : Int)).toNat; omega
  refine xG (.bool false) rfl rfl (ex_lss (k := .i64) (m := (i : Int)) (n := (M.length : Int)) rfl rfl rfl (decide_eq_false hb14)) ?_
  refine wL ?_
  simp only [zP, zI, zS, zO]
  refine tN (hK13 _ _ ?_)
  clear hK13 K13
  refine sK fun K26 hK26 => ?_
  refine wpIn_cond_false rfl ?_
  refine wpIn_exit ?_
  refine then_exit ?_
  clear hK26 K26
  refine then_exit ?_
  refine blk_hit ?_
  refine tN (hK9 _ _ ?_)
  clear hK9 K9
  refine sK fun K27 hK27 => rL ?_
  refine xM (.pointer (some ⟨s, 0, none⟩)) rfl rfl rfl ?_
  refine xM (.int .i64 mk) rfl rfl rfl ?_
  refine xG (.pointer (some ⟨s, 0, none⟩)) rfl rfl (ex_nil rfl rfl) ?_
  simp only [zP, zI, zS, zO]
  refine xF (.pointer (some ⟨s, 2, none⟩)) rfl rfl rfl (s25fa60_2 _ _ _) ?_
  refine sl_storeAt 0 (v := .int .i64 mk) (L' := [.pointer (some ⟨p, 0, none⟩), .int .i64 last, .int .i64 mk]) tV (wn rfl) rfl rfl rfl hv rfl s5sz3 (by simp) rfl rfl rfl (fun w28 hv => ?_)
  simp only [List.set_cons_zero] at hv
  refine wL ?_
  simp only [zP, zN, zI, zS, zO]
  refine tN (hK27 _ _ ?_)
  clear hK27 K27
  refine sK fun K29 hK29 => rL ?_
  refine xM (.int .i64 (gn : Int)) rfl rfl rfl ?_
  refine xA (.int .i64 (gn : Int)) rfl rfl rfl ?_
  refine xA (.int .i64 0) rfl rfl rfl ?_
  refine wL ?_
  simp only [zP, zI, zS, zO]
  refine tN (hK29 _ _ ?_)
  clear hK29 K29
  refine wpIn_ret ?_
  refine bodyPost_ret (results_tmp2 rfl _ _ _) rfl ?_
  obtain rfl : i = M.length := by omega
  rw [List.take_length] at hgn
  exact ⟨C, _, 0, hK0.trans hKC, rfl, .inr ⟨by omega, rfl, by rw [hgn], v', X', bvs', M', hxm, hpr.done, ((hv.front 1 rfl).front 1 rfl)⟩⟩
end Go.Proofs.Ytffmbdagjpdieaa
/- A row of texts, of which some are taken out in place. -/
namespace Go.Pm
open Go.RowKit
section
variable {kept mid l : List (List UInt8)} {j : Nat} {x g : List UInt8} {p : List UInt8 → Bool}
theorem textCells_app (a b : List (List UInt8)) : textCells (a ++ b) = textCells a ++ textCells b := by simp [textCells]
theorem textCells_get (h : l[j]? = some x) : (textCells l)[j]? = some (strV x) := by rw [textCells, List.getElem?_map, h]; rfl
theorem textCells_set (l : List (List UInt8)) (i : Nat) (x : List UInt8) : (textCells l).set i (strV x) = textCells (l.set i x) := by simp [textCells, List.map_set]
theorem textCells_n (l : List (List UInt8)) : (textCells l).length = l.length := by simp [textCells]
theorem df_get (h : l[j]? = some x) (hl : kept.length + mid.length = j) : (textCells (kept ++ mid ++ l.drop j))[j]? = some (strV x) := by
 refine textCells_get ?_
 rw [List.getElem?_append_right (by rw [List.length_append]; omega), List.length_append, hl, Nat.sub_self, List.getElem?_drop]
 exact h
theorem df_drop (h : l[j]? = some x) : l.drop j = x :: l.drop (j + 1) := by
 obtain ⟨hj, rfl⟩ := List.getElem?_eq_some_iff.1 h
 exact List.drop_eq_getElem_cons hj
theorem df_set (h : l[j]? = some x) : (textCells (kept ++ (g :: mid) ++ l.drop j)).set kept.length (strV x) = textCells (kept ++ [x] ++ (mid ++ [x]) ++ l.drop (j + 1)) := by
 rw [textCells_set, df_drop h, List.append_assoc, List.set_append_right _ _ (Nat.le_refl _), Nat.sub_self]
 simp
theorem df_skip (h : l[j]? = some x) : kept ++ mid ++ l.drop j = kept ++ (mid ++ [x]) ++ l.drop (j + 1) := by
 rw [df_drop h]; simp
theorem df_filter (h : l[j]? = some x) : (l.take (j + 1)).filter p = (l.take j).filter p ++ if p x then [x] else [] := by
 rw [take_next h, List.filter_append]
 cases hp : p x <;> simp [hp]
theorem df_start (h : l[j]? = some x) (hx : p x = true) (hn : ∀ y ∈ l.take j, p y = false) : (l.take (j + 1)).filter (fun y => !p y) = l.take j ∧ l = l.take j ++ [x] ++ l.drop (j + 1) := by
 constructor
 ·rw [df_filter h, hx, List.filter_eq_self.2 (fun y hy => by rw [hn y hy]; rfl)]
  simp
 conv => lhs; rw [← List.take_append_drop j l, df_drop h]
 simp
end
end Go.Pm
