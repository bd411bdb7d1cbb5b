/- StoreActs in plain data: what an act does to a store's model, the same in both. -/
import Derived.Test.YtffmbdagjpdieaaGreatStActsH
import Derived.Test.YtffmbdagjpdieaaGreatStActsN
import Derived.Test.YtffmbdagjpdieaaGreatStActsB
import Derived.Test.YtffmbdagjpdieaaGreatRows
set_option maxRecDepth 100000
namespace Go.Proofs.YtffmbdagjpdieaaGreat
open Go.RowKit Go.Pm
def Fine (M : Model) : Prop := SortedT (keysM M) ∧ ∀ m ∈ M, m.2 ≠ []
theorem IxM.fine {B : Base} {X : List (List Ent)} {M : Model} (h : IxM B X M) : Fine M := ⟨h.sorted, fun m hm => (h.ch m hm).1⟩
theorem RefM.fine {B : Base} {ka ca : Option Addr} {kc cc : Nat} {cvs : List Value} {M : Model} (h : RefM B ka ca kc cc cvs M) : Fine M := ⟨h.so, h.ne⟩
theorem Fine.mem {M : Model} (h : Fine M) (k : List UInt8) : k ∈ keysM M ↔ getM M k ≠ [] := by
 refine ⟨fun hk => ?_, fun hk => Classical.byContradiction fun hno => hk (getM_out hno)⟩
 obtain ⟨m, hm, rfl⟩ := List.mem_map.1 hk
 rw [getM_at h.1 hm]
 exact h.2 m hm
theorem Fine.eq {M M' : Model} (h : Fine M) (h' : Fine M') (hg : ∀ k, getM M k = getM M' k) : M = M' :=
 model_ext (sorted_ext h.1 h'.1 fun k => by rw [h.mem, h'.mem, hg]) h.1 h'.1 hg
theorem Fine.len {M : Model} {l : List (List UInt8)} (h : Fine M) (hg : ∀ k, getM M k ≠ [] → k ∈ l) : M.length ≤ l.length := by
 have hnd : (keysM M).Nodup := List.Pairwise.imp (fun {a b} hab e => lt_ne hab e) h.1
 have := nodup_sub hnd fun k hk => hg k ((h.mem k).1 hk)
 rw [List.length_map] at this
 exact this
theorem newc_ok {M : Model} {last : Int} (h : StoM M last) (h0 : 0 ≤ last) (hl : last < 1152921504606846975) {x : Wr} (hx : WrOk x) : ChainOk (newC M last x) := by
 intro i y hy
 unfold newC at hy ⊢
 rcases Nat.lt_or_ge i (getM M x.key).length with hi | hi
 ·rw [List.getElem?_append_left hi] at hy
  obtain ⟨a, b, c, d⟩ := h.ok x.key i y hy
  refine ⟨a, b, c, fun j z hj hz => d j z hj ?_⟩
  rw [List.getElem?_append_left (by omega)] at hz
  exact hz
 rw [List.getElem?_append_right hi] at hy
 obtain ⟨n, hn⟩ : ∃ n, i - (getM M x.key).length = n := ⟨_, rfl⟩
 rw [hn] at hy
 cases n with
 | succ n => simp at hy
 | zero =>
  have hy' : ({ x.ver with stamp := last + 1 } : Ver) = y := Option.some.inj hy
  subst hy'
  refine ⟨(hx.2 0 _ rfl).1, by show 0 < last + 1; omega, by show last + 1 ≤ _; omega, fun j z hj hz => ?_⟩
  rw [List.getElem?_append_left (by omega)] at hz
  have := h.up x.key z (List.mem_of_getElem? hz)
  show z.stamp < last + 1
  omega
def ApC (M : Model) (last : Int) (ws : List Wr) (ec : Int) : Prop := (ec = 2 ∧ ¬ AppPre M last ws) ∨ (ec = 22 ∧ AppPre M last ws ∧ ¬ AppOk M last ws) ∨ (ec = 0 ∧ AppOk M last ws)
theorem AppOk.pre {M : Model} {last : Int} {ws : List Wr} (h : AppOk M last ws) : AppPre M last ws := ⟨h.la, h.nd, h.wr⟩
theorem ApC.uniq {M : Model} {last : Int} {ws : List Wr} {a b : Int} (h : ApC M last ws a) (h' : ApC M last ws b) : a = b := by
 rcases h with ⟨rfl, h1⟩ | ⟨rfl, h1, h2⟩ | ⟨rfl, h1⟩ <;> rcases h' with ⟨rfl, k1⟩ | ⟨rfl, k1, k2⟩ | ⟨rfl, k1⟩ <;> first | rfl | contradiction | exact absurd (AppOk.pre ‹_›) ‹_›
theorem ap_err {M : Model} {last ec : Int} {ws : List Wr} (h : StoM M last) (h0 : 0 ≤ last) (he : AppErr M last ws ec) : ApC M last ws ec := by
 rcases he.is with ⟨rfl, h1 | ⟨x, hx, hno⟩⟩ | ⟨rfl, hp⟩
 ·exact .inl ⟨rfl, h1⟩
 ·exact .inl ⟨rfl, fun hp => hno (newc_ok h h0 hp.1 (hp.2.2 x hx))⟩
 exact .inr (.inl ⟨rfl, hp, he.no⟩)
theorem ap_ok {M : Model} {last : Int} {ws : List Wr} (h : StoM M last) (h0 : 0 ≤ last) (hp : AppPre M last ws) (h64 : ∀ x ∈ ws, (getM M x.key).length < 64) (hn : M.length + news M ws ≤ 4096) : AppOk M last ws :=
 ⟨hp.1, hp.2.1, hp.2.2, fun x hx => ⟨newc_ok h h0 hp.1 (hp.2.2 x hx), by unfold newC; rw [List.length_append]; exact h64 x hx⟩, hn⟩
theorem ap_no {M : Model} {last : Int} {ws : List Wr} (h : (∃ x ∈ ws, 64 ≤ (getM M x.key).length) ∨ 4096 < M.length + news M ws) : ¬ AppOk M last ws := by
 intro ha
 rcases h with ⟨x, hx, h1⟩ | h1
 ·have := (ha.ch x hx).2
  unfold newC at this
  rw [List.length_append] at this
  have h2 : ([{ x.ver with stamp := last + 1 }] : List Ver).length = 1 := rfl
  omega
 have := ha.nw; omega
def ApR (M : Model) (last : Int) (ws : List Wr) (n ec : Int) (M' : Model) (last' : Int) : Prop := ApC M last ws ec ∧ ((ec ≠ 0 ∧ n = 0 ∧ M' = M ∧ last' = last) ∨ (ec = 0 ∧ n = last + 1 ∧ last' = last + 1 ∧ SetI M M' last ws ws.length))
theorem set_uniq {M M1 M2 : Model} {last : Int} {ws : List Wr} (h1 : SetI M M1 last ws ws.length) (h2 : SetI M M2 last ws ws.length) (k : List UInt8) : getM M1 k = getM M2 k := by
 by_cases h : ∃ x, x ∈ ws ∧ x.key = k
 ·obtain ⟨x, hx, rfl⟩ := h
  obtain ⟨j, hj⟩ := List.mem_iff_getElem?.1 hx
  have hl := (List.getElem?_eq_some_iff.1 hj).1
  rw [h1.got j x hl hj, h2.got j x hl hj]
 have hno : ∀ j x, j < ws.length → ws[j]? = some x → x.key ≠ k := fun j x _ hx e => h ⟨x, List.mem_of_getElem? hx, e⟩
 rw [h1.rest k hno, h2.rest k hno]
theorem ApR.uniq {M M1 M2 : Model} {last n1 n2 e1 e2 l1 l2 : Int} {ws : List Wr} (h : ApR M last ws n1 e1 M1 l1) (h' : ApR M last ws n2 e2 M2 l2) (f1 : Fine M1) (f2 : Fine M2) : n1 = n2 ∧ e1 = e2 ∧ M1 = M2 ∧ l1 = l2 := by
 have he := h.1.uniq h'.1
 subst he
 rcases h.2 with ⟨a, rfl, rfl, rfl⟩ | ⟨a, rfl, rfl, hs⟩ <;> rcases h'.2 with ⟨b, rfl, rfl, rfl⟩ | ⟨b, rfl, rfl, hs'⟩
 ·exact ⟨rfl, rfl, rfl, rfl⟩
 ·exact absurd b a
 ·exact absurd a b
 exact ⟨rfl, rfl, f1.eq f2 (set_uniq hs hs'), rfl⟩
theorem ApR.sto {M M' : Model} {last n ec last' : Int} {ws : List Wr} (h : ApR M last ws n ec M' last') (hs : StoM M last) (h0 : 0 ≤ last ∧ last ≤ 1152921504606846975) : StoM M' last' ∧ (0 ≤ last' ∧ last' ≤ 1152921504606846975) ∧ M'.length ≤ M.length + ws.length := by
 rcases h.2 with ⟨a, rfl, rfl, rfl⟩ | ⟨rfl, rfl, rfl, hi⟩
 ·exact ⟨hs, h0, by omega⟩
 rcases h.1 with ⟨e, -⟩ | ⟨e, -⟩ | ⟨-, ha⟩
 ·cases e
 ·cases e
 exact ⟨hs.step ha hi, ⟨by omega, by have := ha.la; omega⟩, hi.len.2⟩
def PrR (M : Model) (last mark mk clock n ec : Int) (M' : Model) (mark' : Int) : Prop :=
 (¬ (mark ≤ mk ∧ mk ≤ last) ∧ n = 0 ∧ ec = 2 ∧ M' = M ∧ mark' = mark) ∨ ((mark ≤ mk ∧ mk ≤ last) ∧ ec = 0 ∧ n = (goneN M mk clock : Int) ∧ mark' = mk ∧ ∀ k, getM M' k = pruneC (getM M k) mk clock)
theorem PrR.uniq {M M1 M2 : Model} {last mark mk clock n1 n2 e1 e2 m1 m2 : Int} (h : PrR M last mark mk clock n1 e1 M1 m1) (h' : PrR M last mark mk clock n2 e2 M2 m2) (f1 : Fine M1) (f2 : Fine M2) : n1 = n2 ∧ e1 = e2 ∧ M1 = M2 ∧ m1 = m2 := by
 rcases h with ⟨a, rfl, rfl, rfl, rfl⟩ | ⟨a, rfl, rfl, rfl, hg⟩ <;> rcases h' with ⟨b, rfl, rfl, rfl, rfl⟩ | ⟨b, rfl, rfl, rfl, hg'⟩
 ·exact ⟨rfl, rfl, rfl, rfl⟩
 ·exact absurd b a
 ·exact absurd a b
 exact ⟨rfl, rfl, f1.eq f2 fun k => by rw [hg, hg'], rfl⟩
theorem one_of {l : List Ver} (h : ChainOk l) {x : Ver} (hx : x ∈ l) : OneOk x := by
 obtain ⟨i, hi⟩ := List.mem_iff_getElem?.1 hx
 obtain ⟨a, b, c, -⟩ := h i x hi
 exact ⟨a, b, c⟩
theorem chain_of {l : List Ver} (ha : Asc l) (h : ∀ x ∈ l, OneOk x) : ChainOk l := by
 intro i x hx
 obtain ⟨a, b, c⟩ := h x (List.mem_of_getElem? hx)
 refine ⟨a, b, c, fun j y hj hy => ?_⟩
 obtain ⟨h1, rfl⟩ := List.getElem?_eq_some_iff.1 hx
 obtain ⟨h2, rfl⟩ := List.getElem?_eq_some_iff.1 hy
 exact List.pairwise_iff_getElem.1 ha j i h2 h1 (by omega)
theorem pruneC_sub {l : List Ver} {mk c : Int} {x : Ver} (h : x ∈ pruneC l mk c) : x ∈ l := by
 unfold pruneC at h
 rcases List.mem_append.1 h with h | h
 ·cases hr : readV l mk c with
  | none => rw [hr] at h; cases h
  | some y =>
   rw [hr] at h
   rw [List.mem_singleton.1 h]
   exact (readV_some hr).1
 exact (List.mem_filter.1 h).1
theorem PrR.sto {M M' : Model} {last mark mk clock n ec m' : Int} (h : PrR M last mark mk clock n ec M' m') (hs : StoM M last) (f : Fine M) (f' : Fine M') : StoM M' last ∧ M'.length ≤ M.length := by
 rcases h with ⟨-, -, -, rfl, -⟩ | ⟨-, -, -, -, hg⟩
 ·exact ⟨hs, Nat.le_refl _⟩
 have hne : ∀ k, getM M' k ≠ [] → getM M k ≠ [] := fun k hk e => hk (by rw [hg, e]; rfl)
 refine ⟨⟨fun k => chain_of (prune_asc hs.asc hg k) fun x hx => ?_, fun k v hv => ?_, fun k hk => hs.key k (hne k hk)⟩, ?_⟩
 ·rw [hg] at hx; exact one_of (hs.ok k) (pruneC_sub hx)
 ·rw [hg] at hv; exact hs.up k v (pruneC_sub hv)
 have := f'.len (l := keysM M) fun k hk => (f.mem k).2 (hne k hk)
 rw [List.length_map] at this
 exact this
def LdR (M : Model) (last mark stamp : Int) (ws : List Wr) (ec : Int) (M' : Model) (last' mark' : Int) : Prop :=
 (ec = 2 ∧ ¬ LoadOk ws stamp ∧ M' = M ∧ last' = last ∧ mark' = mark) ∨ (ec = 22 ∧ 4096 < ws.length ∧ LoadOk ws stamp ∧ M' = M ∧ last' = last ∧ mark' = mark) ∨ (ec = 0 ∧ ws.length ≤ 4096 ∧ LoadOk ws stamp ∧ last' = stamp ∧ mark' = stamp ∧ LoadI M' ws ws.length)
theorem load_uniq {M1 M2 : Model} {ws : List Wr} (h1 : LoadI M1 ws ws.length) (h2 : LoadI M2 ws ws.length) (k : List UInt8) : getM M1 k = getM M2 k := by
 by_cases h : ∃ x, x ∈ ws ∧ x.key = k
 ·obtain ⟨x, hx, rfl⟩ := h
  obtain ⟨j, hj⟩ := List.mem_iff_getElem?.1 hx
  have hl := (List.getElem?_eq_some_iff.1 hj).1
  rw [h1.got j x hl hj, h2.got j x hl hj]
 have hno : ∀ j x, j < ws.length → ws[j]? = some x → x.key ≠ k := fun j x _ hx e => h ⟨x, List.mem_of_getElem? hx, e⟩
 rw [h1.rest k hno, h2.rest k hno]
theorem LdR.uniq {M M1 M2 : Model} {last mark stamp e1 e2 l1 l2 m1 m2 : Int} {ws : List Wr} (h : LdR M last mark stamp ws e1 M1 l1 m1) (h' : LdR M last mark stamp ws e2 M2 l2 m2) (f1 : Fine M1) (f2 : Fine M2) : e1 = e2 ∧ M1 = M2 ∧ l1 = l2 ∧ m1 = m2 := by
 rcases h with ⟨rfl, a, rfl, rfl, rfl⟩ | ⟨rfl, a, b, rfl, rfl, rfl⟩ | ⟨rfl, a, b, rfl, rfl, hl⟩ <;> rcases h' with ⟨rfl, c, rfl, rfl, rfl⟩ | ⟨rfl, c, d, rfl, rfl, rfl⟩ | ⟨rfl, c, d, rfl, rfl, hl'⟩ <;> first | exact ⟨rfl, rfl, rfl, rfl⟩ | contradiction | omega | exact ⟨rfl, f1.eq f2 (load_uniq hl hl'), rfl, rfl⟩
theorem load_cases {M : Model} {ws : List Wr} (h : LoadI M ws ws.length) (k : List UInt8) : (∃ x, x ∈ ws ∧ x.key = k ∧ getM M k = [x.ver]) ∨ getM M k = [] := by
 by_cases hk : ∃ x, x ∈ ws ∧ x.key = k
 ·obtain ⟨x, hx, rfl⟩ := hk
  obtain ⟨j, hj⟩ := List.mem_iff_getElem?.1 hx
  exact .inl ⟨x, hx, rfl, h.got j x (List.getElem?_eq_some_iff.1 hj).1 hj⟩
 exact .inr (h.rest k fun j x _ hx e => hk ⟨x, List.mem_of_getElem? hx, e⟩)
theorem LdR.sto {M M' : Model} {last mark stamp ec l' m' : Int} {ws : List Wr} (h : LdR M last mark stamp ws ec M' l' m') (hs : StoM M last) (h0 : 0 ≤ last ∧ last ≤ 1152921504606846975) (f' : Fine M') : StoM M' l' ∧ (0 ≤ l' ∧ l' ≤ 1152921504606846975) ∧ (M'.length ≤ M.length ∨ M'.length ≤ ws.length) := by
 rcases h with ⟨-, -, rfl, rfl, -⟩ | ⟨-, -, -, rfl, rfl, -⟩ | ⟨-, -, hok, rfl, -, hl⟩
 ·exact ⟨hs, h0, .inl (Nat.le_refl _)⟩
 ·exact ⟨hs, h0, .inl (Nat.le_refl _)⟩
 refine ⟨⟨fun k => ?_, fun k v hv => ?_, fun k hk => ?_⟩, ⟨hok.lo, hok.hi⟩, .inr ?_⟩
 ·rcases load_cases hl k with ⟨x, hx, -, e⟩ | e
  ·rw [e]
   obtain ⟨a, -, b, c⟩ := hok.wr x hx
   exact (chain_one _).2 ⟨(a.2 0 _ rfl).1, by omega, by have := hok.hi; omega⟩
  rw [e]; intro i x hx; simp at hx
 ·rcases load_cases hl k with ⟨x, hx, -, e⟩ | e
  ·rw [e] at hv; rw [List.mem_singleton.1 hv]; exact (hok.wr x hx).2.2.2
  rw [e] at hv; cases hv
 ·rcases load_cases hl k with ⟨x, hx, rfl, e⟩ | e
  ·exact (hok.wr x hx).1.1
  exact absurd e hk
 have := f'.len (l := ws.map (·.key)) fun k hk => by
  rcases load_cases hl k with ⟨x, hx, rfl, e⟩ | e
  ·exact List.mem_map_of_mem hx
  exact absurd e hk
 rw [List.length_map] at this
 exact this
end Go.Proofs.YtffmbdagjpdieaaGreat
/- StoreActs: each act's contract, for the store and, the same, for the reference. -/
namespace Go.Proofs.YtffmbdagjpdieaaGreat
open Go.RowKit Go.Pm
theorem storeCheckR (B : Base) (H : List Res) (w : World) (s p : Nat) (v : Value) (X : List (List Ent)) (bvs : List Value) (M : Model) (last mark : Int) (ad : Option Addr) (c : Nat) (xs : List Value) (ws : List Wr) (hx : IxM B X M) (hsto : StoM M last) (h0 : 0 ≤ last) (hr : RdV B [] ad xs) (hws : WrsAt B ws xs) (hm : ws.length ≤ 1000) (hv : Inv B (Res.cell s [.pointer (some ⟨p, 0, none⟩), .int .i64 last, .int .i64 mark] 65 :: ixS 89 101 100 p v (M.length : Int) X bvs :: H) w) :
  Calls Tryz.prog 7 #[.pointer (some ⟨s, 0, none⟩), .slice ad ws.length c] w fun e w' => ∃ C ec, B.Le C ∧ e = .returned (.int .i64 ec) ∧ ApC M last ws ec ∧ Inv C (Res.cell s [.pointer (some ⟨p, 0, none⟩), .int .i64 last, .int .i64 mark] 65 :: ixS 89 101 100 p v (M.length : Int) X bvs :: H) w' := by
 refine (storeCheck B H w s p v X bvs M last mark ad c xs ws hx h0 hr hws hm hv).mono ?_
 rintro e w' ⟨C, ec, h1, h2, h3, h4⟩
 refine ⟨C, ec, h1, h2, ?_, h4⟩
 rcases h3 with ⟨-, h3⟩ | ⟨h3, h5⟩
 ·exact ap_err hsto h0 h3
 exact .inr (.inr ⟨h3, h5⟩)
theorem storeApplyR (B : Base) (H : List Res) (w : World) (s p : Nat) (v : Value) (X : List (List Ent)) (bvs : List Value) (M : Model) (last mark : Int) (ad : Option Addr) (c : Nat) (xs : List Value) (ws : List Wr) (hx : IxM B X M) (hsto : StoM M last) (h0 : 0 ≤ last) (hr : RdV B [] ad xs) (hws : WrsAt B ws xs) (hm : ws.length ≤ 1000) (hM : M.length ≤ 90000) (hv : Inv B (Res.cell s [.pointer (some ⟨p, 0, none⟩), .int .i64 last, .int .i64 mark] 65 :: ixS 89 101 100 p v (M.length : Int) X bvs :: H) w) :
  Calls Tryz.prog 8 #[.pointer (some ⟨s, 0, none⟩), .slice ad ws.length c] w fun e w' => ∃ C n ec v1 X1 f1 M1 l1, B.Le C ∧ e = .returned (.tuple #[.int .i64 n, .int .i64 ec]) ∧ IxM C X1 M1 ∧ ApR M last ws n ec M1 l1 ∧ Inv C (Res.cell s [.pointer (some ⟨p, 0, none⟩), .int .i64 l1, .int .i64 mark] 65 :: ixS 89 101 100 p v1 (M1.length : Int) X1 f1 :: H) w' := by
 refine (storeApply B H w s p v X bvs M last mark ad c xs ws hx h0 hr hws hm hM hv).mono ?_
 rintro e w' ⟨C, n, ec, h1, h2, h3⟩
 rcases h3 with ⟨h3, h4, h5, h6⟩ | ⟨h3, h4, h5, v1, X1, f1, M1, h6, h7, h8⟩
 ·exact ⟨C, n, ec, v, X, bvs, M, last, h1, h2, hx.more h1, ⟨ap_err hsto h0 h4, .inl ⟨h3, h5, rfl, rfl⟩⟩, h6⟩
 exact ⟨C, n, ec, v1, X1, f1, M1, last + 1, h1, h2, h6, ⟨.inr (.inr ⟨h3, h5⟩), .inr ⟨h3, h4, rfl, h7⟩⟩, h8⟩
theorem refApplyE (B : Base) (H : List Res) (w : World) (r : Nat) (ka ca : Option Addr) (kc cc : Nat) (cvs : List Value) (M : Model) (last mark : Int) (ad : Option Addr) (c : Nat) (xs : List Value) (ws : List Wr) (hx : RefM B ka ca kc cc cvs M) (hsto : StoM M last) (h0 : 0 ≤ last ∧ last ≤ 1152921504606846975) (hr : RdV B [] ad xs) (hws : WrsAt B ws xs) (hm : ws.length ≤ 1000) (hM : M.length ≤ 90000) {n1 e1 l1 : Int} {M1 : Model} (hR : ApR M last ws n1 e1 M1 l1) (hf : Fine M1) (hv : Inv B (Res.cell r [.slice ka M.length kc, .slice ca M.length cc, .int .i64 last, .int .i64 mark] 32 :: H) w) :
  Calls Tryz.prog 9 #[.pointer (some ⟨r, 0, none⟩), .slice ad ws.length c] w fun e w' => ∃ C ka2 ca2 kc2 cc2 cvs2, B.Le C ∧ e = .returned (.tuple #[.int .i64 n1, .int .i64 e1]) ∧ RefM C ka2 ca2 kc2 cc2 cvs2 M1 ∧ Inv C (Res.cell r [.slice ka2 M1.length kc2, .slice ca2 M1.length cc2, .int .i64 l1, .int .i64 mark] 32 :: H) w' := by
 refine (refApply B H w r ka ca kc cc cvs M last mark ad c xs ws hx h0 hM hr hws hm hv).mono ?_
 rintro e w' ⟨C, n, ec, h1, h2, h3⟩
 rcases h3 with ⟨h3, h4, h5, h6⟩ | ⟨h3, h4, h5, h6, h7⟩ | ⟨h3, h4, h5, h6, h7, ka2, ca2, kc2, cc2, cvs2, M2, h8, h9, h10⟩
 ·obtain ⟨rfl, rfl, rfl, rfl⟩ := hR.uniq (M2 := M) (n2 := n) (e2 := ec) (l2 := last) ⟨.inl ⟨h3, h5⟩, .inl ⟨by omega, h4, rfl, rfl⟩⟩ hf hx.fine
  exact ⟨C, _, _, _, _, _, h1, h2, hx.more h1, h6⟩
 ·obtain ⟨rfl, rfl, rfl, rfl⟩ := hR.uniq (M2 := M) (n2 := n) (e2 := ec) (l2 := last) ⟨.inr (.inl ⟨h3, h5, ap_no h6⟩), .inl ⟨by omega, h4, rfl, rfl⟩⟩ hf hx.fine
  exact ⟨C, _, _, _, _, _, h1, h2, hx.more h1, h7⟩
 obtain ⟨rfl, rfl, rfl, rfl⟩ := hR.uniq (M2 := M2) (n2 := n) (e2 := ec) (l2 := last + 1) ⟨.inr (.inr ⟨h3, ap_ok hsto h0.1 h5 h6 h7⟩), .inr ⟨h3, h4, rfl, h9⟩⟩ hf h8.fine
 exact ⟨C, _, _, _, _, _, h1, h2, h8, h10⟩
theorem storePruneR (B : Base) (H : List Res) (w : World) (s p : Nat) (v : Value) (X : List (List Ent)) (bvs : List Value) (M : Model) (last mark : Int) (mk clock : Int) (hx : IxM B X M) (hM : M.length ≤ 90000) (hasc : AscM M) (hv : Inv B (Res.cell s [.pointer (some ⟨p, 0, none⟩), .int .i64 last, .int .i64 mark] 65 :: ixS 89 101 100 p v (M.length : Int) X bvs :: H) w) :
  Calls Tryz.prog 10 #[.pointer (some ⟨s, 0, none⟩), .int .i64 mk, .int .i64 clock] w fun e w' => ∃ C n ec v1 X1 f1 M1 m1, B.Le C ∧ e = .returned (.tuple #[.int .i64 n, .int .i64 ec]) ∧ IxM C X1 M1 ∧ PrR M last mark mk clock n ec M1 m1 ∧ Inv C (Res.cell s [.pointer (some ⟨p, 0, none⟩), .int .i64 last, .int .i64 m1] 65 :: ixS 89 101 100 p v1 (M1.length : Int) X1 f1 :: H) w' := by
 refine (storePrune B H w s p v X bvs M last mark mk clock hx hM hasc hv).mono ?_
 rintro e w' ⟨C, n, ec, h1, h2, h3⟩
 rcases h3 with ⟨h3, h4, h5, h6⟩ | ⟨h3, h4, h5, v1, X1, f1, M1, h6, h7, h8⟩
 ·exact ⟨C, n, ec, v, X, bvs, M, mark, h1, h2, hx.more h1, .inl ⟨h3, h4, h5, rfl, rfl⟩, h6⟩
 exact ⟨C, n, ec, v1, X1, f1, M1, mk, h1, h2, h6, .inr ⟨h3, h4, h5, rfl, h7⟩, h8⟩
theorem refPruneE (B : Base) (H : List Res) (w : World) (r : Nat) (ka ca : Option Addr) (kc cc : Nat) (cvs : List Value) (M : Model) (last mark : Int) (mk clock : Int) (hx : RefM B ka ca kc cc cvs M) (hasc : AscM M) {n1 e1 m1 : Int} {M1 : Model} (hR : PrR M last mark mk clock n1 e1 M1 m1) (hf : Fine M1) (hv : Inv B (Res.cell r [.slice ka M.length kc, .slice ca M.length cc, .int .i64 last, .int .i64 mark] 32 :: H) w) :
  Calls Tryz.prog 11 #[.pointer (some ⟨r, 0, none⟩), .int .i64 mk, .int .i64 clock] w fun e w' => ∃ C ka2 ca2 kc2 cc2 cvs2, B.Le C ∧ e = .returned (.tuple #[.int .i64 n1, .int .i64 e1]) ∧ RefM C ka2 ca2 kc2 cc2 cvs2 M1 ∧ Inv C (Res.cell r [.slice ka2 M1.length kc2, .slice ca2 M1.length cc2, .int .i64 last, .int .i64 m1] 32 :: H) w' := by
 refine (refStPrune B H w r ka ca kc cc cvs M last mark mk clock hx hasc hv).mono ?_
 rintro e w' ⟨C, n, ec, h1, h2, h3⟩
 rcases h3 with ⟨h3, h4, h5, h6⟩ | ⟨h3, h4, h5, ka2, ca2, kc2, cc2, cvs2, M2, h6, h7, h8⟩
 ·obtain ⟨rfl, rfl, rfl, rfl⟩ := hR.uniq (M2 := M) (n2 := n) (e2 := ec) (m2 := mark) (.inl ⟨h3, h4, h5, rfl, rfl⟩) hf hx.fine
  exact ⟨C, _, _, _, _, _, h1, h2, hx.more h1, h6⟩
 obtain ⟨rfl, rfl, rfl, rfl⟩ := hR.uniq (M2 := M2) (n2 := n) (e2 := ec) (m2 := mk) (.inr ⟨h3, h4, h5, rfl, h7⟩) hf h6.fine
 exact ⟨C, _, _, _, _, _, h1, h2, h6, h8⟩
theorem storeLoadR (B : Base) (H : List Res) (w : World) (s p : Nat) (v : Value) (X : List (List Ent)) (bvs : List Value) (M : Model) (last mark : Int) (stamp : Int) (ad : Option Addr) (c : Nat) (xs : List Value) (ws : List Wr) (hx : IxM B X M) (hr : RdV B [] ad xs) (hws : WrsAt B ws xs) (hm : ws.length ≤ 100000) (hv : Inv B (Res.cell s [.pointer (some ⟨p, 0, none⟩), .int .i64 last, .int .i64 mark] 65 :: ixS 89 101 100 p v (M.length : Int) X bvs :: H) w) :
  Calls Tryz.prog 12 #[.pointer (some ⟨s, 0, none⟩), .int .i64 stamp, .slice ad ws.length c] w fun e w' => ∃ C ec p1 v1 X1 f1 M1 l1 m1, B.Le C ∧ e = .returned (.int .i64 ec) ∧ IxM C X1 M1 ∧ LdR M last mark stamp ws ec M1 l1 m1 ∧ Inv C (Res.cell s [.pointer (some ⟨p1, 0, none⟩), .int .i64 l1, .int .i64 m1] 65 :: ixS 89 101 100 p1 v1 (M1.length : Int) X1 f1 :: H) w' := by
 refine (storeLoad B H w s p v X bvs _ last mark stamp ad c xs ws hr hws hm hv).mono ?_
 rintro e w' ⟨C, ec, h1, h2, h3⟩
 rcases h3 with ⟨h3, h4, h5⟩ | ⟨h3, h4, h5, h6⟩ | ⟨h3, h4, h5, p1, v1, X1, f1, M1, h6, h7, h8⟩
 ·exact ⟨C, ec, p, v, X, bvs, M, last, mark, h1, h2, hx.more h1, .inl ⟨h3, h4, rfl, rfl, rfl⟩, h5⟩
 ·exact ⟨C, ec, p, v, X, bvs, M, last, mark, h1, h2, hx.more h1, .inr (.inl ⟨h3, h4, h5, rfl, rfl, rfl⟩), h6⟩
 exact ⟨C, ec, p1, v1, X1, f1, M1, stamp, stamp, h1, h2, h6, .inr (.inr ⟨h3, h4, h5, rfl, rfl, h7⟩), h8⟩
theorem refLoadE (B : Base) (H : List Res) (w : World) (r : Nat) (ka ca : Option Addr) (kc cc : Nat) (cvs : List Value) (M : Model) (last mark : Int) (stamp : Int) (ad : Option Addr) (c : Nat) (xs : List Value) (ws : List Wr) (hx : RefM B ka ca kc cc cvs M) (hr : RdV B [] ad xs) (hws : WrsAt B ws xs) (hm : ws.length ≤ 100000) {e1 l1 m1 : Int} {M1 : Model} (hR : LdR M last mark stamp ws e1 M1 l1 m1) (hf : Fine M1) (hv : Inv B (Res.cell r [.slice ka M.length kc, .slice ca M.length cc, .int .i64 last, .int .i64 mark] 32 :: H) w) :
  Calls Tryz.prog 14 #[.pointer (some ⟨r, 0, none⟩), .int .i64 stamp, .slice ad ws.length c] w fun e w' => ∃ C ka2 ca2 kc2 cc2 cvs2, B.Le C ∧ e = .returned (.int .i64 e1) ∧ RefM C ka2 ca2 kc2 cc2 cvs2 M1 ∧ Inv C (Res.cell r [.slice ka2 M1.length kc2, .slice ca2 M1.length cc2, .int .i64 l1, .int .i64 m1] 32 :: H) w' := by
 refine (refLoad B H w r _ _ last mark stamp ad c xs ws hr hws hm hv).mono ?_
 rintro e w' ⟨C, ec, h1, h2, h3⟩
 rcases h3 with ⟨h3, h4, h5⟩ | ⟨h3, h4, h5, h6⟩ | ⟨h3, h4, h5, ka2, ca2, kc2, cc2, cvs2, M2, h6, h7, h8⟩
 ·obtain ⟨rfl, rfl, rfl, rfl⟩ := hR.uniq (M2 := M) (e2 := ec) (l2 := last) (m2 := mark) (.inl ⟨h3, h4, rfl, rfl, rfl⟩) hf hx.fine
  exact ⟨C, _, _, _, _, _, h1, h2, hx.more h1, h5⟩
 ·obtain ⟨rfl, rfl, rfl, rfl⟩ := hR.uniq (M2 := M) (e2 := ec) (l2 := last) (m2 := mark) (.inr (.inl ⟨h3, h4, h5, rfl, rfl, rfl⟩)) hf hx.fine
  exact ⟨C, _, _, _, _, _, h1, h2, hx.more h1, h6⟩
 obtain ⟨rfl, rfl, rfl, rfl⟩ := hR.uniq (M2 := M2) (e2 := ec) (l2 := stamp) (m2 := stamp) (.inr (.inr ⟨h3, h4, h5, rfl, rfl, h7⟩)) hf h6.fine
 exact ⟨C, _, _, _, _, _, h1, h2, h6, h8⟩
end Go.Proofs.YtffmbdagjpdieaaGreat
/- Arguments of the store's laws: rows of rows of writes. -/
namespace Go.Pm
open Go.RowKit
def All2 {α β : Type} (R : α → β → Prop) : List α → List β → Prop
 | [], [] => True
 | a :: k, b :: l => R a b ∧ All2 R k l
 | _, _ => False
theorem rep_rowAux {W : World} {S : Nat → Prop} {t : Ty} {a : Option Addr} : ∀ (l : List t.den) (k : Nat), (∀ i (h : i < l.length), ∃ b off xs, a = some ⟨b, off, none⟩ ∧ S b ∧ xs.length = t.size ∧ (∀ j (h : j < xs.length), W.cell? ⟨b, off + (k + i) * t.size + j, none⟩ = some xs[j]) ∧ Rep W S t xs l[i]) →
  ∃ xss : List (List Value), All2 (fun xs d => xs.length = t.size ∧ Rep W S t xs d) xss l ∧ ∀ j (h : j < xss.flatten.length), ∃ b off, a = some ⟨b, off, none⟩ ∧ W.cell? ⟨b, off + k * t.size + j, none⟩ = some xss.flatten[j]
 | [], k, _ => ⟨[], trivial, fun j h => by simp at h⟩
 | d :: l, k, h => by
  obtain ⟨xss, h1, h2⟩ := rep_rowAux l (k + 1) (fun i hi => by
   obtain ⟨b, off, xs, e1, e2, e3, e4, e5⟩ := h (i + 1) (by simpa using hi)
   refine ⟨b, off, xs, e1, e2, e3, fun j hj => ?_, e5⟩
   rw [show k + 1 + i = k + (i + 1) by omega]
   exact e4 j hj)
  obtain ⟨b, off, xs, e1, e2, e3, e4, e5⟩ := h 0 (by simp)
  refine ⟨xs :: xss, ⟨⟨e3, e5⟩, h1⟩, fun j hj => ?_⟩
  rcases Nat.lt_or_ge j xs.length with hx | hx
  ·refine ⟨b, off, e1, ?_⟩
   have := e4 j hx
   rw [Nat.add_zero] at this
   rw [this]
   simp only [List.flatten_cons]
   rw [List.getElem_append_left hx]
  have hj' : j - xs.length < xss.flatten.length := by
   simp only [List.flatten_cons, List.length_append] at hj
   omega
  obtain ⟨b', off', f1, f2⟩ := h2 (j - xs.length) hj'
  refine ⟨b', off', f1, ?_⟩
  rw [show off' + k * t.size + j = off' + (k + 1) * t.size + (j - xs.length) by rw [Nat.succ_mul]; omega, f2]
  simp only [List.flatten_cons]
  rw [List.getElem_append_right hx]
theorem rep_row {W : World} {S : Nat → Prop} {t : Ty} {cs : List Value} {l : List t.den} (h : Rep W S (.slice t) cs l) :
  ∃ a cap xss, cs = [.slice a l.length cap] ∧ SliceOk a l.length cap ∧ RdV (Base.of W) [] a xss.flatten ∧ All2 (fun xs d => xs.length = t.size ∧ Rep W S t xs d) xss l := by
 obtain ⟨a, cap, h1, h2, h4⟩ := h
 obtain ⟨xss, h5, h6⟩ := rep_rowAux (t := t) l 0 (fun i hi => by
  obtain ⟨b, off, xs, e1, e2, e3, e4, e5⟩ := h4 i hi
  refine ⟨b, off, xs, e1, e2, e3, fun j hj => ?_, e5⟩
  rw [Nat.zero_add]
  exact e4 j hj)
 refine ⟨a, cap, xss, h1, h2, rdV_of W fun j hj => ?_, h5⟩
 obtain ⟨b, off, f1, f2⟩ := h6 j hj
 exact ⟨b, off, f1, by rw [← f2, Nat.zero_mul, Nat.add_zero]⟩
abbrev pairTy : Ty := .pair .str (.pair .str .unit)
abbrev memTy : Ty := .pair (.int .i64) (.pair .str .unit)
abbrev valTy : Ty := .pair (.int .i64) (.pair .str (.pair (.slice pairTy) (.pair (.slice .str) (.pair (.slice memTy) .unit))))
abbrev verTy : Ty := .pair (.int .i64) (.pair .bool (.pair (.int .i64) (.pair valTy .unit)))
abbrev wrTy : Ty := .pair .str (.pair verTy .unit)
def valOf (d : valTy.den) : Val := ⟨d.1, d.2.1, d.2.2.1.map fun p => (p.1, p.2.1), d.2.2.2.1, d.2.2.2.2.1.map fun p => (p.1, p.2.1)⟩
def verOf (d : verTy.den) : Ver := ⟨d.1, d.2.1, d.2.2.1, valOf d.2.2.2.1⟩
def wrOf (d : wrTy.den) : Wr := ⟨d.1, verOf d.2.1⟩
theorem rep_pairs {W : World} {S : Nat → Prop} : ∀ {xss : List (List Value)} {l : List pairTy.den}, All2 (fun xs d => xs.length = pairTy.size ∧ Rep W S pairTy xs d) xss l → xss.flatten = pairCells (l.map fun p => (p.1, p.2.1))
 | [], [], _ => rfl
 | xs :: xss, d :: l, ⟨⟨h1, h2⟩, h⟩ => by
  have := rep_pairs h
  match xs, h1 with
  | [x0, x1], _ =>
   obtain ⟨⟨k1, _⟩, ⟨k2, _⟩, _⟩ := h2
   have k1' : [x0] = _ := k1
   have k2' : [x1] = _ := k2
   simp only [List.cons.injEq, and_true] at k1' k2'
   subst k1' k2'
   simp only [List.flatten_cons, this, List.map_cons, pairCells, List.flatMap_cons]
theorem rep_mems {W : World} {S : Nat → Prop} : ∀ {xss : List (List Value)} {l : List memTy.den}, All2 (fun xs d => xs.length = memTy.size ∧ Rep W S memTy xs d) xss l → xss.flatten = memCells (l.map fun p => (p.1, p.2.1))
 | [], [], _ => rfl
 | xs :: xss, d :: l, ⟨⟨h1, h2⟩, h⟩ => by
  have := rep_mems h
  match xs, h1 with
  | [x0, x1], _ =>
   obtain ⟨⟨k1, _⟩, ⟨k2, _⟩, _⟩ := h2
   have k1' : [x0] = _ := k1
   have k2' : [x1] = _ := k2
   simp only [List.cons.injEq, and_true] at k1' k2'
   subst k1' k2'
   simp only [List.flatten_cons, this, List.map_cons, memCells, List.flatMap_cons]
   rfl
theorem rep_texts {W : World} {S : Nat → Prop} : ∀ {xss : List (List Value)} {l : List (List UInt8)}, All2 (fun xs (d : Ty.str.den) => xs.length = Ty.str.size ∧ Rep W S .str xs d) xss l → xss.flatten = textCells l
 | [], [], _ => rfl
 | xs :: xss, d :: l, ⟨⟨h1, h2⟩, h⟩ => by
  have := rep_texts h
  match xs, h1 with
  | [x0], _ =>
   obtain ⟨k1, _⟩ := h2
   have k1' : [x0] = _ := k1
   simp only [List.cons.injEq, and_true] at k1'
   subst k1'
   simp only [List.flatten_cons, this, textCells, List.map_cons]
   rfl
theorem rep_val {W : World} {S : Nat → Prop} {k0 k1 k2 k3 k4 : Value} {d : valTy.den} (h : Rep W S valTy [k0, k1, k2, k3, k4] d) : k0 = .int .i64 (valOf d).kind ∧ k1 = strV (valOf d).text ∧ ValRd (Base.of W) (valOf d) k2 k3 k4 := by
 obtain ⟨⟨e0, _⟩, ⟨e1, _⟩, e2, e3, e4, _⟩ := h
 have e0' : [k0] = _ := e0
 have e1' : [k1] = _ := e1
 simp only [List.cons.injEq, and_true] at e0' e1'
 obtain ⟨a2, c2, x2, f2, g2, i2, j2⟩ := rep_row e2
 obtain ⟨a3, c3, x3, f3, g3, i3, j3⟩ := rep_row e3
 obtain ⟨a4, c4, x4, f4, g4, i4, j4⟩ := rep_row e4
 have f2' : [k2] = _ := f2
 have f3' : [k3] = _ := f3
 have f4' : [k4] = _ := f4
 simp only [List.cons.injEq, and_true] at f2' f3' f4'
 rw [rep_pairs j2] at i2
 rw [rep_texts j3] at i3
 rw [rep_mems j4] at i4
 refine ⟨e0', e1', ⟨a2, c2, ?_, ?_, i2⟩, ⟨a3, c3, f3', g3, i3⟩, ⟨a4, c4, ?_, ?_, i4⟩⟩
 ·rw [f2']; simp [valOf]
 ·simpa [valOf] using g2
 ·rw [f4']; simp [valOf]
 simpa [valOf] using g4
theorem rep_wrs {W : World} {S : Nat → Prop} : ∀ {xss : List (List Value)} {l : List wrTy.den}, All2 (fun xs d => xs.length = wrTy.size ∧ Rep W S wrTy xs d) xss l → WrsRd (Base.of W) (l.map wrOf) xss.flatten
 | [], [], _ => rfl
 | xs :: xss, d :: l, ⟨⟨h1, h2⟩, h⟩ => by
  have := rep_wrs h
  match xs, h1 with
  | [x0, x1, x2, x3, x4, x5, x6, x7, x8], _ =>
   obtain ⟨⟨k1, _⟩, ⟨⟨s1, _⟩, g1, ⟨p1, _⟩, v1, _⟩, _⟩ := h2
   have k1' : [x0] = _ := k1
   have s1' : [x1] = _ := s1
   have g1' : [x2] = _ := g1
   have p1' : [x3] = _ := p1
   simp only [List.cons.injEq, and_true] at k1' s1' g1' p1'
   obtain ⟨q1, q2, q3⟩ := rep_val (k0 := x4) (k1 := x5) (k2 := x6) (k3 := x7) (k4 := x8) v1
   subst k1' s1' g1' p1' q1 q2
   exact ⟨x6, x7, x8, _, rfl, q3, this⟩
end Go.Pm
/- Arguments of StoreActs: rows of acts. -/
namespace Go.Pm
open Go.RowKit
abbrev actTy : Ty := .pair (.int .i64) (.pair (.int .i64) (.pair (.int .i64) (.pair (.slice wrTy) .unit)))
def ActsRd (B : Base) (a : Option Addr) (n : Nat) : Prop := ∀ i, i < n → ∃ (b off : Nat) (kd st ck : Int) (wa : Option Addr) (wc : Nat) (ws : List Wr) (ys : List Value), a = some ⟨b, off, none⟩ ∧
 Reads B [] b (off + i * 4) [.int .i64 kd, .int .i64 st, .int .i64 ck, .slice wa ws.length wc] ∧ RdV B [] wa ys ∧ WrsRd B ws ys
theorem rep_acts17 {W : World} {cs : List Value} {l : List actTy.den} (h : Rep W (· < W.heap.size) (.slice actTy) cs l) :
  ∃ (a : Option Addr) (cap n : Nat), cs = [.slice a n cap] ∧ ActsRd (Base.of W) a n := by
 obtain ⟨a, cap, h1, h2, h4⟩ := h
 refine ⟨a, cap, l.length, h1, fun i hi => ?_⟩
 obtain ⟨b, off, xs, e1, e2, e3, e4, e5⟩ := h4 i hi
 match xs, e3 with
 | [x0, x1, x2, x3], _ =>
  obtain ⟨⟨k1, _⟩, ⟨m1, _⟩, ⟨c1, _⟩, hw, _⟩ := e5
  obtain ⟨wa, wc, xss, f1, f2, f3, f4⟩ := rep_row hw
  have k1' : [x0] = _ := k1
  have m1' : [x1] = _ := m1
  have c1' : [x2] = _ := c1
  have f1' : [x3] = _ := f1
  simp only [List.cons.injEq, and_true] at k1' m1' c1' f1'
  subst k1' m1' c1' f1'
  refine ⟨b, off, l[i].1, l[i].2.1, l[i].2.2.1, wa, wc, l[i].2.2.2.1.map wrOf, xss.flatten, e1, ?_, f3, rep_wrs f4⟩
  intro C K w hC hR hv j v hj
  obtain ⟨hj1, hj2⟩ := List.getElem?_eq_some_iff.1 hj
  rw [List.length_cons, List.length_cons, List.length_cons, List.length_cons] at hj1
  have := e4 j hj1
  rw [← hj2]
  refine Eq.trans ?_ (this.trans ?_)
  ·exact World.cell?_of_block (by rw [Array.getElem?_eq_getElem e2]; exact hv.base.blk b _ (hC.blk b _ (Array.getElem?_eq_getElem e2)))
  match j, hj1 with
  | 0, _ => rfl
  | 1, _ => rfl
  | 2, _ => rfl
  | 3, _ => simp
end Go.Pm
/- StoreActs: the law's walk. -/
namespace Go.Proofs.YtffmbdagjpdieaaGreat
open Go.RowKit Go.Pm
theorem l17dcallable4 : Callable Tryz.prog 4 := ⟨_, Tryz.func4, by kernel_rfl, by kernel_rfl⟩
theorem l17des22 (w : World) : (sizeOf (Tryz.prog.elem 22)).run Tryz.prog w = .ok 4 w := by kernel_rfl
theorem l17dal35 (w : World) : (Instr.alloc 35 true (.tuple #[])).run Tryz.prog w = .ok (.pointer (some ⟨w.heap.size, 0, none⟩)) (w.alloc (.cells ([.int .i64 0, .int .i64 0, .int .i64 0, .slice none 0 0] : List Value).toArray 35)) := by kernel_rfl
theorem l17dsz35 : (Tryz.prog.info? 35).map (·.size) = some 4 := by kernel_rfl
theorem l17dcallable6 : Callable Tryz.prog 6 := ⟨_, Tryz.func6, by kernel_rfl, by kernel_rfl⟩
theorem l17dfa35_0 (w : World) (b o : Nat) : (Instr.fieldAt 35 (.pointer (some ⟨b, o, none⟩)) 0).run Tryz.prog w = .ok (.pointer (some ⟨b, o + 0, none⟩)) w := by kernel_rfl
theorem l17dcallable7 : Callable Tryz.prog 7 := ⟨_, Tryz.func7, by kernel_rfl, by kernel_rfl⟩
theorem l17dcallable9 : Callable Tryz.prog 9 := ⟨_, Tryz.func9, by kernel_rfl, by kernel_rfl⟩
theorem l17dcallable16 : Callable Tryz.prog 16 := ⟨_, Tryz.func16, by kernel_rfl, by kernel_rfl⟩
theorem l17dcallable11 : Callable Tryz.prog 11 := ⟨_, Tryz.func11, by kernel_rfl, by kernel_rfl⟩
theorem l17dcallable12 : Callable Tryz.prog 12 := ⟨_, Tryz.func12, by kernel_rfl, by kernel_rfl⟩
theorem l17dcallable14 : Callable Tryz.prog 14 := ⟨_, Tryz.func14, by kernel_rfl, by kernel_rfl⟩
set_option maxHeartbeats 8000000 in
theorem storeActsMain (B : Base) (H : List Res) (w : World) (ad : Option Addr) (c n : Nat) (hr : ActsRd B ad n) (hv : Inv B H w) :
  Calls Tryz.prog 3 #[.slice ad n c] w fun e w' => e = .returned (.bool true) ∧ Inv B H w' := by
 refine cW Tryz.func3 rfl Tryz.ntmps3 ?_
 simp only [al]
 refine sK fun _ k1 => rL (xA (.bool false) rfl ?_)
 simp only [zP, po]
 refine wK k1 (sK fun _ k2 => ?_)
 refine sK fun _ k3 => rL (xC l17dcallable4 rfl ((lawAwake B _ _ hv).mono ?_) rfl)
 rintro e w4 ⟨rfl, hv⟩
 refine ⟨_, rfl, ?_⟩
 refine xG (.bool false) rfl (ex_not rfl rfl rfl) (xM (.bool false) rfl ?_)
 simp only [zP, po]
 refine xM (.slice ad n c) rfl (xG (.int .i64 (n : Int)) rfl (ex_len0 Tryz.underlying22 rfl rfl) ?_)
 by_cases hb5 : (n : Int) > 40
 ·refine xG (.bool true) rfl (ex_gtr rfl rfl rfl (decide_eq_true hb5)) ?_
  simp only [zP, po]
  refine xK false (.bool true) rfl ?_
  simp only [zP, po]
  refine wK k3 (cT rfl ?_)
  refine sK fun _ k6 => rL (xC l17dcallable4 rfl ((lawAwake B _ _ hv).mono ?_) rfl)
  rintro e w7 ⟨rfl, hv⟩
  refine ⟨_, rfl, ?_⟩
  refine xA (.bool true) rfl ?_
  simp only [zP, po]
  refine wK k6 (rR ?_)
  refine tR (bR rfl rfl ?_)
  exact ⟨rfl, hv⟩
 refine xG (.bool false) rfl (ex_gtr rfl rfl rfl (decide_eq_false hb5)) ?_
 simp only [zP, po]
 refine xK false (.bool false) rfl ?_
 simp only [zP, po]
 refine wK k3 (cF rfl ?_)
 refine kS (tK k2 ?_)
 refine sK fun _ k8 => rL (xC s27callable5 rfl ((storeNew B _ _ hv).mono ?_) rfl)
 rintro e w9 ⟨s, p, rfl, hv⟩
 refine ⟨_, rfl, ?_⟩
 refine xA (.pointer (some ⟨s, 0, none⟩)) rfl ?_
 simp only [zP, po]
 refine wK k8 (sK fun _ k10 => ?_)
 refine rL (xG (.agg #[.slice none 0 0, .slice none 0 0, .int .i64 0, .int .i64 0]) rfl (ex_buildN (vs := #[]) rfl (by simp only [List.map_toArray, List.map_nil]) (by kernel_rfl)) ?_)
 refine sl_box (L := [.slice none 0 0, .slice none 0 0, .int .i64 0, .int .i64 0]) tV (wn rfl) rfl rfl hv (fun w => by kernel_rfl) (fun b11 w12 hv => ?_)
 refine xA (.pointer (some ⟨b11, 0, none⟩)) rfl ?_
 simp only [zP, po]
 refine wK k10 (sK fun _ k13 => ?_)
 refine sK fun _ k14 => rL (xA (.int .i64 0) rfl ?_)
 simp only [zP, po]
 refine wK k14 (bB ?_)
 gi_loopw [5] (fun x5 wr => ∃ (i : Nat) (C : Base) (p : Nat) (v : Value) (X : List (List Ent)) (bvs : List Value) (M : Model) (last mark : Int) (ka ca : Option Addr) (kc cc : Nat) (cvs : List Value), x5 = .int .i64 (i : Int) ∧ B.Le C ∧ i ≤ n ∧ M.length ≤ 12 * i ∧ IxM C X M ∧ RefM C ka ca kc cc cvs M ∧ StoM M last ∧ (0 ≤ last ∧ last ≤ 1152921504606846975) ∧ Inv C (Res.cell s [.pointer (some ⟨p, 0, none⟩), .int .i64 last, .int .i64 mark] 65 :: ixS 89 101 100 p v (M.length : Int) X bvs :: Res.cell b11 [.slice ka M.length kc, .slice ca M.length cc, .int .i64 last, .int .i64 mark] 32 :: H) wr) (fun x5 _ => n - (intOf x5).toNat)
 case atStart => exact ⟨0, B, p, _, [], [], [], 0, 0, none, none, 0, 0, [], rfl, Base.Le.refl _, Nat.zero_le _, Nat.zero_le _, ixm_nil B, refM_nil B, StoM.nil, ⟨by omega, by omega⟩, ((hv.front 2 rfl).front 2 rfl)⟩
 case round =>
  obtain ⟨i, C, p, v, X, bvs, M, last, mark, ka, ca, kc, cc, cvs, rfl, hBC, hi, hMl, hx, hrf, hsto, h0, hv⟩ := hrel
  refine sK fun _ k16 => sK fun _ k17 => rL (xM (.int .i64 (i : Int)) rfl ?_)
  refine xM (.slice ad n c) rfl (xG (.int .i64 (n : Int)) rfl (ex_len0 Tryz.underlying22 rfl rfl) ?_)
  simp only [zP, po]
  by_cases hb18 : (i : Int) < (n : Int)
  ·refine xG (.bool true) rfl (ex_lss rfl rfl rfl (decide_eq_true hb18)) ?_
   simp only [zP, po]
   refine wK k17 (cT rfl ?_)
   refine kS (tK k16 ?_)
   refine sK fun _ k19 => bB (sK fun _ k20 => ?_)
   obtain ⟨bb, bo, kd, sq, ck, wa, wc, ws, ys, had, hrd, hwr, hwrs⟩ := hr i (by omega)
   subst had
   refine rL (xM (.slice (some ⟨bb, bo, none⟩) n c) rfl ?_)
   refine xM (.int .i64 (i : Int)) rfl (xG (.pointer (some ⟨bb, bo + i * 4, none⟩)) rfl (ex_index rfl rfl rfl (run_idx (k := i) Tryz.underlying22 l17des22 (by omega))) ?_)
   simp only [zP, po]
   refine xL (.agg #[.int .i64 kd, .int .i64 sq, .int .i64 ck, .slice wa ws.length wc]) rfl (run_loadR (cs := [.int .i64 kd, .int .i64 sq, .int .i64 ck, .slice wa ws.length wc]) s39wd35 (Reads.mid (pre := []) (mid := [.int .i64 kd, .int .i64 sq, .int .i64 ck, .slice wa ws.length wc]) (post := []) hrd _ _ _ hBC no_res hv)) (sl_alloc tV (wn rfl) rfl hv l17dal35 (fun b21 w22 hv => ?_))
   refine xS 0 rfl hv l17dsz35 rfl (by exact ⟨rfl, rfl, rfl, rfl, trivial⟩) (fun w23 hv => ?_)
   simp only [zO, sp] at hv
   simp only [zP, po]
   refine wK k20 (sK fun _ k24 => ?_)
   refine sK fun _ k25 => rL (xF (.pointer (some ⟨b21, 3, none⟩)) rfl (s39fa35_3 _ _ _) ?_)
   refine xL _ rfl (run_load1 s39na33 (hv.load 0 3 rfl rfl)) (xC l17dcallable6 rfl ((lawSmall C _ _ wa wc ws ys (hwr.more hBC (fun _ h => h)) (hwrs.more hBC) hv).mono ?_) rfl)
   rintro e w27 ⟨bl26, rfl, hbl26, hv⟩
   refine ⟨_, rfl, ?_⟩
   cases bl26
   ·simp only [zP, po]
    refine xG (.bool true) rfl (ex_not rfl rfl rfl) ?_
    simp only [zP, po]
    refine wK k25 (cT rfl ?_)
    refine sK fun _ k28 => rL (xA (.bool true) rfl ?_)
    simp only [zP, po]
    refine wK k28 (rR ?_)
    refine tR (bE ?_)
    refine tR (tR ?_)
    refine bE (tR ?_)
    refine bR rfl rfl (⟨rfl, ((hv.sub (List.Sublist.cons _ (List.Sublist.cons _ (List.Sublist.cons _ (List.Sublist.cons _ (List.Sublist.refl _))))))).weak hBC⟩)
   simp only [zP, po]
   refine xG (.bool false) rfl (ex_not rfl rfl rfl) ?_
   simp only [zP, po]
   refine wK k25 (cF rfl ?_)
   refine kS (tK k24 ?_)
   refine sK fun _ k29 => rL (xA (.bool true) rfl ?_)
   simp only [zP, po]
   refine wK k29 (sK fun _ k30 => ?_)
   refine sK fun _ k31 => ?_
   obtain ⟨hl12, hsm⟩ := hbl26 rfl
   have hwat := hwrs.at_ hsm
   refine rL (xF (.pointer (some ⟨b21, 0, none⟩)) rfl (l17dfa35_0 _ _ _) ?_)
   refine xL _ rfl (run_load1 s2na3 (hv.load 0 0 rfl rfl)) ?_
   simp only [zP, po]
   refine wK k31 (bB ?_)
   refine sK fun _ k32 => rL ?_
   by_cases hb33 : kd = 0
   ·refine xG (.bool true) rfl (ex_eql rfl rfl rfl (decide_eq_true hb33)) (xA (.bool true) rfl ?_)
    simp only [zP, po]
    refine wK k32 (cT rfl ?_)
    refine sK fun _ k34 => rL (xM (.pointer (some ⟨s, 0, none⟩)) rfl ?_)
    refine xF (.pointer (some ⟨b21, 3, none⟩)) rfl (s39fa35_3 _ _ _) (xL _ rfl (run_load1 s39na33 (hv.load 0 3 rfl rfl)) ?_)
    simp only [zP, po]
    refine xC l17dcallable7 rfl ((storeCheckR C _ _ s p v X bvs M last mark wa wc ys ws (hx.more (Base.Le.refl _)) hsto h0.1 (hwr.more hBC (fun _ h => h)) (hwat.more hBC) (by omega) ((((hv.front 3 rfl).front 1 rfl).front 3 rfl).front 3 rfl)).mono ?_) rfl
    rintro e w35 ⟨D0, e0, hD0, rfl, hac, hv⟩
    refine ⟨_, rfl, ?_⟩
    refine xA (.int .i64 e0) rfl ?_
    simp only [zP, po]
    refine wK k34 (sK fun _ k36 => ?_)
    refine rL (xM (.pointer (some ⟨s, 0, none⟩)) rfl ?_)
    refine xF (.pointer (some ⟨b21, 3, none⟩)) rfl (s39fa35_3 _ _ _) (xL _ rfl (run_load1 s39na33 (hv.load 2 3 rfl rfl)) ?_)
    simp only [zP, po]
    refine xC s27callable8 rfl ((storeApplyR D0 _ _ s p v X bvs M last mark wa wc ys ws (hx.more hD0) hsto h0.1 (hwr.more (hBC.trans hD0) (fun _ h => h)) (hwat.more (hBC.trans hD0)) (by omega) (by omega) ((((hv.front 3 rfl).front 3 rfl).front 3 rfl).front 3 rfl)).mono ?_) rfl
    rintro e w37 ⟨D1, n1, e1, v1, X1, f1, M1, l1, hD1, rfl, hX1, hAp, hv⟩
    refine ⟨_, rfl, ?_⟩
    refine xM (.tuple #[.int .i64 n1, .int .i64 e1]) rfl (xG (.int .i64 n1) rfl (ex_extract rfl rfl rfl) ?_)
    simp only [zP, po]
    refine xG (.int .i64 e1) rfl (ex_extract rfl rfl rfl) (xA (.int .i64 n1) rfl ?_)
    refine xA (.int .i64 e1) rfl ?_
    simp only [zP, po]
    refine wK k36 (sK fun _ k38 => ?_)
    refine rL (xM (.pointer (some ⟨b11, 0, none⟩)) rfl ?_)
    refine xF (.pointer (some ⟨b21, 3, none⟩)) rfl (s39fa35_3 _ _ _) (xL _ rfl (run_load1 s39na33 (hv.load 2 3 rfl rfl)) ?_)
    simp only [zP, po]
    refine xC l17dcallable9 rfl ((refApplyE D1 _ _ b11 ka ca kc cc cvs M last mark wa wc ys ws (hrf.more (hD0.trans hD1)) hsto h0 (hwr.more ((hBC.trans hD0).trans hD1) (fun _ h => h)) (hwat.more ((hBC.trans hD0).trans hD1)) (by omega) (by omega) hAp (IxM.fine hX1) ((((hv.front 2 rfl).front 2 rfl).front 2 rfl).front 3 rfl)).mono ?_) rfl
    rintro e w39 ⟨D2, ka2, ca2, kc2, cc2, cvs2, hD2, rfl, hR2, hv⟩
    refine ⟨_, rfl, ?_⟩
    refine xM (.tuple #[.int .i64 n1, .int .i64 e1]) rfl (xG (.int .i64 n1) rfl (ex_extract rfl rfl rfl) ?_)
    simp only [zP, po]
    refine xG (.int .i64 e1) rfl (ex_extract rfl rfl rfl) (xA (.int .i64 n1) rfl ?_)
    refine xA (.int .i64 e1) rfl ?_
    simp only [zP, po]
    refine wK k38 (rL ?_)
    refine xM (.int .i64 n1) rfl (xM (.int .i64 n1) rfl ?_)
    refine xG (.bool true) rfl (ex_eql rfl rfl rfl (decide_eq_true (rfl))) ?_
    simp only [zP, po]
    refine xM (.bool true) rfl (xM (.int .i64 e1) rfl ?_)
    refine xM (.int .i64 e1) rfl ?_
    simp only [zP, po]
    refine xG (.bool true) rfl (ex_eql rfl rfl rfl (decide_eq_true (rfl))) (xK true (.bool true) rfl ?_)
    refine xM (.bool true) rfl ?_
    simp only [zP, po]
    refine xM (.int .i64 e0) rfl (xM (.int .i64 e1) rfl ?_)
    refine xG (.bool true) rfl (ex_eql rfl rfl rfl (decide_eq_true (hac.uniq hAp.1))) ?_
    simp only [zP, po]
    refine xK true (.bool true) rfl (xA (.bool true) rfl ?_)
    refine wL ?_
    simp only [zP, po]
    refine bN (tK k30 ?_)
    refine sK fun _ k40 => ?_
    obtain ⟨hsto1, h01, hlen1⟩ := hAp.sto hsto h0
    refine rL (xM (.bool true) rfl ?_)
    refine xG (.bool false) rfl (ex_not rfl rfl rfl) (xM (.bool false) rfl ?_)
    simp only [zP, po]
    refine xM (.pointer (some ⟨s, 0, none⟩)) rfl (xM (.pointer (some ⟨b11, 0, none⟩)) rfl ?_)
    refine xL (.agg #[.int .i64 kd, .int .i64 sq, .int .i64 ck, .slice wa ws.length wc]) rfl (run_load_mid (pre := []) (mid := [.int .i64 kd, .int .i64 sq, .int .i64 ck, .slice wa ws.length wc]) (post := []) s39wd35 (show Blk _ b21 ([] ++ [.int .i64 kd, .int .i64 sq, .int .i64 ck, .slice wa ws.length wc] ++ []) _ from hv.get 3 rfl) rfl) ?_
    simp only [zP, po]
    refine xC l17dcallable16 rfl ((lawLooks D2 _ _ s p v1 X1 f1 M1 l1 mark b11 ka2 ca2 kc2 cc2 cvs2 kd sq ck wa wc ys ws (hX1.more hD2) (hR2.more (Base.Le.refl _)) hsto1.asc (hwr.more (((hBC.trans hD0).trans hD1).trans hD2) (fun _ h => h)) (hwat.more (((hBC.trans hD0).trans hD1).trans hD2)) ((((hv.front 3 rfl).front 1 rfl).front 3 rfl).front 3 rfl)).mono ?_) rfl
    rintro e w41 ⟨G, hG, rfl, hv⟩
    refine ⟨_, rfl, ?_⟩
    refine xG (.bool false) rfl (ex_not rfl rfl rfl) (xK false (.bool false) rfl ?_)
    simp only [zP, po]
    refine wK k40 (cF rfl ?_)
    refine kS (bN ?_)
    refine tK k19 (rL ?_)
    refine xM (.int .i64 (i : Int)) rfl (xG (.int .i64 ((i + 1 : Nat) : Int)) rfl (ex_add rfl rfl rfl (by rw [i64_in (by omega)]; omega)) ?_)
    refine xA (.int .i64 ((i + 1 : Nat) : Int)) rfl (wL ?_)
    simp only [zP, po]
    refine then_normal ?_
    go_roundw
    case rel => exact ⟨i + 1, _, _, _, _, _, _, _, _, _, _, _, _, _, rfl, ((((hBC.trans hD0).trans hD1).trans hD2).trans hG), by omega, by omega, hX1.more (hD2.trans hG), hR2.more hG, hsto1, h01, ((((hv.front 2 rfl).front 2 rfl).front 2 rfl).sub (List.Sublist.cons_cons _ (List.Sublist.cons_cons _ (List.Sublist.cons_cons _ (List.Sublist.cons _ (List.Sublist.refl _))))))⟩
    case measure => show n - (((i + 1 : Nat) : Int)).toNat < n - ((i : Int)).toNat; omega
   refine xG (.bool false) rfl (ex_eql rfl rfl rfl (decide_eq_false hb33)) (xA (.bool false) rfl ?_)
   simp only [zP, po]
   refine wK k32 (cF rfl ?_)
   refine sK fun _ k42 => rL ?_
   by_cases hb43 : kd = 1
   ·refine xG (.bool true) rfl (ex_eql rfl rfl rfl (decide_eq_true hb43)) (xA (.bool true) rfl ?_)
    simp only [zP, po]
    refine wK k42 (cT rfl ?_)
    refine sK fun _ k44 => rL (xF (.pointer (some ⟨b21, 1, none⟩)) rfl (s39fa35_1 _ _ _) ?_)
    refine xL _ rfl (run_load1 s2na3 (hv.load 0 1 rfl rfl)) (xA (.int .i64 sq) rfl ?_)
    simp only [zP, po]
    refine wK k44 (sK fun _ k45 => ?_)
    refine sK fun _ k46 => rL (xM (.int .i64 sq) rfl ?_)
    by_cases hb47 : sq < 0
    ·refine xG (.bool true) rfl (ex_lss rfl rfl rfl (decide_eq_true hb47)) ?_
     simp only [zP, po]
     refine wK k46 (cT rfl ?_)
     obtain ⟨cm, hcm⟩ : ∃ cm : Int, (if (-9 : Int) > sq then -9 else sq) = cm := ⟨_, rfl⟩
     have hcm1 : -9 ≤ cm ∧ cm ≤ 0 := by rw [← hcm]; split <;> omega
     obtain ⟨mk, hmk⟩ : ∃ mk : Int, (if (0 : Int) > last + cm then 0 else last + cm) = mk := ⟨_, rfl⟩
     refine rL (xM (.pointer (some ⟨b11, 0, none⟩)) rfl ?_)
     refine xG (.pointer (some ⟨b11, 0, none⟩)) rfl (ex_nil rfl rfl) (xF (.pointer (some ⟨b11, 2, none⟩)) rfl (s35fa32_1 _ _ _) ?_)
     simp only [zP, po]
     refine xL _ rfl (run_load1 s2na3 (hv.load 3 2 rfl rfl)) (xM (.int .i64 sq) rfl ?_)
     refine xG (.int .i64 cm) rfl (ex_max2 (m := sq) (n := (-9)) rfl rfl rfl hcm) ?_
     simp only [zP, po]
     refine xG (.int .i64 (last + cm)) rfl (ex_add rfl rfl rfl (i64_in (by omega))) (xG (.int .i64 mk) rfl (ex_max2 (m := (last + cm)) (n := 0) rfl rfl rfl hmk) ?_)
     refine xA (.int .i64 mk) rfl ?_
     simp only [zP, po]
     refine wK k45 (sK fun _ k48 => ?_)
     refine rL (xM (.pointer (some ⟨s, 0, none⟩)) rfl ?_)
     refine xM (.int .i64 mk) rfl (xF (.pointer (some ⟨b21, 2, none⟩)) rfl (s39fa35_2 _ _ _) ?_)
     simp only [zP, po]
     refine xL _ rfl (run_load1 s2na3 (hv.load 0 2 rfl rfl)) (xC s27callable10 rfl ((storePruneR C _ _ s p v X bvs M last mark mk ck (hx.more (Base.Le.refl _)) (by omega) hsto.asc ((((hv.front 3 rfl).front 1 rfl).front 3 rfl).front 3 rfl)).mono ?_) rfl)
     rintro e w49 ⟨D1, n1, e1, v1, X1, f1, M1, m1, hD1, rfl, hX1, hPr, hv⟩
     refine ⟨_, rfl, ?_⟩
     refine xM (.tuple #[.int .i64 n1, .int .i64 e1]) rfl ?_
     simp only [zP, po]
     refine xG (.int .i64 n1) rfl (ex_extract rfl rfl rfl) (xG (.int .i64 e1) rfl (ex_extract rfl rfl rfl) ?_)
     refine xA (.int .i64 n1) rfl ?_
     simp only [zP, po]
     refine xA (.int .i64 e1) rfl ?_
     simp only [zP, po]
     refine wK k48 (sK fun _ k50 => ?_)
     refine rL (xM (.pointer (some ⟨b11, 0, none⟩)) rfl ?_)
     refine xM (.int .i64 mk) rfl (xF (.pointer (some ⟨b21, 2, none⟩)) rfl (s39fa35_2 _ _ _) ?_)
     simp only [zP, po]
     refine xL _ rfl (run_load1 s2na3 (hv.load 2 2 rfl rfl)) (xC l17dcallable11 rfl ((refPruneE D1 _ _ b11 ka ca kc cc cvs M last mark mk ck (hrf.more hD1) hsto.asc hPr (IxM.fine hX1) ((((hv.front 2 rfl).front 2 rfl).front 2 rfl).front 3 rfl)).mono ?_) rfl)
     rintro e w51 ⟨D2, ka2, ca2, kc2, cc2, cvs2, hD2, rfl, hR2, hv⟩
     refine ⟨_, rfl, ?_⟩
     refine xM (.tuple #[.int .i64 n1, .int .i64 e1]) rfl ?_
     simp only [zP, po]
     refine xG (.int .i64 n1) rfl (ex_extract rfl rfl rfl) (xG (.int .i64 e1) rfl (ex_extract rfl rfl rfl) ?_)
     refine xA (.int .i64 n1) rfl ?_
     simp only [zP, po]
     refine xA (.int .i64 e1) rfl ?_
     simp only [zP, po]
     refine wK k50 (rL ?_)
     refine xM (.int .i64 n1) rfl (xM (.int .i64 n1) rfl ?_)
     refine xG (.bool true) rfl (ex_eql rfl rfl rfl (decide_eq_true (rfl))) ?_
     simp only [zP, po]
     refine xM (.bool true) rfl (xM (.int .i64 e1) rfl ?_)
     refine xM (.int .i64 e1) rfl ?_
     simp only [zP, po]
     refine xG (.bool true) rfl (ex_eql rfl rfl rfl (decide_eq_true (rfl))) (xK true (.bool true) rfl ?_)
     refine xA (.bool true) rfl (wL ?_)
     simp only [zP, po]
     refine bN (tK k30 ?_)
     refine sK fun _ k52 => ?_
     obtain ⟨hsto1, hlen1⟩ := hPr.sto hsto (IxM.fine hx) (IxM.fine hX1)
     refine rL (xM (.bool true) rfl ?_)
     refine xG (.bool false) rfl (ex_not rfl rfl rfl) (xM (.bool false) rfl ?_)
     simp only [zP, po]
     refine xM (.pointer (some ⟨s, 0, none⟩)) rfl (xM (.pointer (some ⟨b11, 0, none⟩)) rfl ?_)
     refine xL (.agg #[.int .i64 kd, .int .i64 sq, .int .i64 ck, .slice wa ws.length wc]) rfl (run_load_mid (pre := []) (mid := [.int .i64 kd, .int .i64 sq, .int .i64 ck, .slice wa ws.length wc]) (post := []) s39wd35 (show Blk _ b21 ([] ++ [.int .i64 kd, .int .i64 sq, .int .i64 ck, .slice wa ws.length wc] ++ []) _ from hv.get 3 rfl) rfl) ?_
     simp only [zP, po]
     refine xC l17dcallable16 rfl ((lawLooks D2 _ _ s p v1 X1 f1 M1 last m1 b11 ka2 ca2 kc2 cc2 cvs2 kd sq ck wa wc ys ws (hX1.more hD2) (hR2.more (Base.Le.refl _)) hsto1.asc (hwr.more ((hBC.trans hD1).trans hD2) (fun _ h => h)) (hwat.more ((hBC.trans hD1).trans hD2)) ((((hv.front 3 rfl).front 1 rfl).front 3 rfl).front 3 rfl)).mono ?_) rfl
     rintro e w53 ⟨G, hG, rfl, hv⟩
     refine ⟨_, rfl, ?_⟩
     refine xG (.bool false) rfl (ex_not rfl rfl rfl) (xK false (.bool false) rfl ?_)
     simp only [zP, po]
     refine wK k52 (cF rfl ?_)
     refine kS (bN ?_)
     refine tK k19 (rL ?_)
     refine xM (.int .i64 (i : Int)) rfl (xG (.int .i64 ((i + 1 : Nat) : Int)) rfl (ex_add rfl rfl rfl (by rw [i64_in (by omega)]; omega)) ?_)
     refine xA (.int .i64 ((i + 1 : Nat) : Int)) rfl (wL ?_)
     simp only [zP, po]
     refine then_normal ?_
     go_roundw
     case rel => exact ⟨i + 1, _, _, _, _, _, _, _, _, _, _, _, _, _, rfl, (((hBC.trans hD1).trans hD2).trans hG), by omega, by omega, hX1.more (hD2.trans hG), hR2.more hG, hsto1, h0, ((((hv.front 2 rfl).front 2 rfl).front 2 rfl).sub (List.Sublist.cons_cons _ (List.Sublist.cons_cons _ (List.Sublist.cons_cons _ (List.Sublist.cons _ (List.Sublist.refl _))))))⟩
     case measure => show n - (((i + 1 : Nat) : Int)).toNat < n - ((i : Int)).toNat; omega
    refine xG (.bool false) rfl (ex_lss rfl rfl rfl (decide_eq_false hb47)) ?_
    simp only [zP, po]
    refine wK k46 (cF rfl ?_)
    refine kS (tK k45 ?_)
    refine sK fun _ k54 => rL (xM (.pointer (some ⟨s, 0, none⟩)) rfl ?_)
    refine xM (.int .i64 sq) rfl (xF (.pointer (some ⟨b21, 2, none⟩)) rfl (s39fa35_2 _ _ _) ?_)
    simp only [zP, po]
    refine xL _ rfl (run_load1 s2na3 (hv.load 0 2 rfl rfl)) (xC s27callable10 rfl ((storePruneR C _ _ s p v X bvs M last mark sq ck (hx.more (Base.Le.refl _)) (by omega) hsto.asc ((((hv.front 3 rfl).front 1 rfl).front 3 rfl).front 3 rfl)).mono ?_) rfl)
    rintro e w55 ⟨D1, n1, e1, v1, X1, f1, M1, m1, hD1, rfl, hX1, hPr, hv⟩
    refine ⟨_, rfl, ?_⟩
    refine xM (.tuple #[.int .i64 n1, .int .i64 e1]) rfl ?_
    simp only [zP, po]
    refine xG (.int .i64 n1) rfl (ex_extract rfl rfl rfl) (xG (.int .i64 e1) rfl (ex_extract rfl rfl rfl) ?_)
    refine xA (.int .i64 n1) rfl ?_
    simp only [zP, po]
    refine xA (.int .i64 e1) rfl ?_
    simp only [zP, po]
    refine wK k54 (sK fun _ k56 => ?_)
    refine rL (xM (.pointer (some ⟨b11, 0, none⟩)) rfl ?_)
    refine xM (.int .i64 sq) rfl (xF (.pointer (some ⟨b21, 2, none⟩)) rfl (s39fa35_2 _ _ _) ?_)
    simp only [zP, po]
    refine xL _ rfl (run_load1 s2na3 (hv.load 2 2 rfl rfl)) (xC l17dcallable11 rfl ((refPruneE D1 _ _ b11 ka ca kc cc cvs M last mark sq ck (hrf.more hD1) hsto.asc hPr (IxM.fine hX1) ((((hv.front 2 rfl).front 2 rfl).front 2 rfl).front 3 rfl)).mono ?_) rfl)
    rintro e w57 ⟨D2, ka2, ca2, kc2, cc2, cvs2, hD2, rfl, hR2, hv⟩
    refine ⟨_, rfl, ?_⟩
    refine xM (.tuple #[.int .i64 n1, .int .i64 e1]) rfl ?_
    simp only [zP, po]
    refine xG (.int .i64 n1) rfl (ex_extract rfl rfl rfl) (xG (.int .i64 e1) rfl (ex_extract rfl rfl rfl) ?_)
    refine xA (.int .i64 n1) rfl ?_
    simp only [zP, po]
    refine xA (.int .i64 e1) rfl ?_
    simp only [zP, po]
    refine wK k56 (rL ?_)
    refine xM (.int .i64 n1) rfl (xM (.int .i64 n1) rfl ?_)
    refine xG (.bool true) rfl (ex_eql rfl rfl rfl (decide_eq_true (rfl))) ?_
    simp only [zP, po]
    refine xM (.bool true) rfl (xM (.int .i64 e1) rfl ?_)
    refine xM (.int .i64 e1) rfl ?_
    simp only [zP, po]
    refine xG (.bool true) rfl (ex_eql rfl rfl rfl (decide_eq_true (rfl))) (xK true (.bool true) rfl ?_)
    refine xA (.bool true) rfl (wL ?_)
    simp only [zP, po]
    refine bN (tK k30 ?_)
    refine sK fun _ k58 => ?_
    obtain ⟨hsto1, hlen1⟩ := hPr.sto hsto (IxM.fine hx) (IxM.fine hX1)
    refine rL (xM (.bool true) rfl ?_)
    refine xG (.bool false) rfl (ex_not rfl rfl rfl) (xM (.bool false) rfl ?_)
    simp only [zP, po]
    refine xM (.pointer (some ⟨s, 0, none⟩)) rfl (xM (.pointer (some ⟨b11, 0, none⟩)) rfl ?_)
    refine xL (.agg #[.int .i64 kd, .int .i64 sq, .int .i64 ck, .slice wa ws.length wc]) rfl (run_load_mid (pre := []) (mid := [.int .i64 kd, .int .i64 sq, .int .i64 ck, .slice wa ws.length wc]) (post := []) s39wd35 (show Blk _ b21 ([] ++ [.int .i64 kd, .int .i64 sq, .int .i64 ck, .slice wa ws.length wc] ++ []) _ from hv.get 3 rfl) rfl) ?_
    simp only [zP, po]
    refine xC l17dcallable16 rfl ((lawLooks D2 _ _ s p v1 X1 f1 M1 last m1 b11 ka2 ca2 kc2 cc2 cvs2 kd sq ck wa wc ys ws (hX1.more hD2) (hR2.more (Base.Le.refl _)) hsto1.asc (hwr.more ((hBC.trans hD1).trans hD2) (fun _ h => h)) (hwat.more ((hBC.trans hD1).trans hD2)) ((((hv.front 3 rfl).front 1 rfl).front 3 rfl).front 3 rfl)).mono ?_) rfl
    rintro e w59 ⟨G, hG, rfl, hv⟩
    refine ⟨_, rfl, ?_⟩
    refine xG (.bool false) rfl (ex_not rfl rfl rfl) (xK false (.bool false) rfl ?_)
    simp only [zP, po]
    refine wK k58 (cF rfl ?_)
    refine kS (bN ?_)
    refine tK k19 (rL ?_)
    refine xM (.int .i64 (i : Int)) rfl (xG (.int .i64 ((i + 1 : Nat) : Int)) rfl (ex_add rfl rfl rfl (by rw [i64_in (by omega)]; omega)) ?_)
    refine xA (.int .i64 ((i + 1 : Nat) : Int)) rfl (wL ?_)
    simp only [zP, po]
    refine then_normal ?_
    go_roundw
    case rel => exact ⟨i + 1, _, _, _, _, _, _, _, _, _, _, _, _, _, rfl, (((hBC.trans hD1).trans hD2).trans hG), by omega, by omega, hX1.more (hD2.trans hG), hR2.more hG, hsto1, h0, ((((hv.front 2 rfl).front 2 rfl).front 2 rfl).sub (List.Sublist.cons_cons _ (List.Sublist.cons_cons _ (List.Sublist.cons_cons _ (List.Sublist.cons _ (List.Sublist.refl _))))))⟩
    case measure => show n - (((i + 1 : Nat) : Int)).toNat < n - ((i : Int)).toNat; omega
   refine xG (.bool false) rfl (ex_eql rfl rfl rfl (decide_eq_false hb43)) (xA (.bool false) rfl ?_)
   simp only [zP, po]
   refine wK k42 (cF rfl ?_)
   refine sK fun _ k60 => rL ?_
   by_cases hb61 : kd = 2
   ·refine xG (.bool true) rfl (ex_eql rfl rfl rfl (decide_eq_true hb61)) (xA (.bool true) rfl ?_)
    simp only [zP, po]
    refine wK k60 (cT rfl ?_)
    have hdle := dumpM_le M last ck
    refine rW mixed [8, 9, 18, 19] [0,1,2,3,4,5,6,7,10,11,12,13,14,15,16,17,8,9,18,19,20,21] 163 rfl (by kernel_rfl) hv ?_
    simp only [qm, opAt]
    refine dM (.pointer (some ⟨s, 0, none⟩)) rfl (dM (.pointer (some ⟨b11, 0, none⟩)) rfl ?_)
    refine dG (.pointer (some ⟨b11, 0, none⟩)) rfl (ex_nil rfl rfl) ?_
    simp only [zP, po]
    refine dG (.pointer (some ⟨b11, 2, none⟩)) rfl (ex_field rfl rfl (s35fa32_1 _ _ _)) (dF _ rfl (fun hv => ex_load rfl rfl (run_load1 s2na3 (hv.load 3 2 rfl rfl))) fun f62 hf62 => ?_)
    refine dM (.pointer (some ⟨s, 0, none⟩)) rfl ?_
    simp only [zP, po]
    refine dG (.pointer (some ⟨b21, 2, none⟩)) rfl (ex_field rfl rfl (s39fa35_2 _ _ _)) (dL _ rfl (fun hv => ex_load rfl rfl (run_load1 s2na3 (hv.load 0 2 rfl rfl))) ?_)
    refine dM (.pointer (some ⟨b11, 0, none⟩)) rfl ?_
    simp only [zP, po]
    refine dM (.pointer (some ⟨b11, 0, none⟩)) rfl (dG (.pointer (some ⟨b11, 0, none⟩)) rfl (ex_nil rfl rfl) ?_)
    refine dG (.pointer (some ⟨b11, 2, none⟩)) rfl (ex_field rfl rfl (s35fa32_1 _ _ _)) ?_
    simp only [zP, po]
    refine dF _ rfl (fun hv => ex_load rfl rfl (run_load1 s2na3 (hv.load 3 2 rfl rfl))) fun f63 hf63 => dM (.pointer (some ⟨b11, 0, none⟩)) rfl (dG (.pointer (some ⟨b21, 2, none⟩)) rfl (ex_field rfl rfl (s39fa35_2 _ _ _)) ?_)
    simp only [zP, po]
    refine dF _ rfl (fun hv => ex_load rfl rfl (run_load1 s2na3 (hv.load 0 2 rfl rfl))) fun f64 hf64 => dS rfl fun w65 hv => mC s39callable13 rfl ((storeDump C _ _ s p v X bvs M last mark ck (hx.more (Base.Le.refl _)) hsto.asc ((((hv.front 3 rfl).front 1 rfl).front 3 rfl).front 3 rfl)).mono ?_) rfl
    rintro e w66 ⟨E1, da1, dc1, dys1, hE1, rfl, -, hDR1, hDW1, hv⟩
    refine ⟨_, rfl, dV hv (fC (fun ww hv => hf64 ww (ex_load rfl rfl (run_load1 s2na3 (hv.load 2 2 rfl rfl)))) (fC (fun ww hv => hf63 ww (ex_load rfl rfl (run_load1 s2na3 (hv.load 3 2 rfl rfl)))) (fC (fun ww hv => hf62 ww (ex_load rfl rfl (run_load1 s2na3 (hv.load 3 2 rfl rfl)))) fN))) ?_⟩
    refine dS rfl fun w67 hv => mC l17dcallable12 rfl ((storeLoadR E1 _ _ s p v X bvs M last mark last da1 dc1 dys1 (dumpM M last ck) (hx.more hE1) (hDR1.more (Base.Le.refl _) (fun _ h => h)) (hDW1.more (Base.Le.refl _)) (by omega) ((((hv.front 3 rfl).front 3 rfl).front 3 rfl).front 3 rfl)).mono ?_) rfl
    rintro e w68 ⟨D1, e1, p1, v1, X1, f1, M1, l1, m1, hD1, rfl, hX1, hLd, hv⟩
    refine ⟨_, rfl, dV hv (fC (fun ww hv => hf64 ww (ex_load rfl rfl (run_load1 s2na3 (hv.load 2 2 rfl rfl)))) (fC (fun ww hv => hf63 ww (ex_load rfl rfl (run_load1 s2na3 (hv.load 3 2 rfl rfl)))) (fK rfl fN))) ?_⟩
    simp only [zP, po]
    refine dS rfl fun w69 hv => mC s39callable15 rfl ((refDump D1 _ _ b11 ka ca kc cc cvs M last mark ck (hrf.more (hE1.trans hD1)) [_] (fun r9 hr9 => by rw [List.mem_singleton.1 hr9]; exact List.mem_of_getElem? (i := 3) rfl) reads_cell hsto.asc hv).mono ?_) rfl
    rintro e w70 ⟨E3, da2, dc2, dys2, hE3, rfl, -, hDR2, hDW2, hv⟩
    refine ⟨_, rfl, dV hv (fK rfl (fC (fun ww hv => hf63 ww (ex_load rfl rfl (run_load1 s2na3 (hv.load 3 2 rfl rfl)))) (fK rfl fN))) ?_⟩
    refine dS rfl fun w71 hv => mC l17dcallable14 rfl ((refLoadE E3 _ _ b11 ka ca kc cc cvs M last mark last da2 dc2 dys2 (dumpM M last ck) (hrf.more ((hE1.trans hD1).trans hE3)) (hDR2.more (Base.Le.refl _) (fun _ h => h)) (hDW2.more (Base.Le.refl _)) (by omega) hLd (IxM.fine hX1) ((((hv.front 2 rfl).front 2 rfl).front 2 rfl).front 3 rfl)).mono ?_) rfl
    rintro e w72 ⟨D2, ka2, ca2, kc2, cc2, cvs2, hD2, rfl, hR2, hv⟩
    refine ⟨_, rfl, dV hv (fK rfl (fK rfl (fK rfl fN))) ?_⟩
    refine dG (.bool true) rfl (ex_eql rfl rfl rfl (decide_eq_true (rfl))) ?_
    simp only [zP, po]
    refine dA (.bool true) rfl (dE fun w73 hv => ?_)
    simp only [zP, po]
    refine bN (tK k30 ?_)
    refine sK fun _ k74 => ?_
    obtain ⟨hsto1, h01, hlen1⟩ := hLd.sto hsto h0 (IxM.fine hX1)
    refine rL (xM (.bool true) rfl ?_)
    refine xG (.bool false) rfl (ex_not rfl rfl rfl) (xM (.bool false) rfl ?_)
    simp only [zP, po]
    refine xM (.pointer (some ⟨s, 0, none⟩)) rfl (xM (.pointer (some ⟨b11, 0, none⟩)) rfl ?_)
    refine xL (.agg #[.int .i64 kd, .int .i64 sq, .int .i64 ck, .slice wa ws.length wc]) rfl (run_load_mid (pre := []) (mid := [.int .i64 kd, .int .i64 sq, .int .i64 ck, .slice wa ws.length wc]) (post := []) s39wd35 (show Blk _ b21 ([] ++ [.int .i64 kd, .int .i64 sq, .int .i64 ck, .slice wa ws.length wc] ++ []) _ from hv.get 3 rfl) rfl) ?_
    simp only [zP, po]
    refine xC l17dcallable16 rfl ((lawLooks D2 _ _ s p1 v1 X1 f1 M1 l1 m1 b11 ka2 ca2 kc2 cc2 cvs2 kd sq ck wa wc ys ws (hX1.more (hE3.trans hD2)) (hR2.more (Base.Le.refl _)) hsto1.asc (hwr.more ((((hBC.trans hE1).trans hD1).trans hE3).trans hD2) (fun _ h => h)) (hwat.more ((((hBC.trans hE1).trans hD1).trans hE3).trans hD2)) ((((hv.front 3 rfl).front 1 rfl).front 3 rfl).front 3 rfl)).mono ?_) rfl
    rintro e w75 ⟨G, hG, rfl, hv⟩
    refine ⟨_, rfl, ?_⟩
    refine xG (.bool false) rfl (ex_not rfl rfl rfl) (xK false (.bool false) rfl ?_)
    simp only [zP, po]
    refine wK k74 (cF rfl ?_)
    refine kS (bN ?_)
    refine tK k19 (rL ?_)
    refine xM (.int .i64 (i : Int)) rfl (xG (.int .i64 ((i + 1 : Nat) : Int)) rfl (ex_add rfl rfl rfl (by rw [i64_in (by omega)]; omega)) ?_)
    refine xA (.int .i64 ((i + 1 : Nat) : Int)) rfl (wL ?_)
    simp only [zP, po]
    refine then_normal ?_
    go_roundw
    case rel => exact ⟨i + 1, _, _, _, _, _, _, _, _, _, _, _, _, _, rfl, (((((hBC.trans hE1).trans hD1).trans hE3).trans hD2).trans hG), by omega, by omega, hX1.more ((hE3.trans hD2).trans hG), hR2.more hG, hsto1, h01, ((((hv.front 2 rfl).front 2 rfl).front 2 rfl).sub (List.Sublist.cons_cons _ (List.Sublist.cons_cons _ (List.Sublist.cons_cons _ (List.Sublist.cons _ (List.Sublist.refl _))))))⟩
    case measure => show n - (((i + 1 : Nat) : Int)).toNat < n - ((i : Int)).toNat; omega
   refine xG (.bool false) rfl (ex_eql rfl rfl rfl (decide_eq_false hb61)) (xA (.bool false) rfl ?_)
   simp only [zP, po]
   refine wK k60 (cF rfl ?_)
   refine sK fun _ k76 => rL ?_
   by_cases hb77 : kd = 3
   ·refine xG (.bool true) rfl (ex_eql rfl rfl rfl (decide_eq_true hb77)) (xA (.bool true) rfl ?_)
    simp only [zP, po]
    refine wK k76 (cT rfl ?_)
    refine rW mixed [5, 11] [0,1,2,3,4,6,7,8,9,10,5,11,12,13] 163 rfl (by kernel_rfl) hv ?_
    simp only [qm, opAt]
    refine dM (.pointer (some ⟨s, 0, none⟩)) rfl (dG (.pointer (some ⟨b21, 1, none⟩)) rfl (ex_field rfl rfl (s39fa35_1 _ _ _)) ?_)
    refine dL _ rfl (fun hv => ex_load rfl rfl (run_load1 s2na3 (hv.load 0 1 rfl rfl))) ?_
    simp only [zP, po]
    refine dG (.pointer (some ⟨b21, 3, none⟩)) rfl (ex_field rfl rfl (s39fa35_3 _ _ _)) (dL _ rfl (fun hv => ex_load rfl rfl (run_load1 s39na33 (hv.load 0 3 rfl rfl))) ?_)
    refine dM (.pointer (some ⟨b11, 0, none⟩)) rfl ?_
    simp only [zP, po]
    refine dG (.pointer (some ⟨b21, 1, none⟩)) rfl (ex_field rfl rfl (s39fa35_1 _ _ _)) (dF _ rfl (fun hv => ex_load rfl rfl (run_load1 s2na3 (hv.load 0 1 rfl rfl))) fun f78 hf78 => ?_)
    refine dG (.pointer (some ⟨b21, 3, none⟩)) rfl (ex_field rfl rfl (s39fa35_3 _ _ _)) ?_
    simp only [zP, po]
    refine dF _ rfl (fun hv => ex_load rfl rfl (run_load1 s39na33 (hv.load 0 3 rfl rfl))) fun f79 hf79 => dS rfl fun w80 hv => mC l17dcallable12 rfl ((storeLoadR C _ _ s p v X bvs M last mark sq wa wc ys ws (hx.more (Base.Le.refl _)) (hwr.more hBC (fun _ h => h)) (hwat.more hBC) (by omega) ((((hv.front 3 rfl).front 1 rfl).front 3 rfl).front 3 rfl)).mono ?_) rfl
    rintro e w81 ⟨D1, e1, p1, v1, X1, f1, M1, l1, m1, hD1, rfl, hX1, hLd, hv⟩
    refine ⟨_, rfl, dV hv (fC (fun ww hv => hf79 ww (ex_load rfl rfl (run_load1 s39na33 (hv.load 2 3 rfl rfl)))) (fC (fun ww hv => hf78 ww (ex_load rfl rfl (run_load1 s2na3 (hv.load 2 1 rfl rfl)))) fN)) ?_⟩
    refine dS rfl fun w82 hv => mC l17dcallable14 rfl ((refLoadE D1 _ _ b11 ka ca kc cc cvs M last mark sq wa wc ys ws (hrf.more hD1) (hwr.more (hBC.trans hD1) (fun _ h => h)) (hwat.more (hBC.trans hD1)) (by omega) hLd (IxM.fine hX1) ((((hv.front 2 rfl).front 2 rfl).front 2 rfl).front 3 rfl)).mono ?_) rfl
    rintro e w83 ⟨D2, ka2, ca2, kc2, cc2, cvs2, hD2, rfl, hR2, hv⟩
    refine ⟨_, rfl, dV hv (fK rfl (fK rfl fN)) ?_⟩
    simp only [zP, po]
    refine dG (.bool true) rfl (ex_eql rfl rfl rfl (decide_eq_true (rfl))) (dA (.bool true) rfl ?_)
    refine dE fun w84 hv => ?_
    simp only [zP, po]
    refine bN (tK k30 ?_)
    refine sK fun _ k85 => ?_
    obtain ⟨hsto1, h01, hlen1⟩ := hLd.sto hsto h0 (IxM.fine hX1)
    refine rL (xM (.bool true) rfl ?_)
    refine xG (.bool false) rfl (ex_not rfl rfl rfl) (xM (.bool false) rfl ?_)
    simp only [zP, po]
    refine xM (.pointer (some ⟨s, 0, none⟩)) rfl (xM (.pointer (some ⟨b11, 0, none⟩)) rfl ?_)
    refine xL (.agg #[.int .i64 kd, .int .i64 sq, .int .i64 ck, .slice wa ws.length wc]) rfl (run_load_mid (pre := []) (mid := [.int .i64 kd, .int .i64 sq, .int .i64 ck, .slice wa ws.length wc]) (post := []) s39wd35 (show Blk _ b21 ([] ++ [.int .i64 kd, .int .i64 sq, .int .i64 ck, .slice wa ws.length wc] ++ []) _ from hv.get 3 rfl) rfl) ?_
    simp only [zP, po]
    refine xC l17dcallable16 rfl ((lawLooks D2 _ _ s p1 v1 X1 f1 M1 l1 m1 b11 ka2 ca2 kc2 cc2 cvs2 kd sq ck wa wc ys ws (hX1.more hD2) (hR2.more (Base.Le.refl _)) hsto1.asc (hwr.more ((hBC.trans hD1).trans hD2) (fun _ h => h)) (hwat.more ((hBC.trans hD1).trans hD2)) ((((hv.front 3 rfl).front 1 rfl).front 3 rfl).front 3 rfl)).mono ?_) rfl
    rintro e w86 ⟨G, hG, rfl, hv⟩
    refine ⟨_, rfl, ?_⟩
    refine xG (.bool false) rfl (ex_not rfl rfl rfl) (xK false (.bool false) rfl ?_)
    simp only [zP, po]
    refine wK k85 (cF rfl ?_)
    refine kS (bN ?_)
    refine tK k19 (rL ?_)
    refine xM (.int .i64 (i : Int)) rfl (xG (.int .i64 ((i + 1 : Nat) : Int)) rfl (ex_add rfl rfl rfl (by rw [i64_in (by omega)]; omega)) ?_)
    refine xA (.int .i64 ((i + 1 : Nat) : Int)) rfl (wL ?_)
    simp only [zP, po]
    refine then_normal ?_
    go_roundw
    case rel => exact ⟨i + 1, _, _, _, _, _, _, _, _, _, _, _, _, _, rfl, (((hBC.trans hD1).trans hD2).trans hG), by omega, by omega, hX1.more (hD2.trans hG), hR2.more hG, hsto1, h01, ((((hv.front 2 rfl).front 2 rfl).front 2 rfl).sub (List.Sublist.cons_cons _ (List.Sublist.cons_cons _ (List.Sublist.cons_cons _ (List.Sublist.cons _ (List.Sublist.refl _))))))⟩
    case measure => show n - (((i + 1 : Nat) : Int)).toNat < n - ((i : Int)).toNat; omega
   refine xG (.bool false) rfl (ex_eql rfl rfl rfl (decide_eq_false hb77)) (xA (.bool false) rfl ?_)
   simp only [zP, po]
   refine wK k76 (cF rfl ?_)
   refine kS (bN ?_)
   refine tK k30 (sK fun _ k87 => ?_)
   refine rL (xM (.bool true) rfl ?_)
   refine xG (.bool false) rfl (ex_not rfl rfl rfl) (xM (.bool false) rfl ?_)
   simp only [zP, po]
   refine xM (.pointer (some ⟨s, 0, none⟩)) rfl (xM (.pointer (some ⟨b11, 0, none⟩)) rfl ?_)
   refine xL (.agg #[.int .i64 kd, .int .i64 sq, .int .i64 ck, .slice wa ws.length wc]) rfl (run_load_mid (pre := []) (mid := [.int .i64 kd, .int .i64 sq, .int .i64 ck, .slice wa ws.length wc]) (post := []) s39wd35 (show Blk _ b21 ([] ++ [.int .i64 kd, .int .i64 sq, .int .i64 ck, .slice wa ws.length wc] ++ []) _ from hv.get 0 rfl) rfl) ?_
   simp only [zP, po]
   refine xC l17dcallable16 rfl ((lawLooks C _ _ s p v X bvs M last mark b11 ka ca kc cc cvs kd sq ck wa wc ys ws (hx.more (Base.Le.refl _)) (hrf.more (Base.Le.refl _)) hsto.asc (hwr.more hBC (fun _ h => h)) (hwat.more hBC) (((hv.front 3 rfl).front 3 rfl).front 3 rfl)).mono ?_) rfl
   rintro e w88 ⟨G, hG, rfl, hv⟩
   refine ⟨_, rfl, ?_⟩
   refine xG (.bool false) rfl (ex_not rfl rfl rfl) (xK false (.bool false) rfl ?_)
   simp only [zP, po]
   refine wK k87 (cF rfl ?_)
   refine kS (bN ?_)
   refine tK k19 (rL ?_)
   refine xM (.int .i64 (i : Int)) rfl (xG (.int .i64 ((i + 1 : Nat) : Int)) rfl (ex_add rfl rfl rfl (by rw [i64_in (by omega)]; omega)) ?_)
   refine xA (.int .i64 ((i + 1 : Nat) : Int)) rfl (wL ?_)
   simp only [zP, po]
   refine then_normal ?_
   go_roundw
   case rel => exact ⟨i + 1, _, _, _, _, _, _, _, _, _, _, _, _, _, rfl, (hBC.trans hG), by omega, by omega, hx.more hG, hrf.more hG, hsto, h0, ((((hv.front 2 rfl).front 2 rfl).front 2 rfl).sub (List.Sublist.cons_cons _ (List.Sublist.cons_cons _ (List.Sublist.cons_cons _ (List.Sublist.cons _ (List.Sublist.refl _))))))⟩
   case measure => show n - (((i + 1 : Nat) : Int)).toNat < n - ((i : Int)).toNat; omega
  refine xG (.bool false) rfl (ex_lss rfl rfl rfl (decide_eq_false hb18)) ?_
  simp only [zP, po]
  refine wK k17 (cF rfl ?_)
  refine xE (tX ?_)
  refine tX (bH ?_)
  refine tK k13 (sK fun _ k89 => ?_)
  refine rL (xA (.bool true) rfl ?_)
  simp only [zP, po]
  refine wK k89 (rR ?_)
  refine bR rfl rfl (⟨rfl, ((hv.sub (List.Sublist.cons _ (List.Sublist.cons _ (List.Sublist.cons _ (List.Sublist.refl _)))))).weak hBC⟩)
end Go.Proofs.YtffmbdagjpdieaaGreat
