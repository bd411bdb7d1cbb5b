/- store.chains. -/
import Derived.Test.YtffmbdagjpdieaaGreatStActsB
import Derived.Test.YtffmbdagjpdieaaGreatStActsF
import Derived.Test.YtffmbdagjpdieaaGreatRows
import Derived.Test.YtffmbdagjpdieaaGreatStActsD
import Derived.Test.YtffmbdagjpdieaaGreatStActsC
set_option maxRecDepth 100000
namespace Go.Proofs.YtffmbdagjpdieaaGreat
open Go.RowKit Go.Pm
theorem storeAllX (B : Base) (H : List Res) (w : World) (ad : Option Addr) (c : Nat) (xs : List Value) (l : List Wr) (hr : RdV B [] ad xs) (hxs : WrsAt B l xs) (hm : l.length ≤ 1000000) (hv : Inv B H w) : Calls Tryz.prog 34 #[.slice ad l.length c, .func (.func 32) #[] #[]] w fun e w' => ∃ b, e = .returned (.bool b) ∧ (b = true ↔ ∀ x ∈ l, WrOk x) ∧ Inv B H w' := by
 refine (storeAll B H w ad c xs l hr hxs hm hv).mono ?_
 rintro e w' ⟨h1, h2⟩
 refine ⟨_, h1, ?_, h2⟩
 rw [Bool.not_eq_true', List.any_eq_false]
 constructor
 ·intro h x hx
  have := h x hx
  rw [← wrOkB_iff]
  simpa using this
 intro h x hx
 have := (wrOkB_iff x).2 (h x hx)
 simp [this]
def newC (M : Model) (last : Int) (x : Wr) : List Ver := getM M x.key ++ [{ x.ver with stamp := last + 1 }]
def news (M : Model) (ws : List Wr) : Nat := (ws.filter fun x => (getM M x.key).length == 0).length
theorem news_next (M : Model) {ws : List Wr} {i : Nat} {x : Wr} (hx : ws[i]? = some x) : news M (ws.take (i + 1)) = news M (ws.take i) + if (getM M x.key).length = 0 then 1 else 0 := by
 unfold news
 rw [take_next hx, List.filter_append, List.length_append]
 by_cases h : (getM M x.key).length = 0
 ·simp [h]
 simp [h]
theorem news_le (M : Model) (ws : List Wr) : news M ws ≤ ws.length := List.length_filter_le _ _
structure AppOk (M : Model) (last : Int) (ws : List Wr) : Prop where
 la : last < 1152921504606846975
 nd : (ws.map (·.key)).Nodup
 wr : ∀ x ∈ ws, WrOk x
 ch : ∀ x ∈ ws, ChainOk (newC M last x) ∧ (newC M last x).length ≤ 64
 nw : M.length + news M ws ≤ 4096
def AppPre (M : Model) (last : Int) (ws : List Wr) : Prop := last < 1152921504606846975 ∧ (ws.map (·.key)).Nodup ∧ ∀ x ∈ ws, WrOk x
structure AppErr (M : Model) (last : Int) (ws : List Wr) (ec : Int) : Prop where
 no : ¬ AppOk M last ws
 is : (ec = 2 ∧ (¬ AppPre M last ws ∨ ∃ x ∈ ws, ¬ ChainOk (newC M last x))) ∨ (ec = 22 ∧ AppPre M last ws)
structure ChsI (C : Base) (M : Model) (last : Int) (ws : List Wr) (i : Nat) (fl : Bool) (ys : List Value) : Prop where
 len : ys.length = i
 one : ∀ u ∈ ys, u.oneCell' = true
 ok : fl = false → ∀ j x, j < i → ws[j]? = some x → ∃ q, ys[j]? = some q ∧ ChainB C q (newC M last x) ∧ ChainOk (newC M last x) ∧ (newC M last x).length ≤ 64
theorem ChsI.full {C D : Base} {M : Model} {last : Int} {ws : List Wr} {i : Nat} {fl : Bool} {ys : List Value} (h : ChsI C M last ws i fl ys) {u : Value} (hu : u.oneCell' = true) : ChsI D M last ws (i + 1) true (ys ++ [u]) :=
 ⟨by rw [List.length_append, h.len]; rfl, fun a ha => by
  rcases List.mem_append.1 ha with ha | ha
  ·exact h.one a ha
  rw [List.mem_singleton.1 ha]; exact hu, fun h => by cases h⟩
theorem ChsI.next {C D : Base} {M : Model} {last : Int} {ws : List Wr} {i : Nat} {ys : List Value} (h : ChsI C M last ws i false ys) (hD : C.Le D) {x : Wr} (hx : ws[i]? = some x) {u : Value} (hq : ChainB D u (newC M last x)) (h1 : ChainOk (newC M last x)) (h2 : (newC M last x).length ≤ 64) : ChsI D M last ws (i + 1) false (ys ++ [u]) :=
 ⟨by rw [List.length_append, h.len]; rfl, fun a ha => by
  rcases List.mem_append.1 ha with ha | ha
  ·exact h.one a ha
  ·rw [List.mem_singleton.1 ha]; exact hq.one, fun _ j y hj hy => by
  rcases Nat.lt_or_ge j i with h3 | h3
  ·obtain ⟨q, q1, q2, q3⟩ := h.ok rfl j y h3 hy
   exact ⟨q, by rw [List.getElem?_append_left (by rw [h.len]; exact h3)]; exact q1, q2.more hD, q3⟩
  have e : j = i := by omega
  rw [e] at hy ⊢
  rw [hx] at hy
  cases hy
  exact ⟨u, by rw [List.getElem?_append_right (by rw [h.len]; exact Nat.le_refl _), h.len, Nat.sub_self]; rfl, hq, h1, h2⟩⟩
theorem chainPutX (B : Base) (H : List Res) (w : World) (v : Value) (l : List Ver) (x : Ver) (ad2 : Option Addr) (xs2 : List Value) (h : ChainB B v l) (hr2 : RdV B [] ad2 xs2) (hxs2 : VersAt B [x] xs2) (hm : l.length ≤ 100000) (hv : Inv B H w) : Calls Tryz.prog 50 #[v, .slice ad2 1 1] w fun e w' => ∃ C v' ec, B.Le C ∧ e = .returned (.tuple #[v', .int .i64 ec]) ∧ Inv C H w' ∧ ((¬ ChainOk (l ++ [x]) ∧ ec = 2 ∧ v' = .slice none 0 0) ∨ (ChainOk (l ++ [x]) ∧ 64 < (l ++ [x]).length ∧ ec = 22 ∧ v' = .slice none 0 0) ∨ (ChainOk (l ++ [x]) ∧ (l ++ [x]).length ≤ 64 ∧ ec = 0 ∧ ChainB C v' (l ++ [x]))) := by
 obtain ⟨ad, c, xs, rfl, hok, hr, hxs⟩ := h
 exact chainPut0 B H w ad ad2 c 1 xs xs2 l [x] hr hxs hr2 hxs2 hm (by simp) hv
theorem ChsI.more {C D : Base} {M : Model} {last : Int} {ws : List Wr} {i : Nat} {fl : Bool} {ys : List Value} (h : ChsI C M last ws i fl ys) (hD : C.Le D) : ChsI D M last ws i fl ys := ⟨h.len, h.one, fun hf j x hj hx => by
 obtain ⟨q, q1, q2, q3⟩ := h.ok hf j x hj hx
 exact ⟨q, q1, q2.more hD, q3⟩⟩
theorem s16callable33 : Callable Tryz.prog 33 := ⟨_, Tryz.func33, by kernel_rfl, by kernel_rfl⟩
theorem s16callable34 : Callable Tryz.prog 34 := ⟨_, Tryz.func34, by kernel_rfl, by kernel_rfl⟩
theorem s16mk70 : (Tryz.prog.info? 70).map (fun i => (i.zero, i.size, i.bytes)) = some (some (.slice none 0 0), 1, 24) := by kernel_rfl
theorem s16el28 : Elem Tryz.prog 28 70 (.slice none 0 0) 1 24 := elem_of Tryz.underlying28 s16mk70 (by rfl) (by decide)
theorem s16callable49 : Callable Tryz.prog 49 := ⟨_, Tryz.func49, by kernel_rfl, by kernel_rfl⟩
theorem s16al57 (w : World) : (Instr.alloc 57 true (.tuple #[])).run Tryz.prog w = .ok (.pointer (some ⟨w.heap.size, 0, none⟩)) (w.alloc (.cells ([.string ⟨([] : List UInt8).toArray⟩, .int .i64 0, .bool false, .int .i64 0, .int .i64 0, .string ⟨([] : List UInt8).toArray⟩, .slice none 0 0, .slice none 0 0, .slice none 0 0] : List Value).toArray 57)) := by kernel_rfl
theorem s16mk55 : (Tryz.prog.info? 55).map (fun i => (i.zero, i.size, i.bytes)) = some (some (.agg #[.int .i64 0, .bool false, .int .i64 0, .int .i64 0, .string ⟨([] : List UInt8).toArray⟩, .slice none 0 0, .slice none 0 0, .slice none 0 0]), 8, 120) := by kernel_rfl
theorem s16el70 : Elem Tryz.prog 70 55 (.agg #[.int .i64 0, .bool false, .int .i64 0, .int .i64 0, .string ⟨([] : List UInt8).toArray⟩, .slice none 0 0, .slice none 0 0, .slice none 0 0]) 8 120 := elem_of Tryz.underlying70 s16mk55 (by rfl) (by decide)
theorem s16callable50 : Callable Tryz.prog 50 := ⟨_, Tryz.func50, by kernel_rfl, by kernel_rfl⟩
set_option maxHeartbeats 4000000 in
theorem storeChains (B : Base) (H : List Res) (w : World) (s p : Nat) (v : Value) (X : List (List Ent)) (bvs : List Value) (M : Model) (last mark : Int) (ad : Option Addr) (c : Nat) (xs : List Value) (ws : List Wr) (hx0 : IxM B X M) (hlast : 0 ≤ last) (hr : RdV B [] ad xs) (hws : WrsAt B ws xs) (hm : ws.length ≤ 1000) (hv : Inv B (Res.cell s [.pointer (some ⟨p, 0, none⟩), .int .i64 last, .int .i64 mark] 65 :: ixS 89 101 100 p v (M.length : Int) X bvs :: H) w) :
  Calls Tryz.prog 22 #[.pointer (some ⟨s, 0, none⟩), .slice ad ws.length c] w fun e w' => ∃ C v' ec, B.Le C ∧ e = .returned (.tuple #[v', .int .i64 ec]) ∧ Inv C (Res.cell s [.pointer (some ⟨p, 0, none⟩), .int .i64 last, .int .i64 mark] 65 :: ixS 89 101 100 p v (M.length : Int) X bvs :: H) w' ∧ ((ec ≠ 0 ∧ AppErr M last ws ec) ∨ (ec = 0 ∧ AppOk M last ws ∧ ∃ ra rc ys, v' = .slice ra ws.length rc ∧ RdV C [] ra ys ∧ ChsI C M last ws ws.length false ys)) := by
 have hMl := hx0.sm
 refine cW Tryz.func22 rfl Tryz.ntmps22 ?_
 simp only [al]
 refine sK fun _ k1 => rL (xA (.slice none 0 0) rfl ?_)
 refine xA (.int .i64 0) rfl ?_
 simp only [zP, po]
 refine wK k1 (sK fun _ k2 => ?_)
 refine sK fun _ k3 => rL (xM (.pointer (some ⟨s, 0, none⟩)) rfl ?_)
 refine xG (.pointer (some ⟨s, 0, none⟩)) rfl (ex_nil rfl rfl) (xF (.pointer (some ⟨s, 1, none⟩)) rfl (s15fa65_1 _ _ _) ?_)
 simp only [zP, po]
 refine xL _ rfl (run_load1 s2na3 (hv.load 0 1 rfl rfl)) ?_
 by_cases hb4 : last ≥ 1152921504606846975
 ·refine xG (.bool true) rfl (ex_geq rfl rfl rfl (decide_eq_true hb4)) (xM (.bool true) rfl ?_)
  simp only [zP, po]
  iterate 2 refine yN rfl ?_
  refine xK true (.bool true) rfl (xM (.bool true) rfl ?_)
  iterate 3 refine yN rfl ?_
  refine xK true (.bool true) rfl ?_
  simp only [zP, po]
  refine wK k3 (cT rfl ?_)
  refine sK fun _ k5 => rL (xA (.slice none 0 0) rfl ?_)
  refine xA (.int .i64 2) rfl ?_
  simp only [zP, po]
  refine wK k5 (rR ?_)
  refine tR (bodyPost_ret (results_tmp2 rfl _ _ _) rfl ?_)
  exact ⟨_, _, 2, (Base.Le.refl _), rfl, ((hv.front 1 rfl).front 1 rfl), .inl ⟨by decide, ⟨fun h9 => by first | (have h8 := h9.la; omega) | (obtain ⟨x9, h7, h8⟩ := hfl rfl; have := (h9.ch x9 h7).2; omega) | (have h8 := h9.nw; rw [show i = ws.length by omega, List.take_length] at hkk; omega) | exact hno (h9.ch x (List.mem_of_getElem? hx)).1, .inl ⟨rfl, by first | exact .inr ⟨x, List.mem_of_getElem? hx, hno⟩ | exact .inl (fun h9 => by first | (have h8 := h9.1; omega))⟩⟩⟩⟩
 refine xG (.bool false) rfl (ex_geq rfl rfl rfl (decide_eq_false hb4)) (xM (.bool false) rfl ?_)
 simp only [zP, po]
 refine xM (.slice ad ws.length c) rfl (xC s16callable33 rfl ((storeTwice0 B _ _ ad c xs ws hr hws (by omega) hv).mono ?_) rfl)
 rintro e w7 ⟨bl6, rfl, hbl6, hv⟩
 refine ⟨_, rfl, ?_⟩
 cases bl6
 ·refine xK false (.bool false) rfl ?_
  simp only [zP, po]
  refine xM (.bool false) rfl (xM (.slice ad ws.length c) rfl ?_)
  refine xC s16callable34 rfl ((storeAllX B _ _ ad c xs ws hr hws (by omega) hv).mono ?_) rfl
  rintro e w9 ⟨bl8, rfl, hbl8, hv⟩
  refine ⟨_, rfl, ?_⟩
  cases bl8
  ·simp only [zP, po]
   refine xG (.bool true) rfl (ex_not rfl rfl rfl) (xK false (.bool true) rfl ?_)
   simp only [zP, po]
   refine wK k3 (cT rfl ?_)
   refine sK fun _ k10 => rL (xA (.slice none 0 0) rfl ?_)
   refine xA (.int .i64 2) rfl ?_
   simp only [zP, po]
   refine wK k10 (rR ?_)
   refine tR (bodyPost_ret (results_tmp2 rfl _ _ _) rfl ?_)
   exact ⟨_, _, 2, (Base.Le.refl _), rfl, ((hv.front 1 rfl).front 1 rfl), .inl ⟨by decide, ⟨fun h9 => by first | exact hbl6.1 rfl h9.nd | (have h8 := h9.la; omega) | (obtain ⟨x9, h7, h8⟩ := hfl rfl; have := (h9.ch x9 h7).2; omega) | (have h8 := h9.nw; rw [show i = ws.length by omega, List.take_length] at hkk; omega) | exact absurd (hbl8.2 h9.wr) (by decide) | exact hno (h9.ch x (List.mem_of_getElem? hx)).1, .inl ⟨rfl, by first | exact .inr ⟨x, List.mem_of_getElem? hx, hno⟩ | exact .inl (fun h9 => by first | (have h8 := h9.1; omega) | exact hbl6.1 rfl h9.2.1 | exact absurd (hbl8.2 h9.2.2) (by decide))⟩⟩⟩⟩
  simp only [zP, po]
  refine xG (.bool false) rfl (ex_not rfl rfl rfl) (xK false (.bool false) rfl ?_)
  simp only [zP, po]
  refine wK k3 (cF rfl ?_)
  refine kS (tK k2 ?_)
  refine sK fun _ k11 => rL (xM (.slice ad ws.length c) rfl ?_)
  refine xG (.int .i64 (ws.length : Int)) rfl (ex_len0 Tryz.underlying33 rfl rfl) (sl_makeRow (cap := ws.length) tV (wn rfl) rfl rfl rfl s16el28 (by unfold maxLen; omega) (by omega) hv (fun b12 w13 hv => ?_))
  simp only [zP, po]
  refine xA (.slice (some ⟨b12, 0, none⟩) 0 ws.length) rfl ?_
  simp only [zP, po]
  refine wK k11 (sK fun _ k14 => ?_)
  refine rL (xM (.pointer (some ⟨s, 0, none⟩)) rfl ?_)
  refine xG (.pointer (some ⟨s, 0, none⟩)) rfl (ex_nil rfl rfl) (xF (.pointer (some ⟨s, 0, none⟩)) rfl (s15fa65_0 _ _ _) ?_)
  simp only [zP, po]
  refine xL _ rfl (run_load1 s3na62 (hv.load 1 0 rfl rfl)) ?_
  replace hv := hv.front 2 rfl
  simp only [List.eraseIdx_cons_succ, List.eraseIdx_cons_zero] at hv
  refine xC s16callable49 rfl ((ixLenS B _ _ p v _ X bvs hv).mono ?_) rfl
  rintro e w15 ⟨rfl, hv⟩
  refine ⟨_, rfl, ?_⟩
  refine xA (.int .i64 (M.length : Int)) rfl ?_
  simp only [zP, po]
  refine wK k14 (sK fun _ k16 => ?_)
  refine rL (xA (.bool false) rfl ?_)
  simp only [zP, po]
  refine wK k16 (sK fun _ k17 => ?_)
  refine sK fun _ k18 => rL (xM (.slice ad ws.length c) rfl ?_)
  refine xG (.int .i64 (ws.length : Int)) rfl (ex_len0 Tryz.underlying33 rfl rfl) (xM (.int .i64 0) rfl ?_)
  simp only [zP, po]
  refine wK k18 (bB ?_)
  gi_loopw [6, 7, 8, 38] (fun x6 x7 x8 x38 wr => ∃ (i : Nat) (kk : Int) (fl : Bool) (C : Base) (ra : Option Addr) (rc : Nat) (ys : List Value), x6 = .slice ra i rc ∧ x7 = .int .i64 kk ∧ x8 = .bool fl ∧ x38 = .int .i64 (i : Int) ∧ B.Le C ∧ i ≤ ws.length ∧ kk = ((M.length + news M (ws.take i) : Nat) : Int) ∧ (fl = true → ∃ x, x ∈ ws ∧ 64 < (newC M last x).length) ∧ ChsI C M last ws i fl ys ∧ Inv C (Res.row 70 1 (.slice ra i rc) i ys :: Res.cell s [.pointer (some ⟨p, 0, none⟩), .int .i64 last, .int .i64 mark] 65 :: ixS 89 101 100 p v (M.length : Int) X bvs :: H) wr) (fun x6 x7 x8 x38 _ => ws.length - (intOf x38).toNat)
  case atStart => exact ⟨0, _, false, B, _, _, [], rfl, rfl, rfl, rfl, Base.Le.refl _, Nat.zero_le _, rfl, fun h => (by cases h), ⟨rfl, fun u hu => (by cases hu), fun _ j x hj => (by omega)⟩, ((hv.front 2 rfl).front 2 rfl)⟩
  case round =>
   obtain ⟨i, kk, fl, C, ra, rc, ys, rfl, rfl, rfl, rfl, hBC, hi, hkk, hfl, hchs, hv⟩ := hrel
   have hnl := news_le M (ws.take i)
   rw [List.length_take] at hnl
   refine sK fun _ k20 => rL ?_
   by_cases hb21 : (i : Int) < (ws.length : Int)
   ·refine xG (.bool true) rfl (ex_lss rfl rfl rfl (decide_eq_true hb21)) ?_
    simp only [zP, po]
    refine wK k20 (sK fun _ k22 => ?_)
    refine cT rfl (kS ?_)
    refine tK k22 (sK fun _ k23 => ?_)
    refine bB (sK fun _ k24 => ?_)
    obtain ⟨x, hx⟩ : ∃ x, ws[i]? = some x := ⟨_, List.getElem?_eq_getElem (show i < ws.length by omega)⟩
    obtain ⟨bb, bo, xp, xt, xz, had, hvalx, hrdx⟩ := WrsAt.reads hws hr hx
    subst had
    refine rL (xG (.pointer (some ⟨bb, bo + i * 9, none⟩)) rfl (ex_index rfl rfl rfl (run_idx (k := i) Tryz.underlying33 s8es33 (by omega))) ?_)
    refine xL (.agg #[.string ⟨x.key.toArray⟩, .int .i64 x.ver.stamp, .bool x.ver.gone, .int .i64 x.ver.expire, .int .i64 x.ver.val.kind, .string ⟨x.ver.val.text.toArray⟩, xp, xt, xz]) rfl (run_loadR (cs := [.string ⟨x.key.toArray⟩, .int .i64 x.ver.stamp, .bool x.ver.gone, .int .i64 x.ver.expire, .int .i64 x.ver.val.kind, .string ⟨x.ver.val.text.toArray⟩, xp, xt, xz]) s8wd57 (Reads.mid (pre := []) (mid := [.string ⟨x.key.toArray⟩, .int .i64 x.ver.stamp, .bool x.ver.gone, .int .i64 x.ver.expire, .int .i64 x.ver.val.kind, .string ⟨x.ver.val.text.toArray⟩, xp, xt, xz]) (post := []) hrdx _ _ _ hBC no_res hv)) (sl_alloc tV (wn rfl) rfl hv s16al57 (fun b25 w26 hv => ?_))
    simp only [zP, po]
    refine xS 0 rfl hv s8sz57 rfl (by exact ⟨rfl, rfl, rfl, rfl, rfl, rfl, hvalx.p.one, hvalx.t.one, hvalx.z.one, trivial⟩) (fun w27 hv => ?_)
    simp only [zO, sp] at hv
    simp only [zP, po]
    refine wK k24 (sK fun _ k28 => ?_)
    refine rW mixed [6, 7] [0,1,2,3,4,5,6,7] 88 rfl (by kernel_rfl) hv ?_
    simp only [qm, opAt]
    refine dM (.pointer (some ⟨s, 0, none⟩)) rfl (dG (.pointer (some ⟨s, 0, none⟩)) rfl (ex_nil rfl rfl) ?_)
    refine dG (.pointer (some ⟨s, 0, none⟩)) rfl (ex_field rfl rfl (s15fa65_0 _ _ _)) ?_
    simp only [zP, po]
    refine dL _ rfl (fun hv => ex_load rfl rfl (run_load1 s3na62 (hv.load 2 0 rfl rfl))) (dG (.pointer (some ⟨b25, 0, none⟩)) rfl (ex_field rfl rfl (s8fa57_0 _ _ _)) ?_)
    refine dL _ rfl (fun hv => ex_load rfl rfl (run_load1 s3na9 (hv.load 0 0 rfl rfl))) ?_
    simp only [zP, po]
    refine dS rfl fun w29 hv => mC s15callable28 rfl ((ixGetS C _ _ p v X bvs M x.key (hx0.more hBC) (hv.front 3 rfl)).mono ?_) rfl
    rintro e w30 ⟨D, q, hCD, rfl, hQ, hv⟩
    refine ⟨_, rfl, dW hv ?_⟩
    refine dS rfl fun w31 hv => Ex.mem (ex_assign rfl rfl) rfl (dW hv ?_)
    refine dE fun w32 hv => ?_
    simp only [zP, po]
    refine tK k28 (sK fun _ k33 => ?_)
    obtain ⟨qa, qc, hqe⟩ := hQ.shape
    subst hqe
    refine rL (xM (.pointer (some ⟨s, 0, none⟩)) rfl ?_)
    refine xG (.pointer (some ⟨s, 0, none⟩)) rfl (ex_nil rfl rfl) (xF (.pointer (some ⟨s, 1, none⟩)) rfl (s15fa65_1 _ _ _) ?_)
    simp only [zP, po]
    refine xL _ rfl (run_load1 s2na3 (hv.load 3 1 rfl rfl)) (xG (.int .i64 (last + 1)) rfl (ex_add rfl rfl rfl (i64_in (by omega))) ?_)
    refine xF (.pointer (some ⟨b25, 1, none⟩)) rfl (s14fa57_1 _ _ _) ?_
    simp only [zP, po]
    refine xF (.pointer (some ⟨b25, 1, none⟩)) rfl (s2fa55_0 _ _ _) (xV 1 (.int .i64 (last + 1)) rfl hv s5sz3 rfl rfl (fun w34 hv => ?_))
    simp only [zS, sp] at hv
    simp only [zP, po]
    refine wK k33 (sK fun _ k35 => ?_)
    refine rL (xM (.slice qa ((getM M x.key).length) qc) rfl ?_)
    refine xF (.pointer (some ⟨b25, 1, none⟩)) rfl (s14fa57_1 _ _ _) (xL (.agg #[.int .i64 (last + 1), .bool x.ver.gone, .int .i64 x.ver.expire, .int .i64 x.ver.val.kind, .string ⟨x.ver.val.text.toArray⟩, xp, xt, xz]) rfl (run_load_mid (pre := [.string ⟨x.key.toArray⟩]) (mid := [.int .i64 (last + 1), .bool x.ver.gone, .int .i64 x.ver.expire, .int .i64 x.ver.val.kind, .string ⟨x.ver.val.text.toArray⟩, xp, xt, xz]) (post := []) s1wd55 (show Blk _ b25 ([.string ⟨x.key.toArray⟩] ++ [.int .i64 (last + 1), .bool x.ver.gone, .int .i64 x.ver.expire, .int .i64 x.ver.val.kind, .string ⟨x.ver.val.text.toArray⟩, xp, xt, xz] ++ []) _ from hv.get 1 rfl) rfl) ?_)
    simp only [zP, po]
    refine sl_rowAgg (L := [.int .i64 (last + 1), .bool x.ver.gone, .int .i64 x.ver.expire, .int .i64 x.ver.val.kind, .string ⟨x.ver.val.text.toArray⟩, xp, xt, xz]) tV (wn rfl) rfl rfl hv s16el70 rfl (by decide) (fun b36 w37 hv => ?_)
    obtain ⟨E, hDE, hv, hrE, -, -⟩ := (hv.cellRow (n := 1) (c := 1) (size := 8) rfl (by decide) (by decide)).rowBy
    refine xC s16callable50 rfl ((chainPutX E _ _ _ (getM M x.key) { x.ver with stamp := last + 1 } _ _ (hQ.more hDE) hrE (VersAt.single (v := { x.ver with stamp := last + 1 }) (hvalx.more ((hBC.trans hCD).trans hDE))) (by have := hx0.glen x.key; omega) hv).mono ?_) rfl
    rintro e w38 ⟨G, q2, ec, hEG, rfl, hv, hor⟩
    refine ⟨_, rfl, ?_⟩
    rcases hor with ⟨hno, rfl, rfl⟩ | ⟨hok2, h64, rfl, rfl⟩ | ⟨hok2, h64, rfl, hq2⟩
    ·refine xM (.tuple #[.slice none 0 0, .int .i64 2]) rfl ?_
     simp only [zP, po]
     refine xG (.slice none 0 0) rfl (ex_extract rfl rfl rfl) (xG (.int .i64 2) rfl (ex_extract rfl rfl rfl) ?_)
     refine xA (.slice none 0 0) rfl ?_
     simp only [zP, po]
     refine xA (.int .i64 2) rfl ?_
     simp only [zP, po]
     refine wK k35 (sK fun _ k39 => ?_)
     refine sK fun _ k40 => rL (xM (.int .i64 2) rfl ?_)
     refine xG (.bool true) rfl (ex_eql rfl rfl rfl (by decide)) ?_
     simp only [zP, po]
     refine wK k40 (cT rfl ?_)
     refine sK fun _ k41 => rL (xM (.int .i64 2) rfl ?_)
     refine xA (.slice none 0 0) rfl (xA (.int .i64 2) rfl ?_)
     simp only [zP, po]
     refine wK k41 (rR ?_)
     refine tR (bE ?_)
     refine tR (tR ?_)
     refine bE (tR ?_)
     refine bodyPost_ret (results_tmp2 rfl _ _ _) rfl (⟨_, _, 2, (((hBC.trans hCD).trans hDE).trans hEG), rfl, ((hv.front 3 rfl).sub (List.Sublist.cons_cons _ (List.Sublist.cons_cons _ (List.Sublist.cons _ (List.Sublist.cons _ (List.Sublist.refl _)))))), .inl ⟨by decide, ⟨fun h9 => by first | exact hbl6.1 rfl h9.nd | (have h8 := h9.la; omega) | (obtain ⟨x9, h7, h8⟩ := hfl rfl; have := (h9.ch x9 h7).2; omega) | (have h8 := h9.nw; rw [show i = ws.length by omega, List.take_length] at hkk; omega) | exact absurd (hbl8.2 h9.wr) (by decide) | exact hno (h9.ch x (List.mem_of_getElem? hx)).1, .inl ⟨rfl, by first | exact .inr ⟨x, List.mem_of_getElem? hx, hno⟩ | exact .inl (fun h9 => by first | (have h8 := h9.1; omega) | exact hbl6.1 rfl h9.2.1 | exact absurd (hbl8.2 h9.2.2) (by decide))⟩⟩⟩⟩)
    ·refine xM (.tuple #[.slice none 0 0, .int .i64 22]) rfl ?_
     simp only [zP, po]
     refine xG (.slice none 0 0) rfl (ex_extract rfl rfl rfl) (xG (.int .i64 22) rfl (ex_extract rfl rfl rfl) ?_)
     refine xA (.slice none 0 0) rfl ?_
     simp only [zP, po]
     refine xA (.int .i64 22) rfl ?_
     simp only [zP, po]
     refine wK k35 (sK fun _ k42 => ?_)
     refine sK fun _ k43 => rL (xM (.int .i64 22) rfl ?_)
     refine xG (.bool false) rfl (ex_eql rfl rfl rfl (by decide)) ?_
     simp only [zP, po]
     refine wK k43 (cF rfl ?_)
     refine kS (tK k42 ?_)
     refine sK fun _ k44 => rL (xM (.bool fl) rfl ?_)
     refine xM (.bool fl) rfl ?_
     cases fl
     ·refine xM (.int .i64 22) rfl ?_
      simp only [zP, po]
      refine xG (.bool true) rfl (ex_neq rfl rfl rfl (by decide)) (xK false (.bool true) rfl ?_)
      refine xA (.bool true) rfl ?_
      simp only [zP, po]
      refine wK k44 (sK fun _ k45 => ?_)
      refine sK fun _ k46 => rL (xM (.slice qa ((getM M x.key).length) qc) rfl ?_)
      refine xG (.int .i64 (((getM M x.key).length) : Int)) rfl (ex_len0 Tryz.underlying70 rfl rfl) ?_
      by_cases hb47 : (((getM M x.key).length) : Int) = 0
      ·refine xG (.bool true) rfl (ex_eql rfl rfl rfl (decide_eq_true hb47)) ?_
       simp only [zP, po]
       refine wK k46 (cT rfl ?_)
       refine rL (xM (.int .i64 kk) rfl ?_)
       refine xG (.int .i64 (kk + 1)) rfl (ex_add rfl rfl rfl (i64_in (by omega))) (xA (.int .i64 (kk + 1)) rfl ?_)
       simp only [zP, po]
       refine wK k45 (rL ?_)
       refine xM (.slice ra i rc) rfl (xM (.slice none 0 0) rfl ?_)
       refine sl_rowOne (v := .slice none 0 0) tV (wn rfl) rfl rfl hv s16el28 rfl (fun b48 w49 hv => ?_)
       simp only [zP, po]
       replace hv := hv.front 3 rfl
       simp only [List.eraseIdx_cons_succ, List.eraseIdx_cons_zero] at hv
       refine sl_append (news := [.slice none 0 0]) tV (wn rfl) rfl rfl rfl s16el28 hv (ok_full (by omega)) rfl (rd_all (hv.get 1 rfl)) (by intro u hu; simp only [List.mem_cons, List.not_mem_nil, or_false] at hu; rcases hu with rfl <;> rfl) (by unfold maxLen; omega) (by omega) (fun rv50 w53 hv => ?_)
       obtain ⟨ra51, rc52, rfl⟩ := row_slice hv.head
       refine xA (.slice ra51 (i + 1) rc52) rfl (wL ?_)
       simp only [zP, po]
       refine bN (tK k23 ?_)
       refine rL (xG (.int .i64 ((i + 1 : Nat) : Int)) rfl (ex_add rfl rfl rfl (by rw [i64_in (by omega)]; omega)) ?_)
       refine xM (.int .i64 ((i + 1 : Nat) : Int)) rfl (wL ?_)
       simp only [zP, po]
       refine then_normal ?_
       go_roundw
       case rel => exact ⟨i + 1, (kk + 1), true, _, _, _, _, rfl, rfl, rfl, rfl, (((hBC.trans hCD).trans hDE).trans hEG), by omega, by rw [news_next M hx]; split <;> omega, fun h => by first | cases h; done | exact hfl rfl | exact ⟨x, List.mem_of_getElem? hx, h64⟩, (hchs.full rfl), ((((hv.front 2 rfl).front 4 rfl).front 2 rfl).sub (List.Sublist.cons_cons _ (List.Sublist.cons_cons _ (List.Sublist.cons_cons _ (List.Sublist.cons _ (List.Sublist.cons _ (List.Sublist.refl _)))))))⟩
       case measure => show ws.length - (((i + 1 : Nat) : Int)).toNat < ws.length - ((i : Int)).toNat; omega
      refine xG (.bool false) rfl (ex_eql rfl rfl rfl (decide_eq_false hb47)) ?_
      simp only [zP, po]
      refine wK k46 (cF rfl ?_)
      refine kS (tK k45 ?_)
      refine rL (xM (.slice ra i rc) rfl ?_)
      refine xM (.slice none 0 0) rfl (sl_rowOne (v := .slice none 0 0) tV (wn rfl) rfl rfl hv s16el28 rfl (fun b54 w55 hv => ?_))
      simp only [zP, po]
      replace hv := hv.front 3 rfl
      simp only [List.eraseIdx_cons_succ, List.eraseIdx_cons_zero] at hv
      refine sl_append (news := [.slice none 0 0]) tV (wn rfl) rfl rfl rfl s16el28 hv (ok_full (by omega)) rfl (rd_all (hv.get 1 rfl)) (by intro u hu; simp only [List.mem_cons, List.not_mem_nil, or_false] at hu; rcases hu with rfl <;> rfl) (by unfold maxLen; omega) (by omega) (fun rv56 w59 hv => ?_)
      obtain ⟨ra57, rc58, rfl⟩ := row_slice hv.head
      refine xA (.slice ra57 (i + 1) rc58) rfl (wL ?_)
      simp only [zP, po]
      refine bN (tK k23 ?_)
      refine rL (xG (.int .i64 ((i + 1 : Nat) : Int)) rfl (ex_add rfl rfl rfl (by rw [i64_in (by omega)]; omega)) ?_)
      refine xM (.int .i64 ((i + 1 : Nat) : Int)) rfl (wL ?_)
      simp only [zP, po]
      refine then_normal ?_
      go_roundw
      case rel => exact ⟨i + 1, kk, true, _, _, _, _, rfl, rfl, rfl, rfl, (((hBC.trans hCD).trans hDE).trans hEG), by omega, by rw [news_next M hx]; split <;> omega, fun h => by first | cases h; done | exact hfl rfl | exact ⟨x, List.mem_of_getElem? hx, h64⟩, (hchs.full rfl), ((((hv.front 2 rfl).front 4 rfl).front 2 rfl).sub (List.Sublist.cons_cons _ (List.Sublist.cons_cons _ (List.Sublist.cons_cons _ (List.Sublist.cons _ (List.Sublist.cons _ (List.Sublist.refl _)))))))⟩
      case measure => show ws.length - (((i + 1 : Nat) : Int)).toNat < ws.length - ((i : Int)).toNat; omega
     refine yP rfl ?_
     simp only [zP, po]
     refine yP rfl (xK true (.bool true) rfl ?_)
     refine xA (.bool true) rfl ?_
     simp only [zP, po]
     refine wK k44 (sK fun _ k60 => ?_)
     refine sK fun _ k61 => rL (xM (.slice qa ((getM M x.key).length) qc) rfl ?_)
     refine xG (.int .i64 (((getM M x.key).length) : Int)) rfl (ex_len0 Tryz.underlying70 rfl rfl) ?_
     by_cases hb62 : (((getM M x.key).length) : Int) = 0
     ·refine xG (.bool true) rfl (ex_eql rfl rfl rfl (decide_eq_true hb62)) ?_
      simp only [zP, po]
      refine wK k61 (cT rfl ?_)
      refine rL (xM (.int .i64 kk) rfl ?_)
      refine xG (.int .i64 (kk + 1)) rfl (ex_add rfl rfl rfl (i64_in (by omega))) (xA (.int .i64 (kk + 1)) rfl ?_)
      simp only [zP, po]
      refine wK k60 (rL ?_)
      refine xM (.slice ra i rc) rfl (xM (.slice none 0 0) rfl ?_)
      refine sl_rowOne (v := .slice none 0 0) tV (wn rfl) rfl rfl hv s16el28 rfl (fun b63 w64 hv => ?_)
      simp only [zP, po]
      replace hv := hv.front 3 rfl
      simp only [List.eraseIdx_cons_succ, List.eraseIdx_cons_zero] at hv
      refine sl_append (news := [.slice none 0 0]) tV (wn rfl) rfl rfl rfl s16el28 hv (ok_full (by omega)) rfl (rd_all (hv.get 1 rfl)) (by intro u hu; simp only [List.mem_cons, List.not_mem_nil, or_false] at hu; rcases hu with rfl <;> rfl) (by unfold maxLen; omega) (by omega) (fun rv65 w68 hv => ?_)
      obtain ⟨ra66, rc67, rfl⟩ := row_slice hv.head
      refine xA (.slice ra66 (i + 1) rc67) rfl (wL ?_)
      simp only [zP, po]
      refine bN (tK k23 ?_)
      refine rL (xG (.int .i64 ((i + 1 : Nat) : Int)) rfl (ex_add rfl rfl rfl (by rw [i64_in (by omega)]; omega)) ?_)
      refine xM (.int .i64 ((i + 1 : Nat) : Int)) rfl (wL ?_)
      simp only [zP, po]
      refine then_normal ?_
      go_roundw
      case rel => exact ⟨i + 1, (kk + 1), true, _, _, _, _, rfl, rfl, rfl, rfl, (((hBC.trans hCD).trans hDE).trans hEG), by omega, by rw [news_next M hx]; split <;> omega, fun h => by first | cases h; done | exact hfl rfl | exact ⟨x, List.mem_of_getElem? hx, h64⟩, (hchs.full rfl), ((((hv.front 2 rfl).front 4 rfl).front 2 rfl).sub (List.Sublist.cons_cons _ (List.Sublist.cons_cons _ (List.Sublist.cons_cons _ (List.Sublist.cons _ (List.Sublist.cons _ (List.Sublist.refl _)))))))⟩
      case measure => show ws.length - (((i + 1 : Nat) : Int)).toNat < ws.length - ((i : Int)).toNat; omega
     refine xG (.bool false) rfl (ex_eql rfl rfl rfl (decide_eq_false hb62)) ?_
     simp only [zP, po]
     refine wK k61 (cF rfl ?_)
     refine kS (tK k60 ?_)
     refine rL (xM (.slice ra i rc) rfl ?_)
     refine xM (.slice none 0 0) rfl (sl_rowOne (v := .slice none 0 0) tV (wn rfl) rfl rfl hv s16el28 rfl (fun b69 w70 hv => ?_))
     simp only [zP, po]
     replace hv := hv.front 3 rfl
     simp only [List.eraseIdx_cons_succ, List.eraseIdx_cons_zero] at hv
     refine sl_append (news := [.slice none 0 0]) tV (wn rfl) rfl rfl rfl s16el28 hv (ok_full (by omega)) rfl (rd_all (hv.get 1 rfl)) (by intro u hu; simp only [List.mem_cons, List.not_mem_nil, or_false] at hu; rcases hu with rfl <;> rfl) (by unfold maxLen; omega) (by omega) (fun rv71 w74 hv => ?_)
     obtain ⟨ra72, rc73, rfl⟩ := row_slice hv.head
     refine xA (.slice ra72 (i + 1) rc73) rfl (wL ?_)
     simp only [zP, po]
     refine bN (tK k23 ?_)
     refine rL (xG (.int .i64 ((i + 1 : Nat) : Int)) rfl (ex_add rfl rfl rfl (by rw [i64_in (by omega)]; omega)) ?_)
     refine xM (.int .i64 ((i + 1 : Nat) : Int)) rfl (wL ?_)
     simp only [zP, po]
     refine then_normal ?_
     go_roundw
     case rel => exact ⟨i + 1, kk, true, _, _, _, _, rfl, rfl, rfl, rfl, (((hBC.trans hCD).trans hDE).trans hEG), by omega, by rw [news_next M hx]; split <;> omega, fun h => by first | cases h; done | exact hfl rfl | exact ⟨x, List.mem_of_getElem? hx, h64⟩, (hchs.full rfl), ((((hv.front 2 rfl).front 4 rfl).front 2 rfl).sub (List.Sublist.cons_cons _ (List.Sublist.cons_cons _ (List.Sublist.cons_cons _ (List.Sublist.cons _ (List.Sublist.cons _ (List.Sublist.refl _)))))))⟩
     case measure => show ws.length - (((i + 1 : Nat) : Int)).toNat < ws.length - ((i : Int)).toNat; omega
    change ChainB G q2 (newC M last x) at hq2
    change ChainOk (newC M last x) at hok2
    change (newC M last x).length ≤ 64 at h64
    obtain ⟨qa2, qc2, hqe2⟩ := hq2.shape
    subst hqe2
    refine xM (.tuple #[.slice qa2 ((newC M last x).length) qc2, .int .i64 0]) rfl ?_
    simp only [zP, po]
    refine xG (.slice qa2 ((newC M last x).length) qc2) rfl (ex_extract rfl rfl rfl) (xG (.int .i64 0) rfl (ex_extract rfl rfl rfl) ?_)
    refine xA (.slice qa2 ((newC M last x).length) qc2) rfl ?_
    simp only [zP, po]
    refine xA (.int .i64 0) rfl ?_
    simp only [zP, po]
    refine wK k35 (sK fun _ k75 => ?_)
    refine sK fun _ k76 => rL (xM (.int .i64 0) rfl ?_)
    refine xG (.bool false) rfl (ex_eql rfl rfl rfl (by decide)) ?_
    simp only [zP, po]
    refine wK k76 (cF rfl ?_)
    refine kS (tK k75 ?_)
    refine sK fun _ k77 => rL (xM (.bool fl) rfl ?_)
    refine xM (.bool fl) rfl ?_
    cases fl
    ·refine xM (.int .i64 0) rfl ?_
     simp only [zP, po]
     refine xG (.bool false) rfl (ex_neq rfl rfl rfl (by decide)) (xK false (.bool false) rfl ?_)
     refine xA (.bool false) rfl ?_
     simp only [zP, po]
     refine wK k77 (sK fun _ k78 => ?_)
     refine sK fun _ k79 => rL (xM (.slice qa ((getM M x.key).length) qc) rfl ?_)
     refine xG (.int .i64 (((getM M x.key).length) : Int)) rfl (ex_len0 Tryz.underlying70 rfl rfl) ?_
     by_cases hb80 : (((getM M x.key).length) : Int) = 0
     ·refine xG (.bool true) rfl (ex_eql rfl rfl rfl (decide_eq_true hb80)) ?_
      simp only [zP, po]
      refine wK k79 (cT rfl ?_)
      refine rL (xM (.int .i64 kk) rfl ?_)
      refine xG (.int .i64 (kk + 1)) rfl (ex_add rfl rfl rfl (i64_in (by omega))) (xA (.int .i64 (kk + 1)) rfl ?_)
      simp only [zP, po]
      refine wK k78 (rL ?_)
      refine xM (.slice ra i rc) rfl (xM (.slice qa2 ((newC M last x).length) qc2) rfl ?_)
      refine sl_rowOne (v := .slice qa2 ((newC M last x).length) qc2) tV (wn rfl) rfl rfl hv s16el28 rfl (fun b81 w82 hv => ?_)
      simp only [zP, po]
      replace hv := hv.front 3 rfl
      simp only [List.eraseIdx_cons_succ, List.eraseIdx_cons_zero] at hv
      refine sl_append (news := [.slice qa2 ((newC M last x).length) qc2]) tV (wn rfl) rfl rfl rfl s16el28 hv (ok_full (by omega)) rfl (rd_all (hv.get 1 rfl)) (by intro u hu; simp only [List.mem_cons, List.not_mem_nil, or_false] at hu; rcases hu with rfl <;> rfl) (by unfold maxLen; omega) (by omega) (fun rv83 w86 hv => ?_)
      obtain ⟨ra84, rc85, rfl⟩ := row_slice hv.head
      refine xA (.slice ra84 (i + 1) rc85) rfl (wL ?_)
      simp only [zP, po]
      refine bN (tK k23 ?_)
      refine rL (xG (.int .i64 ((i + 1 : Nat) : Int)) rfl (ex_add rfl rfl rfl (by rw [i64_in (by omega)]; omega)) ?_)
      refine xM (.int .i64 ((i + 1 : Nat) : Int)) rfl (wL ?_)
      simp only [zP, po]
      refine then_normal ?_
      go_roundw
      case rel => exact ⟨i + 1, (kk + 1), false, _, _, _, _, rfl, rfl, rfl, rfl, (((hBC.trans hCD).trans hDE).trans hEG), by omega, by rw [news_next M hx]; split <;> omega, fun h => by first | cases h; done | exact hfl rfl | exact ⟨x, List.mem_of_getElem? hx, h64⟩, (hchs.next ((hCD.trans hDE).trans hEG) hx hq2 hok2 h64), ((((hv.front 2 rfl).front 4 rfl).front 2 rfl).sub (List.Sublist.cons_cons _ (List.Sublist.cons_cons _ (List.Sublist.cons_cons _ (List.Sublist.cons _ (List.Sublist.cons _ (List.Sublist.refl _)))))))⟩
      case measure => show ws.length - (((i + 1 : Nat) : Int)).toNat < ws.length - ((i : Int)).toNat; omega
     refine xG (.bool false) rfl (ex_eql rfl rfl rfl (decide_eq_false hb80)) ?_
     simp only [zP, po]
     refine wK k79 (cF rfl ?_)
     refine kS (tK k78 ?_)
     refine rL (xM (.slice ra i rc) rfl ?_)
     refine xM (.slice qa2 ((newC M last x).length) qc2) rfl (sl_rowOne (v := .slice qa2 ((newC M last x).length) qc2) tV (wn rfl) rfl rfl hv s16el28 rfl (fun b87 w88 hv => ?_))
     simp only [zP, po]
     replace hv := hv.front 3 rfl
     simp only [List.eraseIdx_cons_succ, List.eraseIdx_cons_zero] at hv
     refine sl_append (news := [.slice qa2 ((newC M last x).length) qc2]) tV (wn rfl) rfl rfl rfl s16el28 hv (ok_full (by omega)) rfl (rd_all (hv.get 1 rfl)) (by intro u hu; simp only [List.mem_cons, List.not_mem_nil, or_false] at hu; rcases hu with rfl <;> rfl) (by unfold maxLen; omega) (by omega) (fun rv89 w92 hv => ?_)
     obtain ⟨ra90, rc91, rfl⟩ := row_slice hv.head
     refine xA (.slice ra90 (i + 1) rc91) rfl (wL ?_)
     simp only [zP, po]
     refine bN (tK k23 ?_)
     refine rL (xG (.int .i64 ((i + 1 : Nat) : Int)) rfl (ex_add rfl rfl rfl (by rw [i64_in (by omega)]; omega)) ?_)
     refine xM (.int .i64 ((i + 1 : Nat) : Int)) rfl (wL ?_)
     simp only [zP, po]
     refine then_normal ?_
     go_roundw
     case rel => exact ⟨i + 1, kk, false, _, _, _, _, rfl, rfl, rfl, rfl, (((hBC.trans hCD).trans hDE).trans hEG), by omega, by rw [news_next M hx]; split <;> omega, fun h => by first | cases h; done | exact hfl rfl | exact ⟨x, List.mem_of_getElem? hx, h64⟩, (hchs.next ((hCD.trans hDE).trans hEG) hx hq2 hok2 h64), ((((hv.front 2 rfl).front 4 rfl).front 2 rfl).sub (List.Sublist.cons_cons _ (List.Sublist.cons_cons _ (List.Sublist.cons_cons _ (List.Sublist.cons _ (List.Sublist.cons _ (List.Sublist.refl _)))))))⟩
     case measure => show ws.length - (((i + 1 : Nat) : Int)).toNat < ws.length - ((i : Int)).toNat; omega
    refine yP rfl ?_
    simp only [zP, po]
    refine yP rfl (xK true (.bool true) rfl ?_)
    refine xA (.bool true) rfl ?_
    simp only [zP, po]
    refine wK k77 (sK fun _ k93 => ?_)
    refine sK fun _ k94 => rL (xM (.slice qa ((getM M x.key).length) qc) rfl ?_)
    refine xG (.int .i64 (((getM M x.key).length) : Int)) rfl (ex_len0 Tryz.underlying70 rfl rfl) ?_
    by_cases hb95 : (((getM M x.key).length) : Int) = 0
    ·refine xG (.bool true) rfl (ex_eql rfl rfl rfl (decide_eq_true hb95)) ?_
     simp only [zP, po]
     refine wK k94 (cT rfl ?_)
     refine rL (xM (.int .i64 kk) rfl ?_)
     refine xG (.int .i64 (kk + 1)) rfl (ex_add rfl rfl rfl (i64_in (by omega))) (xA (.int .i64 (kk + 1)) rfl ?_)
     simp only [zP, po]
     refine wK k93 (rL ?_)
     refine xM (.slice ra i rc) rfl (xM (.slice qa2 ((newC M last x).length) qc2) rfl ?_)
     refine sl_rowOne (v := .slice qa2 ((newC M last x).length) qc2) tV (wn rfl) rfl rfl hv s16el28 rfl (fun b96 w97 hv => ?_)
     simp only [zP, po]
     replace hv := hv.front 3 rfl
     simp only [List.eraseIdx_cons_succ, List.eraseIdx_cons_zero] at hv
     refine sl_append (news := [.slice qa2 ((newC M last x).length) qc2]) tV (wn rfl) rfl rfl rfl s16el28 hv (ok_full (by omega)) rfl (rd_all (hv.get 1 rfl)) (by intro u hu; simp only [List.mem_cons, List.not_mem_nil, or_false] at hu; rcases hu with rfl <;> rfl) (by unfold maxLen; omega) (by omega) (fun rv98 w101 hv => ?_)
     obtain ⟨ra99, rc100, rfl⟩ := row_slice hv.head
     refine xA (.slice ra99 (i + 1) rc100) rfl (wL ?_)
     simp only [zP, po]
     refine bN (tK k23 ?_)
     refine rL (xG (.int .i64 ((i + 1 : Nat) : Int)) rfl (ex_add rfl rfl rfl (by rw [i64_in (by omega)]; omega)) ?_)
     refine xM (.int .i64 ((i + 1 : Nat) : Int)) rfl (wL ?_)
     simp only [zP, po]
     refine then_normal ?_
     go_roundw
     case rel => exact ⟨i + 1, (kk + 1), true, _, _, _, _, rfl, rfl, rfl, rfl, (((hBC.trans hCD).trans hDE).trans hEG), by omega, by rw [news_next M hx]; split <;> omega, fun h => by first | cases h; done | exact hfl rfl | exact ⟨x, List.mem_of_getElem? hx, h64⟩, (hchs.full rfl), ((((hv.front 2 rfl).front 4 rfl).front 2 rfl).sub (List.Sublist.cons_cons _ (List.Sublist.cons_cons _ (List.Sublist.cons_cons _ (List.Sublist.cons _ (List.Sublist.cons _ (List.Sublist.refl _)))))))⟩
     case measure => show ws.length - (((i + 1 : Nat) : Int)).toNat < ws.length - ((i : Int)).toNat; omega
    refine xG (.bool false) rfl (ex_eql rfl rfl rfl (decide_eq_false hb95)) ?_
    simp only [zP, po]
    refine wK k94 (cF rfl ?_)
    refine kS (tK k93 ?_)
    refine rL (xM (.slice ra i rc) rfl ?_)
    refine xM (.slice qa2 ((newC M last x).length) qc2) rfl (sl_rowOne (v := .slice qa2 ((newC M last x).length) qc2) tV (wn rfl) rfl rfl hv s16el28 rfl (fun b102 w103 hv => ?_))
    simp only [zP, po]
    replace hv := hv.front 3 rfl
    simp only [List.eraseIdx_cons_succ, List.eraseIdx_cons_zero] at hv
    refine sl_append (news := [.slice qa2 ((newC M last x).length) qc2]) tV (wn rfl) rfl rfl rfl s16el28 hv (ok_full (by omega)) rfl (rd_all (hv.get 1 rfl)) (by intro u hu; simp only [List.mem_cons, List.not_mem_nil, or_false] at hu; rcases hu with rfl <;> rfl) (by unfold maxLen; omega) (by omega) (fun rv104 w107 hv => ?_)
    obtain ⟨ra105, rc106, rfl⟩ := row_slice hv.head
    refine xA (.slice ra105 (i + 1) rc106) rfl (wL ?_)
    simp only [zP, po]
    refine bN (tK k23 ?_)
    refine rL (xG (.int .i64 ((i + 1 : Nat) : Int)) rfl (ex_add rfl rfl rfl (by rw [i64_in (by omega)]; omega)) ?_)
    refine xM (.int .i64 ((i + 1 : Nat) : Int)) rfl (wL ?_)
    simp only [zP, po]
    refine then_normal ?_
    go_roundw
    case rel => exact ⟨i + 1, kk, true, _, _, _, _, rfl, rfl, rfl, rfl, (((hBC.trans hCD).trans hDE).trans hEG), by omega, by rw [news_next M hx]; split <;> omega, fun h => by first | cases h; done | exact hfl rfl | exact ⟨x, List.mem_of_getElem? hx, h64⟩, (hchs.full rfl), ((((hv.front 2 rfl).front 4 rfl).front 2 rfl).sub (List.Sublist.cons_cons _ (List.Sublist.cons_cons _ (List.Sublist.cons_cons _ (List.Sublist.cons _ (List.Sublist.cons _ (List.Sublist.refl _)))))))⟩
    case measure => show ws.length - (((i + 1 : Nat) : Int)).toNat < ws.length - ((i : Int)).toNat; omega
   refine xG (.bool false) rfl (ex_lss rfl rfl rfl (decide_eq_false hb21)) ?_
   simp only [zP, po]
   refine wK k20 (sK fun _ k108 => ?_)
   refine cF rfl (xE ?_)
   refine tX (tX ?_)
   refine bH (tK k17 ?_)
   refine sK fun _ k109 => sK fun _ k110 => rL (xM (.bool fl) rfl ?_)
   refine xM (.bool fl) rfl ?_
   cases fl
   ·refine xM (.int .i64 kk) rfl ?_
    simp only [zP, po]
    by_cases hb111 : kk > 4096
    ·refine xG (.bool true) rfl (ex_gtr rfl rfl rfl (decide_eq_true hb111)) (xK false (.bool true) rfl ?_)
     simp only [zP, po]
     refine wK k110 (cT rfl ?_)
     refine sK fun _ k112 => rL (xA (.slice none 0 0) rfl ?_)
     refine xA (.int .i64 22) rfl ?_
     simp only [zP, po]
     refine wK k112 (rR ?_)
     refine tR (bodyPost_ret (results_tmp2 rfl _ _ _) rfl ?_)
     exact ⟨_, _, 22, hBC, rfl, (((hv.front 2 rfl).front 2 rfl).sub (List.Sublist.cons_cons _ (List.Sublist.cons_cons _ (List.Sublist.cons _ (List.Sublist.refl _))))), .inl ⟨by decide, ⟨fun h9 => by first | exact hbl6.1 rfl h9.nd | (have h8 := h9.la; omega) | (obtain ⟨x9, h7, h8⟩ := hfl rfl; have := (h9.ch x9 h7).2; omega) | (have h8 := h9.nw; rw [show i = ws.length by omega, List.take_length] at hkk; omega) | exact absurd (hbl8.2 h9.wr) (by decide) | exact hno (h9.ch x (List.mem_of_getElem? hx)).1, .inr ⟨rfl, by omega, Classical.not_not.1 (fun h => by have h9 := hbl6.2 h; cases h9), hbl8.1 rfl⟩⟩⟩⟩
    refine xG (.bool false) rfl (ex_gtr rfl rfl rfl (decide_eq_false hb111)) (xK false (.bool false) rfl ?_)
    simp only [zP, po]
    refine wK k110 (cF rfl ?_)
    refine kS (tK k109 ?_)
    refine sK fun _ k113 => rL (xM (.slice ra i rc) rfl ?_)
    refine xA (.slice ra i rc) rfl (xA (.int .i64 0) rfl ?_)
    simp only [zP, po]
    refine wK k113 (rR ?_)
    refine bodyPost_ret (results_tmp2 rfl _ _ _) rfl ?_
    obtain rfl : i = ws.length := by omega
    obtain ⟨D, hCD, hv, hrD, -, -⟩ := ((((hv.front 2 rfl).front 2 rfl).front 2 rfl)).rowBy
    exact ⟨D, _, 0, hBC.trans hCD, rfl, hv, .inr ⟨rfl, ⟨by omega, Classical.not_not.1 (fun h => by have h9 := hbl6.2 h; cases h9), hbl8.1 rfl, fun x hx => (by obtain ⟨j, hj⟩ := List.mem_iff_getElem?.1 hx; obtain ⟨q, -, -, q3, q4⟩ := hchs.ok rfl j x (List.getElem?_eq_some_iff.1 hj).1 hj; exact ⟨q3, q4⟩), by rw [List.take_length] at hkk; omega⟩, ra, rc, ys, rfl, hrD, hchs.more hCD⟩⟩
   iterate 2 refine yN rfl ?_
   refine xK true (.bool true) rfl ?_
   simp only [zP, po]
   refine wK k110 (cT rfl ?_)
   refine sK fun _ k114 => rL (xA (.slice none 0 0) rfl ?_)
   refine xA (.int .i64 22) rfl ?_
   simp only [zP, po]
   refine wK k114 (rR ?_)
   refine tR (bodyPost_ret (results_tmp2 rfl _ _ _) rfl ?_)
   exact ⟨_, _, 22, hBC, rfl, (((hv.front 2 rfl).front 2 rfl).sub (List.Sublist.cons_cons _ (List.Sublist.cons_cons _ (List.Sublist.cons _ (List.Sublist.refl _))))), .inl ⟨by decide, ⟨fun h9 => by first | exact hbl6.1 rfl h9.nd | (have h8 := h9.la; omega) | (obtain ⟨x9, h7, h8⟩ := hfl rfl; have := (h9.ch x9 h7).2; omega) | (have h8 := h9.nw; rw [show i = ws.length by omega, List.take_length] at hkk; omega) | exact absurd (hbl8.2 h9.wr) (by decide) | exact hno (h9.ch x (List.mem_of_getElem? hx)).1, .inr ⟨rfl, by omega, Classical.not_not.1 (fun h => by have h9 := hbl6.2 h; cases h9), hbl8.1 rfl⟩⟩⟩⟩
 refine xK false (.bool true) rfl ?_
 simp only [zP, po]
 refine xM (.bool true) rfl ?_
 iterate 3 refine yN rfl ?_
 refine xK true (.bool true) rfl ?_
 simp only [zP, po]
 refine wK k3 (cT rfl ?_)
 refine sK fun _ k115 => rL (xA (.slice none 0 0) rfl ?_)
 refine xA (.int .i64 2) rfl ?_
 simp only [zP, po]
 refine wK k115 (rR ?_)
 refine tR (bodyPost_ret (results_tmp2 rfl _ _ _) rfl ?_)
 exact ⟨_, _, 2, (Base.Le.refl _), rfl, ((hv.front 1 rfl).front 1 rfl), .inl ⟨by decide, ⟨fun h9 => by first | exact hbl6.1 rfl h9.nd | (have h8 := h9.la; omega) | (obtain ⟨x9, h7, h8⟩ := hfl rfl; have := (h9.ch x9 h7).2; omega) | (have h8 := h9.nw; rw [show i = ws.length by omega, List.take_length] at hkk; omega) | exact hno (h9.ch x (List.mem_of_getElem? hx)).1, .inl ⟨rfl, by first | exact .inr ⟨x, List.mem_of_getElem? hx, hno⟩ | exact .inl (fun h9 => by first | (have h8 := h9.1; omega) | exact hbl6.1 rfl h9.2.1)⟩⟩⟩⟩
theorem s16callable22 : Callable Tryz.prog 22 := ⟨_, Tryz.func22, by kernel_rfl, by kernel_rfl⟩
set_option maxHeartbeats 2000000 in
theorem storeCheck (B : Base) (H : List Res) (w : World) (s p : Nat) (v : Value) (X : List (List Ent)) (bvs : List Value) (M : Model) (last mark : Int) (ad : Option Addr) (c : Nat) (xs : List Value) (ws : List Wr) (hx0 : IxM B X M) (hlast : 0 ≤ last) (hr : RdV B [] ad xs) (hws : WrsAt B ws xs) (hm : ws.length ≤ 1000) (hv : Inv B (Res.cell s [.pointer (some ⟨p, 0, none⟩), .int .i64 last, .int .i64 mark] 65 :: ixS 89 101 100 p v (M.length : Int) X bvs :: H) w) :
  Calls Tryz.prog 7 #[.pointer (some ⟨s, 0, none⟩), .slice ad ws.length c] w fun e w' => ∃ C ec, B.Le C ∧ e = .returned (.int .i64 ec) ∧ ((ec ≠ 0 ∧ AppErr M last ws ec) ∨ (ec = 0 ∧ AppOk M last ws)) ∧ Inv C (Res.cell s [.pointer (some ⟨p, 0, none⟩), .int .i64 last, .int .i64 mark] 65 :: ixS 89 101 100 p v (M.length : Int) X bvs :: H) w' := by
 refine cW Tryz.func7 rfl Tryz.ntmps7 ?_
 simp only [al]
 refine sK fun _ k1 => rL (xA (.int .i64 0) rfl ?_)
 simp only [zP, po]
 refine wK k1 (sK fun _ k2 => ?_)
 refine rL (xM (.pointer (some ⟨s, 0, none⟩)) rfl ?_)
 refine xM (.slice ad ws.length c) rfl (xC s16callable22 rfl ((storeChains B _ _ s p v X bvs M last mark ad c xs ws hx0 hlast hr hws hm hv).mono ?_) rfl)
 rintro e w3 ⟨C, cv, ec, hBC, rfl, hv, hor⟩
 refine ⟨_, rfl, ?_⟩
 simp only [zP, po]
 refine xM (.tuple #[cv, .int .i64 ec]) rfl (xG cv rfl (ex_extract rfl rfl rfl) ?_)
 refine xG (.int .i64 ec) rfl (ex_extract rfl rfl rfl) ?_
 simp only [zP, po]
 refine xA cv rfl (xA (.int .i64 ec) rfl ?_)
 simp only [zP, po]
 refine wK k2 (sK fun _ k4 => ?_)
 refine rL (xM (.int .i64 ec) rfl ?_)
 refine xA (.int .i64 ec) rfl ?_
 simp only [zP, po]
 refine wK k4 (rR ?_)
 refine bR rfl rfl (⟨C, ec, hBC, rfl, hor.imp id (fun h => ⟨h.1, h.2.1⟩), ((hv.front 1 rfl).front 1 rfl)⟩)
end Go.Proofs.YtffmbdagjpdieaaGreat
/- store.Apply. -/
namespace Go.Proofs.YtffmbdagjpdieaaGreat
open Go.RowKit Go.Pm
structure SetI (M M' : Model) (last : Int) (ws : List Wr) (i : Nat) : Prop where
 got : ∀ j x, j < i → ws[j]? = some x → getM M' x.key = newC M last x
 rest : ∀ k, (∀ j x, j < i → ws[j]? = some x → x.key ≠ k) → getM M' k = getM M k
 len : M.length ≤ M'.length ∧ M'.length ≤ M.length + i
theorem SetI.next {M M' M2 : Model} {last : Int} {ws : List Wr} {i : Nat} (h : SetI M M' last ws i) (hn : (ws.map (·.key)).Nodup) {x : Wr} (hx : ws[i]? = some x) (hg : ∀ k, getM M2 k = if k = x.key then newC M last x else getM M' k) (hl : M'.length ≤ M2.length ∧ M2.length ≤ M'.length + 1) : SetI M M2 last ws (i + 1) := by
 have hkey : ∀ j y, j < i → ws[j]? = some y → y.key ≠ x.key := fun j y hj hy e => by
  have hi := (List.getElem?_eq_some_iff.1 hx).1
  have h1 : (ws.map (·.key))[j]? = some x.key := by rw [List.getElem?_map, hy, Option.map_some, e]
  have h2 : (ws.map (·.key))[i]? = some x.key := by rw [List.getElem?_map, hx]; rfl
  have := (List.getElem?_inj (by rw [List.length_map]; omega) hn).1 (h1.trans h2.symm)
  omega
 refine ⟨fun j y hj hy => ?_, fun k hk => ?_, by have := h.len; omega⟩
 ·rcases Nat.lt_or_ge j i with h3 | h3
  ·rw [hg, if_neg (hkey j y h3 hy)]
   exact h.got j y h3 hy
  have e : j = i := by omega
  rw [e, hx] at hy
  cases hy
  rw [hg, if_pos rfl]
 rw [hg, if_neg (fun e => hk i x (by omega) hx e.symm)]
 exact h.rest k fun j y hj hy => hk j y (by omega) hy
theorem s17al57 (w : World) : (Instr.alloc 57 true (.tuple #[])).run Tryz.prog w = .ok (.pointer (some ⟨w.heap.size, 0, none⟩)) (w.alloc (.cells ([.string ⟨([] : List UInt8).toArray⟩, .int .i64 0, .bool false, .int .i64 0, .int .i64 0, .string ⟨([] : List UInt8).toArray⟩, .slice none 0 0, .slice none 0 0, .slice none 0 0] : List Value).toArray 57)) := by kernel_rfl
theorem s17es28 (w : World) : (sizeOf (Tryz.prog.elem 28)).run Tryz.prog w = .ok 1 w := by kernel_rfl
theorem s17callable23 : Callable Tryz.prog 23 := ⟨_, Tryz.func23, by kernel_rfl, by kernel_rfl⟩
set_option maxHeartbeats 4000000 in
theorem storeApply (B : Base) (H : List Res) (w : World) (s p : Nat) (v : Value) (X : List (List Ent)) (bvs : List Value) (M : Model) (last mark : Int) (ad : Option Addr) (c : Nat) (xs : List Value) (ws : List Wr) (hx0 : IxM B X M) (hlast : 0 ≤ last) (hr : RdV B [] ad xs) (hws : WrsAt B ws xs) (hm : ws.length ≤ 1000) (hM : M.length ≤ 90000) (hv : Inv B (Res.cell s [.pointer (some ⟨p, 0, none⟩), .int .i64 last, .int .i64 mark] 65 :: ixS 89 101 100 p v (M.length : Int) X bvs :: H) w) :
  Calls Tryz.prog 8 #[.pointer (some ⟨s, 0, none⟩), .slice ad ws.length c] w fun e w' => ∃ C n ec, B.Le C ∧ e = .returned (.tuple #[.int .i64 n, .int .i64 ec]) ∧ ((ec ≠ 0 ∧ AppErr M last ws ec ∧ n = 0 ∧ Inv C (Res.cell s [.pointer (some ⟨p, 0, none⟩), .int .i64 last, .int .i64 mark] 65 :: ixS 89 101 100 p v (M.length : Int) X bvs :: H) w') ∨ (ec = 0 ∧ n = last + 1 ∧ AppOk M last ws ∧ ∃ v' X' bvs' M', IxM C X' M' ∧ SetI M M' last ws ws.length ∧ Inv C (Res.cell s [.pointer (some ⟨p, 0, none⟩), .int .i64 (last + 1), .int .i64 mark] 65 :: ixS 89 101 100 p v' (M'.length : Int) X' bvs' :: H) w')) := by
 refine cW Tryz.func8 rfl Tryz.ntmps8 ?_
 simp only [al]
 refine sK fun _ k1 => rL (xA (.int .i64 0) rfl ?_)
 refine xA (.int .i64 0) rfl ?_
 simp only [zP, po]
 refine wK k1 (sK fun _ k2 => ?_)
 refine rL (xM (.pointer (some ⟨s, 0, none⟩)) rfl ?_)
 refine xM (.slice ad ws.length c) rfl (xC s16callable22 rfl ((storeChains B _ _ s p v X bvs M last mark ad c xs ws hx0 hlast hr hws hm hv).mono ?_) rfl)
 rintro e w3 ⟨C, cv, ec, hBC, rfl, hv, hor⟩
 refine ⟨_, rfl, ?_⟩
 rcases hor with ⟨hne, hnok⟩ | ⟨rfl, happ, ra, rc, ys, rfl, hry, hchs⟩
 rotate_left
 have hnd := happ.nd
 have hl60 := happ.la
 rotate_left
 ·simp only [zP, po]
  refine xM (.tuple #[cv, .int .i64 ec]) rfl (xG cv rfl (ex_extract rfl rfl rfl) ?_)
  refine xG (.int .i64 ec) rfl (ex_extract rfl rfl rfl) ?_
  simp only [zP, po]
  refine xA cv rfl (xA (.int .i64 ec) rfl ?_)
  simp only [zP, po]
  refine wK k2 (sK fun _ k4 => ?_)
  refine sK fun _ k5 => rL (xM (.int .i64 ec) rfl ?_)
  refine xG (.bool true) rfl (ex_neq rfl rfl rfl (decide_eq_true hne)) ?_
  simp only [zP, po]
  refine wK k5 (cT rfl ?_)
  refine sK fun _ k6 => rL (xM (.int .i64 ec) rfl ?_)
  refine xA (.int .i64 0) rfl (xA (.int .i64 ec) rfl ?_)
  simp only [zP, po]
  refine wK k6 (rR ?_)
  refine tR (bodyPost_ret (results_tmp2 rfl _ _ _) rfl ?_)
  exact ⟨C, 0, ec, hBC, rfl, .inl ⟨hne, hnok, rfl, ((hv.front 1 rfl).front 1 rfl)⟩⟩
 simp only [zP, po]
 refine xM (.tuple #[.slice ra ws.length rc, .int .i64 0]) rfl (xG (.slice ra ws.length rc) rfl (ex_extract rfl rfl rfl) ?_)
 refine xG (.int .i64 0) rfl (ex_extract rfl rfl rfl) ?_
 simp only [zP, po]
 refine xA (.slice ra ws.length rc) rfl (xA (.int .i64 0) rfl ?_)
 simp only [zP, po]
 refine wK k2 (sK fun _ k7 => ?_)
 refine sK fun _ k8 => rL (xM (.int .i64 0) rfl ?_)
 refine xG (.bool false) rfl (ex_neq rfl rfl rfl (by decide)) ?_
 simp only [zP, po]
 refine wK k8 (cF rfl ?_)
 refine kS (tK k7 ?_)
 refine sK fun _ k9 => sK fun _ k10 => rL (xM (.slice ad ws.length c) rfl ?_)
 refine xG (.int .i64 (ws.length : Int)) rfl (ex_len0 Tryz.underlying33 rfl rfl) (xM (.int .i64 0) rfl ?_)
 simp only [zP, po]
 refine wK k10 (bB ?_)
 gi_loopw [21] (fun x21 wr => ∃ (i : Nat) (E : Base) (v' : Value) (X' : List (List Ent)) (bvs' : List Value) (M' : Model), x21 = .int .i64 (i : Int) ∧ C.Le E ∧ i ≤ ws.length ∧ IxM E X' M' ∧ SetI M M' last ws i ∧ Inv E (Res.cell s [.pointer (some ⟨p, 0, none⟩), .int .i64 last, .int .i64 mark] 65 :: ixS 89 101 100 p v' (M'.length : Int) X' bvs' :: H) wr) (fun x21 _ => ws.length - (intOf x21).toNat)
 case atStart => exact ⟨0, C, v, X, bvs, M, rfl, Base.Le.refl _, Nat.zero_le _, hx0.more hBC, ⟨fun j x h => by omega, fun k _ => rfl, by omega⟩, hv⟩
 case round =>
  obtain ⟨i, E, v', X', bvs', M', rfl, hCE, hi, hxm, hset, hv⟩ := hrel
  refine sK fun _ k12 => rL ?_
  by_cases hb13 : (i : Int) < (ws.length : Int)
  ·refine xG (.bool true) rfl (ex_lss rfl rfl rfl (decide_eq_true hb13)) ?_
   simp only [zP, po]
   refine wK k12 (sK fun _ k14 => ?_)
   refine cT rfl (kS ?_)
   refine tK k14 (sK fun _ k15 => ?_)
   refine bB (sK fun _ k16 => ?_)
   obtain ⟨x, hx⟩ : ∃ x, ws[i]? = some x := ⟨_, List.getElem?_eq_getElem (show i < ws.length by omega)⟩
   obtain ⟨bb, bo, xp, xt, xz, had, hvalx, hrdx⟩ := WrsAt.reads hws hr hx
   subst had
   refine rL (xM (.int .i64 (i : Int)) rfl ?_)
   refine xG (.pointer (some ⟨bb, bo + i * 9, none⟩)) rfl (ex_index rfl rfl rfl (run_idx (k := i) Tryz.underlying33 s8es33 (by omega))) (xL (.agg #[.string ⟨x.key.toArray⟩, .int .i64 x.ver.stamp, .bool x.ver.gone, .int .i64 x.ver.expire, .int .i64 x.ver.val.kind, .string ⟨x.ver.val.text.toArray⟩, xp, xt, xz]) rfl (run_loadR (cs := [.string ⟨x.key.toArray⟩, .int .i64 x.ver.stamp, .bool x.ver.gone, .int .i64 x.ver.expire, .int .i64 x.ver.val.kind, .string ⟨x.ver.val.text.toArray⟩, xp, xt, xz]) s8wd57 (Reads.mid (pre := []) (mid := [.string ⟨x.key.toArray⟩, .int .i64 x.ver.stamp, .bool x.ver.gone, .int .i64 x.ver.expire, .int .i64 x.ver.val.kind, .string ⟨x.ver.val.text.toArray⟩, xp, xt, xz]) (post := []) hrdx _ _ _ (hBC.trans hCE) no_res hv)) ?_)
   simp only [zP, po]
   refine sl_alloc tV (wn rfl) rfl hv s17al57 (fun b17 w18 hv => ?_)
   refine xA (.int .i64 (i : Int)) rfl (xS 0 rfl hv s8sz57 rfl (by exact ⟨rfl, rfl, rfl, rfl, rfl, rfl, hvalx.p.one, hvalx.t.one, hvalx.z.one, trivial⟩) (fun w19 hv => ?_))
   simp only [zO, sp] at hv
   simp only [zP, po]
   refine wK k16 ?_
   obtain ⟨q, hyq, hqB, hqok, hq64⟩ := hchs.ok rfl i x (by omega) hx
   obtain ⟨cb, co, had3, hrdc⟩ := row1_reads (hry.rdW []) hyq
   subst had3
   have hset2 := hset.len
   refine rW mixed [10] [0,1,2,3,4,5,6,7,8,9,10] 49 rfl (by kernel_rfl) hv ?_
   simp only [qm, opAt]
   refine dM (.pointer (some ⟨s, 0, none⟩)) rfl (dG (.pointer (some ⟨s, 0, none⟩)) rfl (ex_nil rfl rfl) ?_)
   refine dG (.pointer (some ⟨s, 0, none⟩)) rfl (ex_field rfl rfl (s15fa65_0 _ _ _)) ?_
   simp only [zP, po]
   refine dL _ rfl (fun hv => ex_load rfl rfl (run_load1 s3na62 (hv.load 1 0 rfl rfl))) (dG (.pointer (some ⟨b17, 0, none⟩)) rfl (ex_field rfl rfl (s8fa57_0 _ _ _)) ?_)
   refine dL _ rfl (fun hv => ex_load rfl rfl (run_load1 s3na9 (hv.load 0 0 rfl rfl))) ?_
   simp only [zP, po]
   refine dM (.slice (some ⟨cb, co, none⟩) ws.length rc) rfl (dM (.int .i64 (i : Int)) rfl ?_)
   refine dG (.pointer (some ⟨cb, co + i, none⟩)) rfl (ex_index rfl rfl rfl (run_idx1 (k := i) Tryz.underlying28 s17es28 (by omega))) ?_
   simp only [zP, po]
   refine dL _ rfl (fun hv => ex_load rfl rfl (run_load1 s2na70 (hrdc _ _ _ hCE no_res hv 0 _ rfl))) (dS rfl fun w20 hv => ?_)
   refine mC s17callable23 rfl ((ixSet E _ _ p v' X' bvs' M' x.key q (newC M last x) hxm (by omega) (hqB.more hCE) (by unfold newC; simp) (by omega) (hv.front 2 rfl)).mono ?_) rfl
   rintro e w21 ⟨rfl, G, v2, X2, bvs2, M2, hA1, hA2, hA3, hA4, hv⟩
   refine ⟨_, rfl, dW hv ?_⟩
   refine dE fun w22 hv => ?_
   simp only [zP, po]
   refine bN (tK k15 ?_)
   refine rL (xG (.int .i64 ((i + 1 : Nat) : Int)) rfl (ex_add rfl rfl rfl (by rw [i64_in (by omega)]; omega)) ?_)
   refine xM (.int .i64 ((i + 1 : Nat) : Int)) rfl (wL ?_)
   simp only [zP, po]
   refine then_normal ?_
   go_roundw
   case rel => exact ⟨i + 1, _, _, _, _, M2, rfl, (hCE.trans hA1), by omega, hA2, hset.next hnd hx hA3 hA4, ((hv.front 2 rfl).sub (List.Sublist.cons_cons _ (List.Sublist.cons_cons _ (List.Sublist.cons _ (List.Sublist.refl _)))))⟩
   case measure => show ws.length - (((i + 1 : Nat) : Int)).toNat < ws.length - ((i : Int)).toNat; omega
  refine xG (.bool false) rfl (ex_lss rfl rfl rfl (decide_eq_false hb13)) ?_
  simp only [zP, po]
  refine wK k12 (sK fun _ k23 => ?_)
  refine cF rfl (xE ?_)
  refine tX (tX ?_)
  refine bH (tK k9 ?_)
  refine sK fun _ k24 => rL (xM (.pointer (some ⟨s, 0, none⟩)) rfl ?_)
  refine xG (.pointer (some ⟨s, 0, none⟩)) rfl (ex_nil rfl rfl) (xF (.pointer (some ⟨s, 1, none⟩)) rfl (s15fa65_1 _ _ _) ?_)
  simp only [zP, po]
  refine xL _ rfl (run_load1 s2na3 (hv.load 0 1 rfl rfl)) (xG (.int .i64 (last + 1)) rfl (ex_add rfl rfl rfl (i64_in (by omega))) ?_)
  refine xG (.pointer (some ⟨s, 0, none⟩)) rfl (ex_nil rfl rfl) ?_
  simp only [zP, po]
  refine xF (.pointer (some ⟨s, 1, none⟩)) rfl (s15fa65_1 _ _ _) (xV 0 (.int .i64 (last + 1)) rfl hv s5sz3 rfl rfl (fun w25 hv => ?_))
  simp only [zO, sp] at hv
  simp only [zP, po]
  refine wK k24 (sK fun _ k26 => ?_)
  refine rL (xM (.pointer (some ⟨s, 0, none⟩)) rfl ?_)
  refine xG (.pointer (some ⟨s, 0, none⟩)) rfl (ex_nil rfl rfl) (xF (.pointer (some ⟨s, 1, none⟩)) rfl (s15fa65_1 _ _ _) ?_)
  simp only [zP, po]
  refine xL _ rfl (run_load1 s2na3 (hv.load 0 1 rfl rfl)) (xA (.int .i64 (last + 1)) rfl ?_)
  refine xA (.int .i64 0) rfl ?_
  simp only [zP, po]
  refine wK k26 (rR ?_)
  refine bodyPost_ret (results_tmp2 rfl _ _ _) rfl ?_
  obtain rfl : i = ws.length := by omega
  exact ⟨E, _, 0, hBC.trans hCE, rfl, .inr ⟨rfl, rfl, happ, _, _, _, _, hxm, hset, ((hv.front 1 rfl).front 1 rfl)⟩⟩
end Go.Proofs.YtffmbdagjpdieaaGreat
/- What a chain has at a stamp, in plain data; what a pruned one has. -/
namespace Go.Proofs.YtffmbdagjpdieaaGreat
open Go.RowKit Go.Pm
def Asc (l : List Ver) : Prop := l.Pairwise (fun a b => a.stamp < b.stamp)
theorem ChainOk.asc {l : List Ver} (h : ChainOk l) : Asc l := by
 have key : ∀ (j i : Nat) (x y : Ver), i < j → l[i]? = some x → l[j]? = some y → x.stamp < y.stamp := by
  intro j
  induction j with
  | zero => intro i x y hij; omega
  | succ j ih =>
   intro i x y hij hx hy
   have hj : j < l.length := by have := (List.getElem?_eq_some_iff.1 hy).1; omega
   have h1 := (h (j + 1) y hy).2.2.2 j l[j] rfl (List.getElem?_eq_getElem hj)
   rcases Nat.lt_or_ge i j with h2 | h2
   ·have := ih i x l[j] h2 hx (List.getElem?_eq_getElem hj)
    omega
   obtain rfl : i = j := by omega
   rw [List.getElem?_eq_getElem hj] at hx
   cases hx
   exact h1
 unfold Asc
 rw [List.pairwise_iff_getElem]
 intro i j hi hj hij
 exact key j i _ _ hij (List.getElem?_eq_getElem hi) (List.getElem?_eq_getElem hj)
theorem filt0 {p : Ver → Bool} {l : List Ver} (h : ∀ x ∈ l, p x = false) : l.filter p = [] := List.filter_eq_nil_iff.2 fun x hx => by rw [h x hx]; simp
theorem filtA {p : Ver → Bool} {l : List Ver} (h : ∀ x ∈ l, p x = true) : l.filter p = l := List.filter_eq_self.2 h
def uptoL (l : List Ver) (s : Int) : List Ver := l.filter fun x => decide (x.stamp ≤ s)
theorem uptoL_eq {l : List Ver} {s : Int} {i : Nat} (ha : Asc l) (h : UptoI l s i) : uptoL l s = l.take i ∧ (∀ x ∈ l.drop i, s < x.stamp) ∧ ∀ x ∈ l.take i, x.stamp ≤ s := by
 have hd : ∀ x ∈ l.drop i, s < x.stamp := by
  rcases Nat.lt_or_ge i l.length with hi | hi
  ·intro x hx
   have h1 := h.2.1 l[i] (List.getElem?_eq_getElem hi)
   unfold Asc at ha
   rw [← List.take_append_drop i l, List.drop_eq_getElem_cons hi, List.pairwise_append] at ha
   rw [List.drop_eq_getElem_cons hi] at hx
   rcases List.mem_cons.1 hx with rfl | hx
   ·exact h1
   have := (List.pairwise_cons.1 ha.2.1).1 x hx; omega
  rw [List.drop_of_length_le hi]
  intro x hx; cases hx
 have ht : ∀ x ∈ l.take i, x.stamp ≤ s := by
  intro x hx
  cases i with
  | zero => simp at hx
  | succ j =>
   have hj : j < l.length := by have := h.1; omega
   have h1 := h.2.2 j l[j] rfl (List.getElem?_eq_getElem hj)
   rw [take_next (List.getElem?_eq_getElem hj)] at hx
   rcases List.mem_append.1 hx with hx | hx
   ·unfold Asc at ha
    rw [← List.take_append_drop j l, List.drop_eq_getElem_cons hj, List.pairwise_append] at ha
    have := ha.2.2 x hx l[j] List.mem_cons_self
    omega
   rw [List.mem_singleton.1 hx]; exact h1
 refine ⟨?_, hd, ht⟩
 unfold uptoL
 conv => lhs; rw [← List.take_append_drop i l]
 rw [List.filter_append, List.filter_eq_self.2 (fun x hx => by simpa using ht x hx), List.filter_eq_nil_iff.2 (fun x hx => by have := hd x hx; simp; omega), List.append_nil]
def readV (l : List Ver) (s c : Int) : Option Ver := (uptoL l s).getLast?.filter fun x => aliveB x c
theorem take_last {l : List Ver} {j : Nat} {x : Ver} (h : l[j]? = some x) : (l.take (j + 1)).getLast? = some x := by
 rw [take_next h]; simp
theorem readV_of {l : List Ver} {s c : Int} {x : Ver} {ok : Bool} (ha : Asc l) (h : ReadI l s c x ok) : (ok = true ∧ readV l s c = some x) ∨ (ok = false ∧ readV l s c = none) := by
 unfold readV
 rcases h with ⟨rfl, h1, h2⟩ | ⟨rfl, -, y, b, h2, h3⟩
 ·refine .inl ⟨rfl, ?_⟩
  rcases h2 with ⟨h4, -⟩ | ⟨-, j, hj, h4⟩
  ·cases h4
  rw [(uptoL_eq ha h4).1, take_last hj]
  simp [Option.filter, h1]
 refine .inr ⟨rfl, ?_⟩
 rcases h2 with ⟨-, -, h4⟩ | ⟨rfl, j, hj, h4⟩
 ·rw [(uptoL_eq ha h4).1]; rfl
 rw [(uptoL_eq ha h4).1, take_last hj]
 simp [Option.filter, h3 rfl]
theorem readV_some {l : List Ver} {s c : Int} {x : Ver} (h : readV l s c = some x) : x ∈ l ∧ x.stamp ≤ s ∧ aliveB x c = true := by
 unfold readV at h
 rw [Option.filter_eq_some_iff] at h
 have h1 := List.mem_of_getLast? h.1
 unfold uptoL at h1
 rw [List.mem_filter] at h1
 exact ⟨h1.1, by simpa using h1.2, h.2⟩
def pruneC (l : List Ver) (mark c : Int) : List Ver := (match readV l mark c with | some x => [x] | none => []) ++ l.filter fun x => decide (mark < x.stamp)
theorem filter_gt {l : List Ver} {s : Int} {i : Nat} (ha : Asc l) (h : UptoI l s i) : (l.filter fun x => decide (s < x.stamp)) = l.drop i := by
 obtain ⟨-, hd, ht⟩ := uptoL_eq ha h
 conv => lhs; rw [← List.take_append_drop i l]
 rw [List.filter_append, List.filter_eq_nil_iff.2 (fun x hx => by have := ht x hx; simp; omega), List.filter_eq_self.2 (fun x hx => by simpa using hd x hx), List.nil_append]
def PruneN (l : List Ver) (mark c : Int) (n : Nat) : Prop := ∃ i, UptoI l mark i ∧ ((∃ x, i = n + 1 ∧ l[n]? = some x ∧ aliveB x c = true) ∨ (i = n ∧ ∀ k x, i = k + 1 → l[k]? = some x → aliveB x c = false))
theorem pruneC_of {l : List Ver} {mark c : Int} {n : Nat} (ha : Asc l) (h : PruneN l mark c n) : l.drop n = pruneC l mark c := by
 obtain ⟨i, hu, h⟩ := h
 unfold pruneC readV
 rw [filter_gt ha hu, (uptoL_eq ha hu).1]
 rcases h with ⟨x, rfl, hx, hal⟩ | ⟨rfl, hno⟩
 ·rw [take_last hx]
  obtain ⟨hn, rfl⟩ := List.getElem?_eq_some_iff.1 hx
  simp only [Option.filter, hal, if_true]
  rw [List.drop_eq_getElem_cons hn]; rfl
 cases i with
 | zero => rfl
 | succ k =>
  have hk : k < l.length := by have := hu.1; omega
  have h1 := hno k l[k] rfl (List.getElem?_eq_getElem hk)
  rw [take_last (List.getElem?_eq_getElem hk)]
  simp [Option.filter, h1]
theorem PruneN.le {l : List Ver} {mark c : Int} {n : Nat} (h : PruneN l mark c n) : n ≤ l.length := by
 obtain ⟨i, hu, h⟩ := h
 have := hu.1
 rcases h with ⟨x, rfl, hx, -⟩ | ⟨rfl, -⟩ <;> omega
end Go.Proofs.YtffmbdagjpdieaaGreat
/- The index's model, a key taken out; a model is what its keys have. -/
namespace Go.Pm
open Go.RowKit
section
variable {B : Base} {X X' : List (List Ent)} {M : Model} {key : List UInt8} {i j : Nat}
theorem flat_rem1 {es : List Ent} (hes : X[i]? = some es) (hj : j < es.length) : (X.set i (es.take j ++ es.drop (j + 1))).flatten = X.flatten.take (posOf X i j) ++ X.flatten.drop (posOf X i j + 1) := by
 rw [flatten_set hes]
 have ht : X.flatten.take (posOf X i j) = (X.take i).flatten ++ es.take j := by
  rw [posOf, flatten_at hes, List.take_append, List.take_of_length_le (by omega), Nat.add_sub_cancel_left, List.take_append_of_le_length (by omega)]
 have hd : X.flatten.drop (posOf X i j + 1) = es.drop (j + 1) ++ (X.drop (i + 1)).flatten := by
  rw [posOf, flatten_at hes, Nat.add_assoc, List.drop_append, List.drop_of_length_le (by omega), Nat.add_sub_cancel_left, List.nil_append, List.drop_append_of_le_length (by omega)]
 rw [ht, hd]
 simp only [List.append_assoc]
theorem flat_rem2 {es : List Ent} (hes : X[i]? = some es) (hl : es.length = 1) : (X.take i ++ X.drop (i + 1)).flatten = X.flatten.take (posOf X i 0) ++ X.flatten.drop (posOf X i 0 + 1) := by
 have h := flat_rem1 hes (j := 0) (by omega)
 have hd : es.drop (0 + 1) = [] := List.drop_of_length_le (by omega)
 rw [← h, flatten_set hes, List.take_zero, List.nil_append, hd, List.nil_append, List.flatten_append]
def remM (M : Model) (k : Nat) : Model := M.take k ++ M.drop (k + 1)
theorem ixm_remove (h : IxM B X M) (hfi : FindI X key i j true) (hfl : X'.flatten = X.flatten.take (posOf X i j) ++ X.flatten.drop (posOf X i j + 1)) (hne : ∀ es ∈ X', es ≠ []) :
  IxM B X' (remM M (posOf X i j)) ∧ (∀ k, getM (remM M (posOf X i j)) k = if k = key then [] else getM M k) ∧ (remM M (posOf X i j)).length + 1 = M.length := by
 have hp := hfi.pos h.so
 obtain ⟨e, m, h1, h2, h3, h4, h5, h6⟩ := hp.some h.mo
 have hk : posOf X i j < M.length := (List.getElem?_eq_some_iff.1 h2).1
 have hlen : (remM M (posOf X i j)).length + 1 = M.length := by
  unfold remM
  simp only [List.length_append, List.length_take, List.length_drop]
  omega
 have hs := h.so
 unfold IxSorted at hs
 have hgt := (pw_take_lt hs h1).2
 have hmem : ∀ m ∈ remM M (posOf X i j), m ∈ M := fun m hm => by
  unfold remM at hm
  rcases List.mem_append.1 hm with h7 | h7
  ·exact List.mem_of_mem_take h7
  exact List.mem_of_mem_drop h7
 refine ⟨⟨hne, ?_, ?_, fun m hm => h.ch m (hmem m hm), by have := h.sm; omega⟩, fun k => ?_, hlen⟩
 ·unfold IxSorted
  rw [hfl]
  have hs2 := hs
  rw [split_at h1, List.pairwise_append] at hs2
  rw [List.pairwise_append]
  exact ⟨hs2.1, (List.pairwise_cons.1 hs2.2.1).2, fun a ha b hb => hs2.2.2 a ha b (List.mem_cons_of_mem _ hb)⟩
 ·rw [hfl]
  exact Mods.append (h.mo.drop _) (h.mo.take _)
 unfold remM
 by_cases hkk : k = key
 ·subst hkk
  rw [if_pos rfl, getM_split (hp.takeNe h.mo)]
  refine getM_none fun m hm => ?_
  obtain ⟨f, hf, hfk⟩ := (h.mo.drop _).keys hm
  have := hgt f hf
  rw [h3] at this
  rw [← hfk]
  exact fun e => lt_ne this e.symm
 rw [if_neg hkk]
 have hM := split_at h2
 have app : ∀ (a x y : Model), getM x k = getM y k → getM (a ++ x) k = getM (a ++ y) k := fun a x y hxy => by
  unfold getM at hxy ⊢
  rw [List.find?_append, List.find?_append]
  cases a.find? fun m => m.1 == k with
  | some z => rfl
  | none => exact hxy
 conv => rhs; rw [hM]
 refine app _ _ _ ?_
 rw [show m = (key, m.2) by rw [← h4], getM_cons_ne (fun e => hkk e.symm)]
end
theorem set_split {α : Type} {l : List α} {i : Nat} (hi : i < l.length) (x : α) : l.set i x = l.take i ++ [x] ++ l.drop (i + 1) := by
 rw [List.set_eq_take_append_cons_drop, if_pos hi, List.append_assoc]; rfl
section
variable {ti tb te : TypeId} {p : Nat} {n : Int} {X : List (List Ent)} {bvs : List Value} {B : Base} {H : List Res} {w : World}
theorem Inv.ixClose0 {i : Nat} {v' : Value} (hlen : bvs.length = X.length) (hi : i < X.length)
  (hv : Inv B (Res.cell p [v', .int .i64 n] ti :: Res.row tb 1 v' (X.length - 1) (bvs.take i ++ bvs.drop (i + 1)) :: (blkRes te (bvs.take i) (X.take i) ++ (blkRes te (bvs.drop (i + 1)) (X.drop (i + 1)) ++ H))) w) : Inv B (ixS ti tb te p v' n (X.take i ++ X.drop (i + 1)) (bvs.take i ++ bvs.drop (i + 1)) :: H) w := by
 refine Inv.star ?_
 rw [blkRes_append te (bvs.take i) (X.take i) _ _ (by rw [List.length_take, List.length_take, hlen])]
 have hl : (X.take i ++ X.drop (i + 1)).length = X.length - 1 := by simp only [List.length_append, List.length_take, List.length_drop]; omega
 rw [hl]
 simpa only [List.append_assoc, List.cons_append, List.nil_append] using hv
end
theorem sorted_ext : ∀ {l1 l2 : List (List UInt8)}, l1.Pairwise (fun a b => Op.bytesLess a b = true) → l2.Pairwise (fun a b => Op.bytesLess a b = true) → (∀ k, k ∈ l1 ↔ k ∈ l2) → l1 = l2
 | [], [], _, _, _ => rfl
 | [], b :: l2, _, _, h => by have := (h b).2 List.mem_cons_self; cases this
 | a :: l1, [], _, _, h => by have := (h a).1 List.mem_cons_self; cases this
 | a :: l1, b :: l2, h1, h2, h => by
  obtain ⟨h1a, h1b⟩ := List.pairwise_cons.1 h1
  obtain ⟨h2a, h2b⟩ := List.pairwise_cons.1 h2
  have e : a = b := by
   rcases List.mem_cons.1 ((h a).1 List.mem_cons_self) with h3 | h3
   ·exact h3
   rcases List.mem_cons.1 ((h b).2 List.mem_cons_self) with h4 | h4
   ·exact h4.symm
   have h5 := h2a a h3
   rw [lt_asymm (h1a b h4)] at h5
   cases h5
  subst e
  rw [sorted_ext h1b h2b (fun k => ?_)]
  constructor
  ·intro hk
   rcases List.mem_cons.1 ((h k).1 (List.mem_cons_of_mem _ hk)) with h3 | h3
   ·exact absurd h3.symm (lt_ne (h1a k hk))
   exact h3
  intro hk
  rcases List.mem_cons.1 ((h k).2 (List.mem_cons_of_mem _ hk)) with h3 | h3
  ·exact absurd h3.symm (lt_ne (h2a k hk))
  exact h3
abbrev keysM (M : Model) : List (List UInt8) := M.map (·.1)
def SortedT (l : List (List UInt8)) : Prop := l.Pairwise (fun a b => Op.bytesLess a b = true)
theorem Mods.keysEq {B : Base} : ∀ {l : List Ent} {M : Model}, Mods B l M → l.map (·.1) = keysM M
 | [], [], _ => rfl
 | e :: l, m :: M, h => by rw [List.map_cons, keysM, List.map_cons, h.1.1, Mods.keysEq h.2]
 | [], _ :: _, h => h.elim
 | _ :: _, [], h => h.elim
theorem IxM.sorted {B : Base} {X : List (List Ent)} {M : Model} (h : IxM B X M) : SortedT (keysM M) := by
 unfold SortedT
 rw [← h.mo.keysEq, List.pairwise_map]
 exact h.so
theorem getM_at {M : Model} (hs : SortedT (keysM M)) {m : List UInt8 × List Ver} (hm : m ∈ M) : getM M m.1 = m.2 := by
 obtain ⟨k, hk⟩ := List.mem_iff_getElem?.1 hm
 have hM := split_at hk
 unfold SortedT keysM at hs
 rw [hM] at hs ⊢
 rw [List.map_append, List.map_cons, List.pairwise_append] at hs
 rw [getM_split (fun q hq => lt_ne (hs.2.2 q.1 (List.mem_map.2 ⟨q, hq, rfl⟩) m.1 List.mem_cons_self))]
 exact getM_cons_self
theorem keysM_mem {B : Base} {X : List (List Ent)} {M : Model} (h : IxM B X M) (k : List UInt8) : k ∈ keysM M ↔ getM M k ≠ [] := by
 constructor
 ·intro hk
  obtain ⟨m, hm, rfl⟩ := List.mem_map.1 hk
  rw [getM_at h.sorted hm]
  exact (h.ch m hm).1
 intro hk
 exact List.mem_map.2 ⟨_, getM_mem hk, rfl⟩
theorem model_ext : ∀ {M M' : Model}, keysM M = keysM M' → SortedT (keysM M) → SortedT (keysM M') → (∀ k, getM M k = getM M' k) → M = M' := by
 intro M M' hk hs hs' h
 refine List.ext_getElem? fun n => ?_
 have hl : M.length = M'.length := by have := congrArg List.length hk; simpa using this
 rcases Nat.lt_or_ge n M.length with hn | hn
 ·obtain ⟨m, hm⟩ : ∃ m, M[n]? = some m := ⟨_, List.getElem?_eq_getElem hn⟩
  obtain ⟨m', hm'⟩ : ∃ m', M'[n]? = some m' := ⟨_, List.getElem?_eq_getElem (by omega)⟩
  have h1 : m.1 = m'.1 := by
   have := congrArg (fun l => l[n]?) hk
   simp only [keysM, List.getElem?_map, hm, hm', Option.map_some, Option.some.injEq] at this
   exact this
  have h2 := getM_at hs (List.mem_of_getElem? hm)
  have h3 := getM_at hs' (List.mem_of_getElem? hm')
  rw [hm, hm', ← Prod.eta m, ← Prod.eta m', ← h2, ← h3, h1, h]
 rw [List.getElem?_eq_none hn, List.getElem?_eq_none (by omega)]
end Go.Pm
/- A model pruned key by key; the keys that have something; what a dump holds. -/
namespace Go.Proofs.YtffmbdagjpdieaaGreat
open Go.RowKit Go.Pm
theorem len_le {B C : Base} {X Y : List (List Ent)} {M M' : Model} (h : IxM B X M) (h' : IxM C Y M') (hs : ∀ k, getM M' k ≠ [] → getM M k ≠ []) : M'.length ≤ M.length := by
 have e : keysM M' = (keysM M).filter fun k => decide (k ∈ keysM M') := by
  refine sorted_ext h'.sorted (List.Pairwise.filter _ h.sorted) (fun k => ?_)
  rw [List.mem_filter, decide_eq_true_iff]
  constructor
  ·intro hk
   exact ⟨(keysM_mem h k).2 (hs k ((keysM_mem h' k).1 hk)), hk⟩
  exact fun hk => hk.2
 have h1 := List.length_filter_le (fun k => decide (k ∈ keysM M')) (keysM M)
 rw [← e, List.length_map, List.length_map] at h1
 exact h1
theorem one_model {B : Base} {X : List (List Ent)} {M : Model} (h : IxM B X M) {a : List UInt8} {c : List Ver} (ha : getM M a = c) (hc : c ≠ []) (hr : ∀ k, k ≠ a → getM M k = []) : M = [(a, c)] := by
 have hs1 : SortedT (keysM [(a, c)]) := List.pairwise_singleton _ _
 refine model_ext (sorted_ext h.sorted hs1 (fun k => ?_)) h.sorted hs1 (fun k => ?_)
 ·rw [keysM_mem h]
  constructor
  ·intro hk
   refine List.mem_singleton.2 (Classical.byContradiction fun e => hk (hr k e))
  intro hk
  rw [List.mem_singleton.1 hk]
  show getM M a ≠ []
  rw [ha]; exact hc
 by_cases e : k = a
 ·subst e
  rw [ha, getM_cons_self]
 rw [hr k e, getM_cons_ne (fun h => e h.symm)]; rfl
theorem getM_out {M : Model} {k : List UInt8} (h : k ∉ keysM M) : getM M k = [] := getM_none fun m hm e => h (List.mem_map.2 ⟨m, hm, e⟩)
def AscM (M : Model) : Prop := ∀ k, Asc (getM M k)
theorem ascM_of {M : Model} (h : ∀ m ∈ M, Asc m.2) : AscM M := fun k => by
 by_cases hk : getM M k = []
 ·rw [hk]; exact List.Pairwise.nil
 exact h _ (getM_mem hk)
theorem key_at {M : Model} {i : Nat} {m : List UInt8 × List Ver} (h : M[i]? = some m) : (keysM M)[i]? = some m.1 := by rw [keysM, List.getElem?_map, h]; rfl
theorem key_new {M : Model} (hs : SortedT (keysM M)) {i : Nat} {m : List UInt8 × List Ver} (h : M[i]? = some m) : m.1 ∉ keysM (M.take i) := by
 intro hm
 obtain ⟨q, hq, e⟩ := List.mem_map.1 hm
 unfold SortedT keysM at hs
 rw [split_at h, List.map_append, List.map_cons, List.pairwise_append] at hs
 exact lt_ne (hs.2.2 q.1 (List.mem_map.2 ⟨q, hq, rfl⟩) m.1 List.mem_cons_self) e
def PrI (M M' : Model) (mark c : Int) (i : Nat) : Prop := ∀ k, getM M' k = if k ∈ keysM (M.take i) then pruneC (getM M k) mark c else getM M k
section
variable {M M' M2 : Model} {mark c : Int} {i : Nat} {m : List UInt8 × List Ver}
theorem PrI.zero : PrI M M mark c 0 := fun k => by rw [List.take_zero]; rfl
theorem PrI.old (h : PrI M M' mark c i) (hs : SortedT (keysM M)) (hm : M[i]? = some m) : getM M' m.1 = m.2 := by
 rw [h, if_neg (key_new hs hm), getM_at hs (List.mem_of_getElem? hm)]
theorem PrI.next (h : PrI M M' mark c i) (hs : SortedT (keysM M)) (hm : M[i]? = some m) (hg : ∀ k, getM M2 k = if k = m.1 then pruneC m.2 mark c else getM M' k) : PrI M M2 mark c (i + 1) := by
 intro k
 rw [hg, take_next hm, keysM, List.map_append]
 by_cases e : k = m.1
 ·rw [if_pos e, if_pos (by rw [e]; simp), e, getM_at hs (List.mem_of_getElem? hm)]
 rw [if_neg e, h]
 have : (k ∈ (M.take i).map (·.1) ++ [m].map (·.1)) ↔ k ∈ keysM (M.take i) := by
  rw [List.mem_append]
  constructor
  ·rintro (h1 | h1)
   ·exact h1
   exact absurd (List.mem_singleton.1 h1) e
  exact .inl
 by_cases h2 : k ∈ keysM (M.take i)
 ·rw [if_pos h2, if_pos (this.2 h2)]
 rw [if_neg h2, if_neg (fun h3 => h2 (this.1 h3))]
theorem PrI.same (h : PrI M M' mark c i) (hs : SortedT (keysM M)) (hm : M[i]? = some m) (he : pruneC m.2 mark c = m.2) : PrI M M' mark c (i + 1) := by
 refine h.next hs hm fun k => ?_
 by_cases e : k = m.1
 ·rw [if_pos e, he, e, h.old hs hm]
 rw [if_neg e]
theorem PrI.done (h : PrI M M' mark c M.length) (k : List UInt8) : getM M' k = pruneC (getM M k) mark c := by
 rw [h, List.take_length]
 by_cases hk : k ∈ keysM M
 ·rw [if_pos hk]
 rw [if_neg hk, getM_out hk]; rfl
theorem PrI.sub (h : PrI M M' mark c i) (k : List UInt8) (hk : getM M' k ≠ []) : getM M k ≠ [] := by
 intro e
 rw [h, e] at hk
 split at hk <;> exact hk rfl
def goneN (M : Model) (mark c : Int) : Nat := (M.map fun m => m.2.length - (pruneC m.2 mark c).length).sum
theorem goneN_next (hm : M[i]? = some m) : goneN (M.take (i + 1)) mark c = goneN (M.take i) mark c + (m.2.length - (pruneC m.2 mark c).length) := by
 unfold goneN
 rw [take_next hm, List.map_append, List.sum_append]
 simp
end
theorem drop_same {α : Type} {l : List α} {n : Nat} (h : ¬ (l.drop n).length < l.length) : l.drop n = l := by
 rw [List.length_drop] at h
 rcases Nat.eq_zero_or_pos l.length with h1 | h1
 ·rw [List.eq_nil_of_length_eq_zero h1]; simp
 rw [show n = 0 by omega, List.drop_zero]
def namesM (M : Model) (s c : Int) : List (List UInt8) := (keysM M).filter fun k => (readV (getM M k) s c).isSome
def dumpM (M : Model) (s c : Int) : List Wr := M.filterMap fun m => (readV m.2 s c).map fun v => ⟨m.1, v⟩
theorem dumpM_some {M : Model} {s c : Int} {i : Nat} {m : List UInt8 × List Ver} {v : Ver} (hm : M[i]? = some m) (hv : readV m.2 s c = some v) : dumpM (M.take (i + 1)) s c = dumpM (M.take i) s c ++ [⟨m.1, v⟩] := by
 unfold dumpM
 rw [take_next hm, List.filterMap_append]
 simp [hv]
theorem dumpM_none {M : Model} {s c : Int} {i : Nat} {m : List UInt8 × List Ver} (hm : M[i]? = some m) (hv : readV m.2 s c = none) : dumpM (M.take (i + 1)) s c = dumpM (M.take i) s c := by
 unfold dumpM
 rw [take_next hm, List.filterMap_append]
 simp [hv]
theorem dumpM_le (M : Model) (s c : Int) : (dumpM M s c).length ≤ M.length := List.length_filterMap_le _ _
theorem dumpM_keys {M : Model} (hs : SortedT (keysM M)) (s c : Int) : (dumpM M s c).map (·.key) = namesM M s c := by
 unfold namesM
 have key : ∀ N : Model, (∀ m ∈ N, getM M m.1 = m.2) → (dumpM N s c).map (·.key) = (keysM N).filter fun k => (readV (getM M k) s c).isSome := by
  intro N
  induction N with
  | nil => intro _; rfl
  | cons m N ih =>
   intro h
   have h1 := h m List.mem_cons_self
   have ih := ih (fun q hq => h q (List.mem_cons_of_mem _ hq))
   unfold dumpM keysM at ih ⊢
   rw [List.filterMap_cons, List.map_cons, List.filter_cons, h1]
   cases hv : readV m.2 s c with
   | none => simpa using ih
   | some v => simpa using ih
 exact key M fun m hm => getM_at hs hm
theorem dumpM_get {M : Model} (hs : SortedT (keysM M)) {s c : Int} {x : Wr} (hx : x ∈ dumpM M s c) : readV (getM M x.key) s c = some x.ver := by
 unfold dumpM at hx
 obtain ⟨m, hm, h⟩ := List.mem_filterMap.1 hx
 obtain ⟨v, hv, rfl⟩ := Option.map_eq_some_iff.1 h
 rw [getM_at hs hm]
 exact hv
end Go.Proofs.YtffmbdagjpdieaaGreat
/- StoreOld in plain data: what was told of a stamp is told of it still. -/
namespace Go.Proofs.YtffmbdagjpdieaaGreat
open Go.RowKit Go.Pm
structure StoM (M : Model) (n : Int) : Prop where
 ok : ∀ k, ChainOk (getM M k)
 up : ∀ k, ∀ v ∈ getM M k, v.stamp ≤ n
 key : ∀ k, getM M k ≠ [] → k.length ≤ 256
theorem StoM.nil : StoM [] 0 := by
 refine ⟨fun k i x hx => ?_, fun k v hv => ?_, fun k h => absurd rfl h⟩
 ·have hx : ([] : List Ver)[i]? = some x := hx
  simp at hx
 have hv : v ∈ ([] : List Ver) := hv
 cases hv
theorem StoM.asc {M : Model} {n : Int} (h : StoM M n) : AscM M := fun k => (h.ok k).asc
theorem setI_cases {M M' : Model} {last : Int} {ws : List Wr} (hs : SetI M M' last ws ws.length) (k : List UInt8) : (∃ x, x ∈ ws ∧ x.key = k ∧ getM M' k = newC M last x) ∨ getM M' k = getM M k := by
 by_cases h : ∃ x, x ∈ ws ∧ x.key = k
 ·obtain ⟨x, hx, rfl⟩ := h
  obtain ⟨j, hj⟩ := List.mem_iff_getElem?.1 hx
  exact .inl ⟨x, hx, rfl, hs.got j x (List.getElem?_eq_some_iff.1 hj).1 hj⟩
 exact .inr (hs.rest k fun j x _ hx e => h ⟨x, List.mem_of_getElem? hx, e⟩)
theorem StoM.step {M M' : Model} {last : Int} {ws : List Wr} (h : StoM M last) (ha : AppOk M last ws) (hs : SetI M M' last ws ws.length) : StoM M' (last + 1) := by
 refine ⟨fun k => ?_, fun k v hv => ?_, fun k hk => ?_⟩
 ·rcases setI_cases hs k with ⟨x, hx, -, e⟩ | e
  ·rw [e]; exact (ha.ch x hx).1
  rw [e]; exact h.ok k
 ·rcases setI_cases hs k with ⟨x, hx, -, e⟩ | e
  ·rw [e] at hv
   rcases List.mem_append.1 hv with hv | hv
   ·have := h.up x.key v hv; omega
   rw [List.mem_singleton.1 hv]; exact Int.le_refl _
  rw [e] at hv
  have := h.up k v hv; omega
 rcases setI_cases hs k with ⟨x, hx, rfl, -⟩ | e
 ·exact (ha.wr x hx).1
 rw [e] at hk; exact h.key k hk
theorem namesM_le (M : Model) (s c : Int) : (namesM M s c).length ≤ M.length := by
 have := List.length_filter_le (fun k => (readV (getM M k) s c).isSome) (keysM M)
 rw [List.length_map] at this
 exact this
end Go.Proofs.YtffmbdagjpdieaaGreat
/- Rules for a row out of which an element is taken in place. -/
namespace Go.Pm
open Go.RowKit
section
variable {P : Program} {t e : TypeId} {w : World}
theorem run_lhm3 {ad : Option Addr} {n c l h m size : Nat} (ht : P.underlying t = some (.slice (P.elem t))) (hs : ∀ w, (sizeOf (P.elem t)).run P w = .ok size w) (h1 : l ≤ h) (h2 : h ≤ m) (h3 : m ≤ c) :
  (Instr.sliceAt t (.slice ad n c) (some (.int .i64 (l : Int))) (some (.int .i64 (h : Int))) (some (.int .i64 (m : Int)))).run P w = .ok (sliced ad l h m size) w := by
 rw [run_sliceAt_slice w t _ _ _ _ ht, run_slice_lhm w t _ n c ht .i64 .i64 .i64 l h m (by omega) (by omega) (by omega) (by omega), hs]
 simp only [Result.andThen, Int.toNat_natCast]
theorem sliced_drop (b l n c size : Nat) : ∃ a2, sliced (some ⟨b, 0, none⟩) l n c size = .slice (some a2) (n - l) (c - l) ∧ ∀ (w : World) (xs : List Value), Src w (some ⟨b, 0, none⟩) xs → xs.length ≤ c * size → Src w (some a2) (xs.drop (l * size)) := by
 unfold sliced
 by_cases h : c = l
 ·refine ⟨⟨b, 0, none⟩, by rw [if_pos h], fun w xs hx hl => ?_⟩
  rw [List.drop_of_length_le (by rw [← h]; exact hl)]
  intro i hi
  simp at hi
 refine ⟨⟨b, 0 + l * size, none⟩, by rw [if_neg h, Option.map_some, addr_add], fun w xs hx _ => hx.drop _⟩
theorem run_lohi {g off n c l h size : Nat} (ht : P.underlying t = some (.slice (P.elem t))) (hs : ∀ w, (sizeOf (P.elem t)).run P w = .ok size w) (h1 : l ≤ h) (h2 : h ≤ c) (h3 : l < c) :
  (Instr.sliceAt t (.slice (some ⟨g, off, none⟩) n c) (some (.int .i64 (l : Int))) (some (.int .i64 (h : Int))) none).run P w = .ok (.slice (some ⟨g, off + l * size, none⟩) (h - l) (c - l)) w := by
 rw [run_sliceAt_slice w t _ _ _ _ ht, run_slice_lh w t _ n c ht .i64 .i64 l h (by omega) (by omega) (by omega), hs]
 simp only [Result.andThen, Int.toNat_natCast, sliced]
 rw [if_neg (by omega), Option.map_some, addr_add]
theorem sliced_rest (b j n r c size : Nat) (hn : n = j + r) : ∃ a2, sliced (some ⟨b, 0, none⟩) j n c size = .slice (some a2) r (c - j) ∧ ∀ (w : World) (xs : List Value), Src w (some ⟨b, 0, none⟩) xs → xs.length ≤ c * size → Src w (some a2) (xs.drop (j * size)) := by
 subst hn
 obtain ⟨a2, h1, h2⟩ := sliced_drop b j (j + r) c size
 exact ⟨a2, by rw [h1, Nat.add_sub_cancel_left], h2⟩
theorem Src.pre {a : Option Addr} {xs ys : List Value} (h : Src w a (xs ++ ys)) : Src w a xs := fun i hi => by
 obtain ⟨b, off, h1, h2⟩ := h i (by rw [List.length_append]; omega)
 exact ⟨b, off, h1, by rw [h2, List.getElem_append_left hi]⟩
theorem del_split (p x d tl : List Value) : p ++ x ++ d ++ tl = p ++ (x ++ d).take d.length ++ ((x ++ d).drop d.length ++ tl) := by
 rw [List.append_assoc p x d, List.append_assoc p, List.append_assoc p, ← List.append_assoc ((x ++ d).take d.length), List.take_append_drop]
theorem del_drop {p x d tl : List Value} {n : Nat} (h : p.length + x.length = n) : (p ++ x ++ d ++ tl).drop n = d ++ tl := by
 rw [List.append_assoc, List.drop_left' (by rw [List.length_append]; exact h)]
theorem run_appendFit {el ty : TypeId} {g k cap size m sCap : Nat} {pre mid post cs : List Value} {a : Addr} (ht : P.underlying t = some (.slice el)) (hs : (P.info? el).map (·.size) = some size)
  (hb : Blk w g (pre ++ mid ++ post) e) (ho : pre.length = k * size) (hm : mid.length = cs.length) (hn : cs.length = m * size) (hsrc : Src w (some a) cs) (h1 : ∀ v ∈ cs, v.oneCell' = true) (hroom : k + m ≤ cap) :
  (Builtin.append_ #[t, t] ty #[.slice (some ⟨g, 0, none⟩) k cap, .slice (some a) m sCap]).run P w = .ok (.slice (some ⟨g, 0, none⟩) (k + m) cap) (setBlk w g (pre ++ cs ++ post)) := by
 obtain ⟨i, hi, hsz⟩ := Option.map_eq_some_iff.1 hs
 subst hsz
 have hfc := run_firstCells_some (P := P) w i.size m a m sCap cs hn (fun j v hv => by
  obtain ⟨hj, rfl⟩ := List.getElem?_eq_some_iff.1 hv
  obtain ⟨b, off, ha, hc⟩ := hsrc j hj
  simp only [Option.some.injEq] at ha
  subst ha
  rw [addr_add]; exact hc)
 have hst := run_storeCells_at P g pre.length e cs 0 _ w hb (by simp; omega) h1
 have e1 : ((pre ++ mid ++ post).take (pre.length + 0)) ++ cs ++ ((pre ++ mid ++ post).drop (pre.length + 0 + cs.length)) = pre ++ cs ++ post := by
  rw [← hm, List.append_assoc pre mid post]
  simp
 have hst' : (storeCells ⟨g, 0 + k * i.size, none⟩ cs 0).run P w = .ok () (setBlk w g (pre ++ cs ++ post)) := by
  rw [Nat.zero_add, ← ho, hst]
  simp only [setBlk]
  rw [e1]
 simp [Builtin.append_, run_underlying ht, sizeOf, typeInfo, hi, Builtin.lenOf, hroom, hfc, Addr.add_lit]
 rw [Nat.zero_add] at hst'
 simp [hst']
end
section
variable {P : Program} {ops : Array Oper} {Q : Exit → Act → World → Prop} {a : Act} {w : World} {o : Oper} {B : Base} {H : List Res} {t e u : TypeId} {x y : Operand} {size : Nat} {J : List Value → World → Prop} {vals : List Value}
theorem mem_appendFit (i : Nat) {g k cap m sCap : Nat} {pre mid post cs : List Value} {ad : Addr} (hg : Region.wanted o (yielded ops a.tmps) = true) (ho : o.op = .call { callee := .builtin .append, args := #[x, y], argTypes := #[t, t] }) (hx : a.eval x = .slice (some ⟨g, 0, none⟩) k cap) (hy : a.eval y = .slice (some ad) m sCap)
  (hu : P.underlying t = some (.slice u)) (hs : (P.info? u).map (·.size) = some size) (hv : Inv B H w) {L : List Value} (hi : H[i]? = some (Res.cell g L e)) (hL : L = pre ++ mid ++ post) (hoff : pre.length = k * size) (hm : mid.length = cs.length) (hn : cs.length = m * size) (hsrc : Src w (some ad) cs) (h1 : ∀ v ∈ cs, v.oneCell' = true) (hroom : k + m ≤ cap)
  (h : ∀ w', Inv B (H.set i (Res.cell g (pre ++ cs ++ post) e)) w' → J (vals ++ [.slice (some ⟨g, 0, none⟩) (k + m) cap]) w') : StepMem P ops J Q o a w vals := by
 subst hL
 have hr := run_appendFit (ty := o.type) (sCap := sCap) hu hs (hv.get i hi : Blk w g _ e) hoff hm hn hsrc h1 hroom
 exact Ex.mem (by unfold Ex; simp [execOp, ho, resolve, invoke, builtin, hx, hy, hr]) hg (h _ (hv.putAt i hi _))
end
end Go.Pm
/- slices.Delete of one element, of entries and of blocks. -/
namespace Go.Proofs.YtffmbdagjpdieaaGreat
open Go.RowKit Go.Pm
theorem s19mk100 : (Tryz.prog.info? 100).map (fun i => (i.zero, i.size, i.bytes)) = some (some (.agg #[.string ⟨([] : List UInt8).toArray⟩, .slice none 0 0]), 2, 40) := by kernel_rfl
theorem s19el101 : Elem Tryz.prog 101 100 (.agg #[.string ⟨([] : List UInt8).toArray⟩, .slice none 0 0]) 2 40 := elem_of Tryz.underlying101 s19mk100 (by rfl) (by decide)
set_option maxHeartbeats 4000000 in
theorem delEnt (B : Base) (H : List Res) (w : World) (b c k r : Nat) (p x d : List Value) (hp : p.length = k * 2) (hx : x.length = 2) (hd : d.length = r * 2) (n j : Nat) (hj : j = k + 1) (hn : n = j + r) (hm : n ≤ 100000000) (h1 : ∀ u ∈ d, u.oneCell' = true) (hv : Inv B (Res.row 100 2 (.slice (some ⟨b, 0, none⟩) n c) n (p ++ x ++ d) :: H) w) :
  Calls Tryz.prog 76 #[.slice (some ⟨b, 0, none⟩) n c, .int .i64 (k : Int), .int .i64 (j : Int)] w fun e w' => e = .returned (.slice (some ⟨b, 0, none⟩) (k + r) c) ∧ Inv B (Res.row 100 2 (.slice (some ⟨b, 0, none⟩) (k + r) c) (k + r) (p ++ d) :: H) w' := by
 obtain ⟨L, hL1, hL2, hL3, hL4, hv⟩ := hv.rowCell
 obtain ⟨tl, hLe⟩ : ∃ tl, L = p ++ x ++ d ++ tl := ⟨L.drop (n * 2), by rw [← hL2, List.take_append_drop]⟩
 subst hLe
 refine cW Tryz.func76 rfl Tryz.ntmps76 ?_
 simp only [al]
 refine sK fun _ k1 => rL (xA (.slice none 0 0) rfl ?_)
 simp only [zP, po]
 refine wK k1 (sK fun _ k2 => ?_)
 refine rL (xM (.slice (some ⟨b, 0, none⟩) n c) rfl ?_)
 refine xM (.int .i64 (k : Int)) rfl (xM (.int .i64 (j : Int)) rfl ?_)
 simp only [zP, po]
 refine xM (.slice (some ⟨b, 0, none⟩) n c) rfl (xG (.int .i64 (n : Int)) rfl (ex_len0 Tryz.underlying101 rfl rfl) ?_)
 refine xG (sliced (some ⟨b, 0, none⟩) k j n 2) rfl (ex_slice (lo' := some (.int .i64 (k : Int))) (hi' := some (.int .i64 (j : Int))) (mx' := some (.int .i64 (n : Int))) rfl rfl (congrArg some rfl) (congrArg some rfl) (congrArg some rfl) (run_lhm3 Tryz.underlying101 s3es101 (by omega) (by omega) (by omega))) ?_
 simp only [zP, po]
 refine wK k2 (sK fun _ k3 => ?_)
 refine sK fun _ k4 => rL (xM (.int .i64 (k : Int)) rfl ?_)
 refine xM (.int .i64 (j : Int)) rfl (xG (.bool false) rfl (ex_eql rfl rfl rfl (decide_eq_false (by omega))) ?_)
 simp only [zP, po]
 refine wK k4 (cF rfl ?_)
 refine kS (tK k3 ?_)
 refine sK fun _ k5 => rL (xM (.slice (some ⟨b, 0, none⟩) n c) rfl ?_)
 refine xG (.int .i64 (n : Int)) rfl (ex_len0 Tryz.underlying101 rfl rfl) (xA (.int .i64 (n : Int)) rfl ?_)
 simp only [zP, po]
 refine wK k5 (sK fun _ k6 => ?_)
 obtain ⟨a2, ha2, hsrc2⟩ := sliced_rest b j n r c 2 (by omega)
 refine rW mixed [6] [0,1,2,3,4,5,6,7] 33 rfl (by kernel_rfl) hv ?_
 simp only [qm, opAt]
 refine dM (.slice (some ⟨b, 0, none⟩) n c) rfl (dM (.int .i64 (k : Int)) rfl ?_)
 refine dG (.slice (some ⟨b, 0, none⟩) k c) rfl (ex_slice (hi' := some (.int .i64 (k : Int))) rfl rfl rfl (congrArg some rfl) rfl (run_hi Tryz.underlying101 s3es101 (by omega))) ?_
 simp only [zP, po]
 refine dM (.slice (some ⟨b, 0, none⟩) n c) rfl (dM (.int .i64 (j : Int)) rfl ?_)
 refine dG (sliced (some ⟨b, 0, none⟩) j n c 2) rfl (ex_slice (lo' := some (.int .i64 (j : Int))) rfl rfl (congrArg some rfl) rfl rfl (run_fromAny Tryz.underlying101 s3es101 (by omega))) ?_
 simp only [zP, po]
 refine dS rfl fun w7 hv => mem_appendFit 0 (pre := p) (mid := (x ++ d).take d.length) (post := (x ++ d).drop d.length ++ tl) (cs := d) (ad := a2) (m := r) rfl rfl rfl (Eq.trans rfl ha2) Tryz.underlying101 s4sz100 hv rfl (del_split p x d tl) hp (by rw [List.length_take, List.length_append]; omega) hd (by have h9 := hsrc2 _ _ (rd_all (hv.get 0 rfl)) (by rw [hL1]; exact Nat.le_refl _); rw [del_drop (by rw [hp, hx]; omega)] at h9; exact h9.pre) h1 (by omega) (fun w8 hv => ?_)
 refine dW hv (dA (.slice (some ⟨b, 0, none⟩) (k + r : Nat) c) rfl ?_)
 refine dE fun w9 hv => ?_
 simp only [zP, po]
 refine tK k6 (sK fun _ k10 => ?_)
 refine rL (xM (.slice (some ⟨b, 0, none⟩) (k + r : Nat) c) rfl ?_)
 refine xM (.slice (some ⟨b, 0, none⟩) (k + r : Nat) c) rfl (xG (.int .i64 ((k + r : Nat) : Int)) rfl (ex_len0 Tryz.underlying101 rfl rfl) ?_)
 simp only [zP, po]
 refine xM (.int .i64 (n : Int)) rfl (xG (.slice (some ⟨b, 0 + (k + r : Nat) * 2, none⟩) (n - (k + r : Nat)) (c - (k + r : Nat))) rfl (ex_slice (lo' := some (.int .i64 ((k + r : Nat) : Int))) (hi' := some (.int .i64 (n : Int))) rfl rfl (congrArg some rfl) (congrArg some rfl) rfl (run_lohi (size := 2) Tryz.underlying101 s3es101 (by omega) (by omega) (by omega))) ?_)
 refine sl_clearAt 0 (pre := p ++ d) (mid := (x ++ d).drop d.length) (post := tl) (m := n - (k + r)) tV (wn rfl) rfl rfl s19el101 (one_cons rfl (one_cons rfl one_nil)) hv rfl (by simp only [List.append_assoc]) (by rw [List.length_append, hp, hd]; omega) (by rw [List.length_drop, List.length_append, hx]; omega) (fun zs w11 hzs hv => ?_)
 simp only [zO] at hv
 simp only [zP, po]
 refine wK k10 (sK fun _ k12 => ?_)
 refine rL (xM (.slice (some ⟨b, 0, none⟩) (k + r : Nat) c) rfl ?_)
 refine xA (.slice (some ⟨b, 0, none⟩) (k + r : Nat) c) rfl ?_
 simp only [zP, po]
 refine wK k12 (rR ?_)
 refine bR rfl rfl ?_
 have h8 := hv.cellRow (n := k + r) (c := c) (size := 2) (by simp only [List.length_append, List.length_drop, hp, hd, hx] at hL1 hzs ⊢; omega) (by omega) hL4
 rw [List.append_assoc (p ++ d), List.take_left' (by rw [List.length_append, hp, hd]; omega)] at h8
 exact ⟨rfl, h8⟩
theorem s19mk101 : (Tryz.prog.info? 101).map (fun i => (i.zero, i.size, i.bytes)) = some (some (.slice none 0 0), 1, 24) := by kernel_rfl
theorem s19el87 : Elem Tryz.prog 87 101 (.slice none 0 0) 1 24 := elem_of Tryz.underlying87 s19mk101 (by rfl) (by decide)
set_option maxHeartbeats 4000000 in
theorem delBlk (B : Base) (H : List Res) (w : World) (b c k r : Nat) (p x d : List Value) (hp : p.length = k * 1) (hx : x.length = 1) (hd : d.length = r * 1) (n j : Nat) (hj : j = k + 1) (hn : n = j + r) (hm : n ≤ 100000000) (h1 : ∀ u ∈ d, u.oneCell' = true) (hv : Inv B (Res.row 101 1 (.slice (some ⟨b, 0, none⟩) n c) n (p ++ x ++ d) :: H) w) :
  Calls Tryz.prog 77 #[.slice (some ⟨b, 0, none⟩) n c, .int .i64 (k : Int), .int .i64 (j : Int)] w fun e w' => e = .returned (.slice (some ⟨b, 0, none⟩) (k + r) c) ∧ Inv B (Res.row 101 1 (.slice (some ⟨b, 0, none⟩) (k + r) c) (k + r) (p ++ d) :: H) w' := by
 obtain ⟨L, hL1, hL2, hL3, hL4, hv⟩ := hv.rowCell
 obtain ⟨tl, hLe⟩ : ∃ tl, L = p ++ x ++ d ++ tl := ⟨L.drop (n * 1), by rw [← hL2, List.take_append_drop]⟩
 subst hLe
 refine cW Tryz.func77 rfl Tryz.ntmps77 ?_
 simp only [al]
 refine sK fun _ k1 => rL (xA (.slice none 0 0) rfl ?_)
 simp only [zP, po]
 refine wK k1 (sK fun _ k2 => ?_)
 refine rL (xM (.slice (some ⟨b, 0, none⟩) n c) rfl ?_)
 refine xM (.int .i64 (k : Int)) rfl (xM (.int .i64 (j : Int)) rfl ?_)
 simp only [zP, po]
 refine xM (.slice (some ⟨b, 0, none⟩) n c) rfl (xG (.int .i64 (n : Int)) rfl (ex_len0 Tryz.underlying87 rfl rfl) ?_)
 refine xG (sliced (some ⟨b, 0, none⟩) k j n 1) rfl (ex_slice (lo' := some (.int .i64 (k : Int))) (hi' := some (.int .i64 (j : Int))) (mx' := some (.int .i64 (n : Int))) rfl rfl (congrArg some rfl) (congrArg some rfl) (congrArg some rfl) (run_lhm3 Tryz.underlying87 s3es87 (by omega) (by omega) (by omega))) ?_
 simp only [zP, po]
 refine wK k2 (sK fun _ k3 => ?_)
 refine sK fun _ k4 => rL (xM (.int .i64 (k : Int)) rfl ?_)
 refine xM (.int .i64 (j : Int)) rfl (xG (.bool false) rfl (ex_eql rfl rfl rfl (decide_eq_false (by omega))) ?_)
 simp only [zP, po]
 refine wK k4 (cF rfl ?_)
 refine kS (tK k3 ?_)
 refine sK fun _ k5 => rL (xM (.slice (some ⟨b, 0, none⟩) n c) rfl ?_)
 refine xG (.int .i64 (n : Int)) rfl (ex_len0 Tryz.underlying87 rfl rfl) (xA (.int .i64 (n : Int)) rfl ?_)
 simp only [zP, po]
 refine wK k5 (sK fun _ k6 => ?_)
 obtain ⟨a2, ha2, hsrc2⟩ := sliced_rest b j n r c 1 (by omega)
 refine rW mixed [6] [0,1,2,3,4,5,6,7] 33 rfl (by kernel_rfl) hv ?_
 simp only [qm, opAt]
 refine dM (.slice (some ⟨b, 0, none⟩) n c) rfl (dM (.int .i64 (k : Int)) rfl ?_)
 refine dG (.slice (some ⟨b, 0, none⟩) k c) rfl (ex_slice (hi' := some (.int .i64 (k : Int))) rfl rfl rfl (congrArg some rfl) rfl (run_hi Tryz.underlying87 s3es87 (by omega))) ?_
 simp only [zP, po]
 refine dM (.slice (some ⟨b, 0, none⟩) n c) rfl (dM (.int .i64 (j : Int)) rfl ?_)
 refine dG (sliced (some ⟨b, 0, none⟩) j n c 1) rfl (ex_slice (lo' := some (.int .i64 (j : Int))) rfl rfl (congrArg some rfl) rfl rfl (run_fromAny Tryz.underlying87 s3es87 (by omega))) ?_
 simp only [zP, po]
 refine dS rfl fun w7 hv => mem_appendFit 0 (pre := p) (mid := (x ++ d).take d.length) (post := (x ++ d).drop d.length ++ tl) (cs := d) (ad := a2) (m := r) rfl rfl rfl (Eq.trans rfl ha2) Tryz.underlying87 s3sz101 hv rfl (del_split p x d tl) hp (by rw [List.length_take, List.length_append]; omega) hd (by have h9 := hsrc2 _ _ (rd_all (hv.get 0 rfl)) (by rw [hL1]; exact Nat.le_refl _); rw [del_drop (by rw [hp, hx]; omega)] at h9; exact h9.pre) h1 (by omega) (fun w8 hv => ?_)
 refine dW hv (dA (.slice (some ⟨b, 0, none⟩) (k + r : Nat) c) rfl ?_)
 refine dE fun w9 hv => ?_
 simp only [zP, po]
 refine tK k6 (sK fun _ k10 => ?_)
 refine rL (xM (.slice (some ⟨b, 0, none⟩) (k + r : Nat) c) rfl ?_)
 refine xM (.slice (some ⟨b, 0, none⟩) (k + r : Nat) c) rfl (xG (.int .i64 ((k + r : Nat) : Int)) rfl (ex_len0 Tryz.underlying87 rfl rfl) ?_)
 simp only [zP, po]
 refine xM (.int .i64 (n : Int)) rfl (xG (.slice (some ⟨b, 0 + (k + r : Nat), none⟩) (n - (k + r : Nat)) (c - (k + r : Nat))) rfl (ex_slice (lo' := some (.int .i64 ((k + r : Nat) : Int))) (hi' := some (.int .i64 (n : Int))) rfl rfl (congrArg some rfl) (congrArg some rfl) rfl (run_lohi1 Tryz.underlying87 s3es87 (by omega) (by omega) (by omega))) ?_)
 refine sl_clearAt 0 (pre := p ++ d) (mid := (x ++ d).drop d.length) (post := tl) (m := n - (k + r)) tV (wn rfl) rfl rfl s19el87 (one_cons rfl one_nil) hv rfl (by simp only [List.append_assoc]) (by rw [List.length_append, hp, hd]; omega) (by rw [List.length_drop, List.length_append, hx]; omega) (fun zs w11 hzs hv => ?_)
 simp only [zO] at hv
 simp only [zP, po]
 refine wK k10 (sK fun _ k12 => ?_)
 refine rL (xM (.slice (some ⟨b, 0, none⟩) (k + r : Nat) c) rfl ?_)
 refine xA (.slice (some ⟨b, 0, none⟩) (k + r : Nat) c) rfl ?_
 simp only [zP, po]
 refine wK k12 (rR ?_)
 refine bR rfl rfl ?_
 have h8 := hv.cellRow (n := k + r) (c := c) (size := 1) (by simp only [List.length_append, List.length_drop, hp, hd, hx] at hL1 hzs ⊢; omega) (by omega) hL4
 rw [List.append_assoc (p ++ d), List.take_left' (by rw [List.length_append, hp, hd]; omega)] at h8
 exact ⟨rfl, h8⟩
end Go.Proofs.YtffmbdagjpdieaaGreat
/- index.remove; index.Set of an empty chain. -/
namespace Go.Proofs.YtffmbdagjpdieaaGreat
open Go.RowKit Go.Pm
theorem s20callable76 : Callable Tryz.prog 76 := ⟨_, Tryz.func76, by kernel_rfl, by kernel_rfl⟩
theorem s20callable77 : Callable Tryz.prog 77 := ⟨_, Tryz.func77, by kernel_rfl, by kernel_rfl⟩
set_option maxHeartbeats 4000000 in
theorem ixRemove0 (B : Base) (H : List Res) (w : World) (p0 a N ca b m c i j r : Nat) (n : Int) (bvs p x d : List Value) (hN : N ≤ 1000000) (hi : i < N) (hm0 : m = j + 1 + r) (hm : m ≤ 1000000) (hn : 1 ≤ n ∧ n ≤ 1000000) (hp : p.length = j * 2) (hx : x.length = 2) (hd : d.length = r * 2) (h1d : ∀ u ∈ d, u.oneCell' = true) (h1b : ∀ u ∈ bvs, u.oneCell' = true) (hbl : bvs.length = N) (hbi : bvs[i]? = some (.slice (some ⟨b, 0, none⟩) m c)) (hv : Inv B (Res.row 100 2 (.slice (some ⟨b, 0, none⟩) m c) m (p ++ x ++ d) :: Res.cell p0 [.slice (some ⟨a, 0, none⟩) N ca, .int .i64 n] 89 :: Res.row 101 1 (.slice (some ⟨a, 0, none⟩) N ca) N bvs :: H) w) :
  Calls Tryz.prog 54 #[.pointer (some ⟨p0, 0, none⟩), .int .i64 (i : Int), .int .i64 (j : Int)] w fun e w' => e = .returned (.tuple #[]) ∧ ((j + r ≠ 0 ∧ Inv B (Res.row 100 2 (.slice (some ⟨b, 0, none⟩) (j + r) c) (j + r) (p ++ d) :: Res.cell p0 [.slice (some ⟨a, 0, none⟩) N ca, .int .i64 (n - 1)] 89 :: Res.row 101 1 (.slice (some ⟨a, 0, none⟩) N ca) N (bvs.set i (.slice (some ⟨b, 0, none⟩) (j + r) c)) :: H) w') ∨ (j + r = 0 ∧ Inv B (Res.cell p0 [.slice (some ⟨a, 0, none⟩) (N - 1) ca, .int .i64 (n - 1)] 89 :: Res.row 101 1 (.slice (some ⟨a, 0, none⟩) (N - 1) ca) (N - 1) (bvs.take i ++ bvs.drop (i + 1)) :: H) w')) := by
 refine cW Tryz.func54 rfl Tryz.ntmps54 ?_
 simp only [al]
 refine sK fun _ k1 => rL (xM (.pointer (some ⟨p0, 0, none⟩)) rfl ?_)
 refine xG (.pointer (some ⟨p0, 0, none⟩)) rfl (ex_nil rfl rfl) (xF (.pointer (some ⟨p0, 1, none⟩)) rfl (s3fa89_1 _ _ _) ?_)
 simp only [zP, po]
 refine xL _ rfl (run_load1 s2na3 (hv.load 1 1 rfl rfl)) (xG (.int .i64 (n - 1)) rfl (ex_sub rfl rfl rfl (i64_in (by omega))) ?_)
 refine xG (.pointer (some ⟨p0, 0, none⟩)) rfl (ex_nil rfl rfl) ?_
 simp only [zP, po]
 refine xF (.pointer (some ⟨p0, 1, none⟩)) rfl (s3fa89_1 _ _ _) (xV 1 (.int .i64 (n - 1)) rfl hv s5sz3 rfl rfl (fun w2 hv => ?_))
 simp only [zS, zO, sp] at hv
 simp only [zP, po]
 refine wK k1 (sK fun _ k3 => ?_)
 refine rL (xM (.pointer (some ⟨p0, 0, none⟩)) rfl ?_)
 refine xG (.pointer (some ⟨p0, 0, none⟩)) rfl (ex_nil rfl rfl) (xF (.pointer (some ⟨p0, 0, none⟩)) rfl (s3fa89_0 _ _ _) ?_)
 simp only [zP, po]
 refine xL _ rfl (run_load1 s3na87 (hv.load 1 0 rfl rfl)) (xM (.int .i64 (i : Int)) rfl ?_)
 refine xG (.pointer (some ⟨a, 0 + i, none⟩)) rfl (ex_index rfl rfl rfl (run_idx1 (k := i) Tryz.underlying87 s3es87 (by omega))) ?_
 simp only [zP, po]
 refine xL _ rfl (run_load1 s3na101 (row_load (hv.get 2 rfl) hbi)) (xM (.int .i64 (j : Int)) rfl ?_)
 refine xM (.int .i64 (j : Int)) rfl ?_
 simp only [zP, po]
 refine xG (.int .i64 ((j + 1 : Nat) : Int)) rfl (ex_add rfl rfl rfl (by rw [i64_in (by omega)]; omega)) (xC s20callable76 rfl ((delEnt B _ _ b c j r p x d hp hx hd m (j + 1) rfl hm0 (by omega) h1d hv).mono ?_) rfl)
 rintro e w4 ⟨rfl, hv⟩
 refine ⟨_, rfl, ?_⟩
 refine xA (.slice (some ⟨b, 0, none⟩) (j + r) c) rfl ?_
 simp only [zP, po]
 refine wK k3 (sK fun _ k5 => ?_)
 refine rL (xM (.pointer (some ⟨p0, 0, none⟩)) rfl ?_)
 refine xG (.pointer (some ⟨p0, 0, none⟩)) rfl (ex_nil rfl rfl) (xF (.pointer (some ⟨p0, 0, none⟩)) rfl (s3fa89_0 _ _ _) ?_)
 simp only [zP, po]
 refine xL _ rfl (run_load1 s3na87 (hv.load 1 0 rfl rfl)) (xM (.int .i64 (i : Int)) rfl ?_)
 refine xM (.slice (some ⟨b, 0, none⟩) (j + r) c) rfl ?_
 simp only [zP, po]
 refine xG (.pointer (some ⟨a, 0 + i, none⟩)) rfl (ex_index rfl rfl rfl (run_idx1 (k := i) Tryz.underlying87 s3es87 (by omega))) ?_
 replace hv := hv.front 2 rfl
 simp only [List.eraseIdx_cons_succ, List.eraseIdx_cons_zero] at hv
 refine sl_storeRow (v := .slice (some ⟨b, 0, none⟩) (j + r) c) tV (wn rfl) rfl rfl rfl hv s3sz101 (by rw [hbl]; omega) rfl rfl (fun w6 hv => ?_)
 rw [Nat.zero_add] at hv
 simp only [zP, po]
 refine wK k5 (sK fun _ k7 => ?_)
 refine rL (xM (.slice (some ⟨b, 0, none⟩) (j + r) c) rfl ?_)
 refine xG (.int .i64 ((j + r) : Int)) rfl (ex_len0 Tryz.underlying101 rfl rfl) ?_
 by_cases hb8 : ((j + r) : Int) = 0
 ·refine xG (.bool true) rfl (ex_eql rfl rfl rfl (decide_eq_true hb8)) ?_
  simp only [zP, po]
  refine wK k7 (cT rfl ?_)
  rw [set_split (by omega)] at hv
  have h1bd : ∀ u ∈ bvs.drop (i + 1), u.oneCell' = true := fun u hu => h1b u (List.mem_of_mem_drop hu)
  refine rL (xM (.pointer (some ⟨p0, 0, none⟩)) rfl ?_)
  refine xM (.pointer (some ⟨p0, 0, none⟩)) rfl (xG (.pointer (some ⟨p0, 0, none⟩)) rfl (ex_nil rfl rfl) ?_)
  simp only [zP, po]
  refine xF (.pointer (some ⟨p0, 0, none⟩)) rfl (s3fa89_0 _ _ _) (xL _ rfl (run_load1 s3na87 (hv.load 2 0 rfl rfl)) ?_)
  refine xM (.int .i64 (i : Int)) rfl ?_
  simp only [zP, po]
  refine xM (.int .i64 (i : Int)) rfl (xG (.int .i64 ((i + 1 : Nat) : Int)) rfl (ex_add rfl rfl rfl (by rw [i64_in (by omega)]; omega)) ?_)
  refine xC s20callable77 rfl ((delBlk B _ _ a ca i (N - (i + 1)) _ _ _ (by rw [List.length_take, hbl]; omega) rfl (by rw [List.length_drop, hbl]; omega) N (i + 1) rfl (by omega) (by omega) h1bd hv).mono ?_) rfl
  rintro e w9 ⟨rfl, hv⟩
  refine ⟨_, rfl, ?_⟩
  rw [show i + (N - (i + 1)) = N - 1 by omega] at hv ⊢
  simp only [zP, po]
  refine xG (.pointer (some ⟨p0, 0, none⟩)) rfl (ex_nil rfl rfl) (xF (.pointer (some ⟨p0, 0, none⟩)) rfl (s3fa89_0 _ _ _) ?_)
  refine xV 2 (.slice (some ⟨a, 0, none⟩) (N - 1) ca) rfl hv s5sz87 rfl rfl (fun w10 hv => ?_)
  simp only [zS, zO, sp] at hv
  refine wL ?_
  simp only [zP, po]
  go_end0
  exact ⟨rfl, .inr ⟨by omega, ((hv.front 2 rfl).sub (List.Sublist.cons_cons _ (List.Sublist.cons_cons _ (List.Sublist.cons _ (List.Sublist.refl _)))))⟩⟩
 refine xG (.bool false) rfl (ex_eql rfl rfl rfl (decide_eq_false hb8)) ?_
 simp only [zP, po]
 refine wK k7 (cF rfl ?_)
 refine kS ?_
 go_end0
 exact ⟨rfl, .inl ⟨by omega, ((hv.front 2 rfl).front 2 rfl)⟩⟩
end Go.Proofs.YtffmbdagjpdieaaGreat
/- index.remove on the whole index; index.Set of an empty chain. -/
namespace Go.Proofs.YtffmbdagjpdieaaGreat
open Go.RowKit Go.Pm
theorem ixRemove (B : Base) (H : List Res) (w : World) (p : Nat) (v : Value) (n : Int) (X : List (List Ent)) (bvs : List Value) (key : List UInt8) (i j : Nat) (hfi : FindI X key i j true) (hne : ∀ es ∈ X, es ≠ []) (hX : X.length ≤ 1000000) (hE : ∀ es ∈ X, es.length ≤ 1000000) (h1 : ∀ es ∈ X, ∀ e ∈ es, e.2.oneCell' = true) (hn : 1 ≤ n ∧ n ≤ 1000000) (hv : Inv B (ixS 89 101 100 p v n X bvs :: H) w) :
  Calls Tryz.prog 54 #[.pointer (some ⟨p, 0, none⟩), .int .i64 (i : Int), .int .i64 (j : Int)] w fun e w' => e = .returned (.tuple #[]) ∧ ∃ v' X' bvs', Inv B (ixS 89 101 100 p v' (n - 1) X' bvs' :: H) w' ∧ X'.flatten = X.flatten.take (posOf X i j) ++ X.flatten.drop (posOf X i j + 1) ∧ ∀ es ∈ X', es ≠ [] := by
 have one_ent : ∀ l : List Ent, (∀ e ∈ l, e.2.oneCell' = true) → ∀ u ∈ entCells l, u.oneCell' = true := by
  intro l hl u hu
  obtain ⟨e, he, h⟩ := List.mem_flatMap.1 hu
  simp only [List.mem_cons, List.not_mem_nil, or_false] at h
  rcases h with h | h
  ·rw [h]; rfl
  rw [h]; exact hl e he
 have hilt := hfi.lt
 obtain ⟨es, hes⟩ : ∃ es, X[i]? = some es := ⟨_, List.getElem?_eq_getElem hilt⟩
 obtain ⟨f, hf, -, -, -⟩ := hfi.at_ es hes
 have hj : j < es.length := (List.getElem?_eq_some_iff.1 hf).1
 have hesm := List.mem_of_getElem? hes
 obtain ⟨a, ca, b, c, rfl, hlen, hbi, hv1⟩ := hv.ixOpen hes (hne es hesm)
 have hsplit : entCells es = entCells (es.take j) ++ [strV f.1, f.2] ++ entCells (es.drop (j + 1)) := by
  conv => lhs; rw [split_at hf]
  rw [entCells_append, List.append_assoc]; rfl
 rw [hsplit] at hv1
 have h1b : ∀ u ∈ bvs, u.oneCell' = true := by
  intro u hu
  obtain ⟨k, hk⟩ := List.mem_iff_getElem?.1 hu
  obtain ⟨es2, hes2⟩ : ∃ es2, X[k]? = some es2 := ⟨_, List.getElem?_eq_getElem (by have := (List.getElem?_eq_some_iff.1 hk).1; omega)⟩
  obtain ⟨ad2, c2, rfl⟩ := row_slice (ixS_blk hv.head hes2 hk)
  rfl
 have hl' : (es.take j ++ es.drop (j + 1)).length = j + (es.length - (j + 1)) := by
  simp only [List.length_append, List.length_take, List.length_drop]; omega
 refine (ixRemove0 B _ w p a X.length ca b es.length c i j (es.length - (j + 1)) n bvs (entCells (es.take j)) [strV f.1, f.2] (entCells (es.drop (j + 1))) hX hilt (by omega) (hE es hesm) hn (by rw [entCells_len, List.length_take]; omega) rfl (by rw [entCells_len, List.length_drop]) (one_ent _ (fun e he => h1 es hesm e (List.mem_of_mem_drop he))) h1b hlen hbi hv1).mono ?_
 rintro e w' ⟨he, ⟨h0, h3⟩ | ⟨h0, h3⟩⟩
 ·refine ⟨he, _, X.set i (es.take j ++ es.drop (j + 1)), _, Inv.ixClose1 (es' := es.take j ++ es.drop (j + 1)) hlen hilt (by rw [hl', entCells_append]; exact h3), flat_rem1 hes hj, fun es2 h2 => ?_⟩
  rcases List.mem_or_eq_of_mem_set h2 with h2 | h2
  ·exact hne es2 h2
  intro h4
  rw [h2] at h4
  have := congrArg List.length h4
  rw [hl', List.length_nil] at this
  omega
 obtain rfl : j = 0 := by omega
 refine ⟨he, _, X.take i ++ X.drop (i + 1), _, Inv.ixClose0 hlen hilt h3, flat_rem2 hes (by omega), fun es2 h2 => ?_⟩
 rcases List.mem_append.1 h2 with h2 | h2
 ·exact hne es2 (List.mem_of_mem_take h2)
 exact hne es2 (List.mem_of_mem_drop h2)
theorem s21callable54 : Callable Tryz.prog 54 := ⟨_, Tryz.func54, by kernel_rfl, by kernel_rfl⟩
set_option maxHeartbeats 4000000 in
theorem ixDel0 (B : Base) (H : List Res) (w : World) (p : Nat) (v : Value) (X : List (List Ent)) (bvs : List Value) (M : Model) (key : List UInt8) (cad : Option Addr) (cc : Nat) (hx : IxM B X M) (hv : Inv B (ixS 89 101 100 p v (M.length : Int) X bvs :: H) w) :
  Calls Tryz.prog 23 #[.pointer (some ⟨p, 0, none⟩), .string ⟨key.toArray⟩, .slice cad 0 cc] w fun e w' => e = .returned (.tuple #[]) ∧ ∃ v' X' bvs' M', IxM B X' M' ∧ (∀ k, getM M' k = if k = key then [] else getM M k) ∧ (M'.length ≤ M.length ∧ M.length ≤ M'.length + 1) ∧ Inv B (ixS 89 101 100 p v' (M'.length : Int) X' bvs' :: H) w' := by
 obtain ⟨ad, c, hva0, hok0, hp, hr, hbv⟩ := ixS_facts hv List.mem_cons_self
 subst hva0
 refine cW Tryz.func23 rfl Tryz.ntmps23 ?_
 simp only [al]
 refine sK fun _ k1 => rL (xM (.pointer (some ⟨p, 0, none⟩)) rfl ?_)
 refine xM (.string ⟨key.toArray⟩) rfl (xC s3callable51 rfl ((ixFind B _ _ p _ X ad c bvs key _ (fun r hr => by rw [List.mem_singleton.1 hr]; exact List.mem_cons_self) hp hr hbv hx.ok hv).mono ?_) rfl)
 rintro e w2 ⟨i, j, ok, hfi, rfl, hv⟩
 refine ⟨_, rfl, ?_⟩
 simp only [zP, po]
 refine xM (.tuple #[.int .i64 (i : Int), .int .i64 (j : Int), .bool ok]) rfl (xG (.int .i64 (i : Int)) rfl (ex_extract rfl rfl rfl) ?_)
 refine xG (.int .i64 (j : Int)) rfl (ex_extract rfl rfl rfl) ?_
 simp only [zP, po]
 refine xG (.bool ok) rfl (ex_extract rfl rfl rfl) (xA (.int .i64 (i : Int)) rfl ?_)
 refine xA (.int .i64 (j : Int)) rfl ?_
 simp only [zP, po]
 refine xA (.bool ok) rfl ?_
 simp only [zP, po]
 refine wK k1 (bB ?_)
 refine sK fun _ k3 => rL (xM (.slice cad 0 cc) rfl ?_)
 refine xG (.int .i64 0) rfl (ex_len0 Tryz.underlying70 rfl rfl) (xG (.bool false) rfl (ex_gtr rfl rfl rfl (by decide)) ?_)
 simp only [zP, po]
 refine xM (.bool false) rfl (yN rfl ?_)
 refine xK false (.bool false) rfl (xA (.bool false) rfl ?_)
 simp only [zP, po]
 refine wK k3 (cF rfl ?_)
 refine sK fun _ k4 => rL (xM (.slice cad 0 cc) rfl ?_)
 refine xG (.int .i64 0) rfl (ex_len0 Tryz.underlying70 rfl rfl) (xG (.bool false) rfl (ex_gtr rfl rfl rfl (by decide)) ?_)
 simp only [zP, po]
 refine xA (.bool false) rfl ?_
 simp only [zP, po]
 refine wK k4 (cF rfl ?_)
 refine sK fun _ k5 => rL (xM (.bool ok) rfl ?_)
 refine xA (.bool ok) rfl ?_
 simp only [zP, po]
 refine wK k5 (wpIn_cond_split (t := ok) rfl (fun hc6 => ?_) (fun hc6 => ?_))
 ·refine rL (xM (.pointer (some ⟨p, 0, none⟩)) rfl ?_)
  refine xM (.int .i64 (i : Int)) rfl (xM (.int .i64 (j : Int)) rfl ?_)
  simp only [zP, po]
  subst hc6
  obtain ⟨e0, m0, -, hm0, -⟩ := (hfi.pos hx.so).some hx.mo
  have hM1 : 1 ≤ M.length := by have := (List.getElem?_eq_some_iff.1 hm0).1; omega
  have hMs := hx.sm
  refine xC s21callable54 rfl ((ixRemove B _ _ p _ _ X bvs key i j hfi hx.ne hx.ok.lenX hx.ok.lenE (fun es hes e he => by obtain ⟨m, -, -, h9⟩ := (mods_mem hx.mo (List.mem_flatten.2 ⟨es, hes, he⟩)); exact h9.one) (by omega) hv).mono ?_) rfl
  rintro e w7 ⟨rfl, v2, X2, bvs2, hv, hfl, hne2⟩
  refine ⟨_, rfl, ?_⟩
  refine wL ?_
  simp only [zP, po]
  refine bN ?_
  go_end0
  obtain ⟨hm1, hm2, hm3⟩ := ixm_remove hx hfi hfl hne2
  have h8 := hv
  rw [show (M.length : Int) - 1 = ((remM M (posOf X i j)).length : Int) by omega] at h8
  exact ⟨rfl, v2, X2, bvs2, _, hm1, hm2, by omega, h8⟩
 refine kS (bN ?_)
 go_end0
 obtain rfl : ok = false := by simpa using hc6
 exact ⟨rfl, _, X, bvs, M, hx, fun k => (by split; (next h => rw [h, hx.none hfi]); rfl), by omega, hv⟩
end Go.Proofs.YtffmbdagjpdieaaGreat
/- A part of a row that stays. -/
namespace Go.Pm
open Go.RowKit
theorem RdV.shift {B : Base} {H : List Res} {b off : Nat} {xs : List Value} (h : RdV B H (some ⟨b, off, none⟩) xs) (k : Nat) : RdV B H (some ⟨b, off + k, none⟩) (xs.drop k) := fun i hi => by
 rw [List.length_drop] at hi
 obtain ⟨b', off', h1, h2⟩ := h (k + i) (by omega)
 cases h1
 refine ⟨b, off + k, rfl, ?_⟩
 rw [List.getElem_drop, Nat.add_assoc]
 exact h2
theorem rdV_nil_any (B : Base) (ad : Option Addr) : RdV B [] ad [] := fun i hi => by simp at hi
theorem sliced_rdV {B : Base} {ad : Option Addr} {n c k : Nat} {xs : List Value} (size : Nat) (hr : RdV B [] ad xs) (hl : xs.length = n * size) (hn : n ≤ c) (hk : k ≤ n) (hz : 0 < size) : ∃ a2, sliced ad k n c size = .slice a2 (n - k) (c - k) ∧ RdV B [] a2 (xs.drop (k * size)) := by
 rcases Nat.lt_or_ge k n with h | h
 ·have h1 : 0 < xs.length := by rw [hl]; exact Nat.mul_pos (by omega) hz
  obtain ⟨b, off, rfl, -⟩ := hr 0 h1
  refine ⟨some ⟨b, off + k * size, none⟩, ?_, hr.shift _⟩
  unfold sliced
  rw [if_neg (by omega), Option.map_some, addr_add]
 obtain rfl : k = n := by omega
 have hd : xs.drop (k * size) = [] := List.drop_of_length_le (by omega)
 refine ⟨_, rfl, ?_⟩
 rw [hd]
 exact rdV_nil_any _ _
theorem sliced_rdW {B : Base} {R : List Res} {ad : Option Addr} {n c k : Nat} {xs : List Value} (size : Nat) (hr : RdW B R ad xs) (hl : xs.length = n * size) (hn : n ≤ c) (hk : k ≤ n) (hz : 0 < size) : ∃ a2, sliced ad k n c size = .slice a2 (n - k) (c - k) ∧ RdW B R a2 (xs.drop (k * size)) := by
 rcases Nat.lt_or_ge k n with h | h
 ·have h1 : 0 < xs.length := by rw [hl]; exact Nat.mul_pos (by omega) hz
  obtain ⟨b, off, rfl, -⟩ := hr 0 h1
  refine ⟨some ⟨b, off + k * size, none⟩, ?_, hr.drop _⟩
  unfold sliced
  rw [if_neg (by omega), Option.map_some, addr_add]
 obtain rfl : k = n := by omega
 have hd : xs.drop (k * size) = [] := List.drop_of_length_le (by omega)
 refine ⟨_, rfl, ?_⟩
 rw [hd]
 exact fun i hi => by simp at hi
end Go.Pm
