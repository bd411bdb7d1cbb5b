/- store.chains. -/
import Derived.Test.YtffmbdagjpdieaaSpB
import Derived.Test.YtffmbdagjpdieaaSpH
import Derived.Test.YtffmbdagjpdieaaRows
import Derived.Test.YtffmbdagjpdieaaSpE
import Derived.Test.YtffmbdagjpdieaaSpC
import Derived.Laws.StructEq
set_option maxRecDepth 100000
namespace Go.Proofs.Ytffmbdagjpdieaa
open Go.RowKit Go.Pm
theorem storeAllX (B : Base) (H : List Res) (w : World) (ad : Option Addr) (c : Nat) (xs : List Value) (l : List Wr) (hr : RdV B [] ad xs) (hxs : WrsAt B l xs) (hm : l.length ≤ 1000000) (hv : Inv B H w) : Calls Try.prog 38 #[.slice ad l.length c, .func (.func 36) #[] #[]] w fun e w' => ∃ b, e = .returned (.bool b) ∧ (b = true ↔ ∀ x ∈ l, WrOk x) ∧ Inv B H w' := by
 refine (storeAll B H w ad c xs l hr hxs hm hv).mono ?_
 rintro e w' ⟨h1, h2⟩
 refine ⟨_, h1, ?_, h2⟩
 rw [Bool.not_eq_true', List.any_eq_false]
 constructor
 ·intro h x hx
  have := h x hx
  rw [← wrOkB_iff]
  simpa using this
 intro h x hx
 have := (wrOkB_iff x).2 (h x hx)
 simp [this]
def newC (M : Model) (last : Int) (x : Wr) : List Ver := getM M x.key ++ [{ x.ver with stamp := last + 1 }]
def news (M : Model) (ws : List Wr) : Nat := (ws.filter fun x => (getM M x.key).length == 0).length
theorem news_next (M : Model) {ws : List Wr} {i : Nat} {x : Wr} (hx : ws[i]? = some x) : news M (ws.take (i + 1)) = news M (ws.take i) + if (getM M x.key).length = 0 then 1 else 0 := by
 unfold news
 rw [take_next hx, List.filter_append, List.length_append]
 by_cases h : (getM M x.key).length = 0
 ·simp [h]
 simp [h]
theorem news_le (M : Model) (ws : List Wr) : news M ws ≤ ws.length := List.length_filter_le _ _
structure AppOk (M : Model) (last : Int) (ws : List Wr) : Prop where
 la : last < 1152921504606846975
 nd : (ws.map (·.key)).Nodup
 wr : ∀ x ∈ ws, WrOk x
 ch : ∀ x ∈ ws, ChainOk (newC M last x) ∧ (newC M last x).length ≤ 64
 nw : M.length + news M ws ≤ 4096
structure ChsI (C : Base) (M : Model) (last : Int) (ws : List Wr) (i : Nat) (fl : Bool) (ys : List Value) : Prop where
 len : ys.length = i
 one : ∀ u ∈ ys, u.oneCell' = true
 ok : fl = false → ∀ j x, j < i → ws[j]? = some x → ∃ q, ys[j]? = some q ∧ ChainB C q (newC M last x) ∧ ChainOk (newC M last x) ∧ (newC M last x).length ≤ 64
theorem ChsI.full {C D : Base} {M : Model} {last : Int} {ws : List Wr} {i : Nat} {fl : Bool} {ys : List Value} (h : ChsI C M last ws i fl ys) {u : Value} (hu : u.oneCell' = true) : ChsI D M last ws (i + 1) true (ys ++ [u]) :=
 ⟨by rw [List.length_append, h.len]; rfl, fun a ha => by
  rcases List.mem_append.1 ha with ha | ha
  ·exact h.one a ha
  rw [List.mem_singleton.1 ha]; exact hu, fun h => by cases h⟩
theorem ChsI.next {C D : Base} {M : Model} {last : Int} {ws : List Wr} {i : Nat} {ys : List Value} (h : ChsI C M last ws i false ys) (hD : C.Le D) {x : Wr} (hx : ws[i]? = some x) {u : Value} (hq : ChainB D u (newC M last x)) (h1 : ChainOk (newC M last x)) (h2 : (newC M last x).length ≤ 64) : ChsI D M last ws (i + 1) false (ys ++ [u]) :=
 ⟨by rw [List.length_append, h.len]; rfl, fun a ha => by
  rcases List.mem_append.1 ha with ha | ha
  ·exact h.one a ha
  ·rw [List.mem_singleton.1 ha]; exact hq.one, fun _ j y hj hy => by
  rcases Nat.lt_or_ge j i with h3 | h3
  ·obtain ⟨q, q1, q2, q3⟩ := h.ok rfl j y h3 hy
   exact ⟨q, by rw [List.getElem?_append_left (by rw [h.len]; exact h3)]; exact q1, q2.more hD, q3⟩
  have e : j = i := by omega
  rw [e] at hy ⊢
  rw [hx] at hy
  cases hy
  exact ⟨u, by rw [List.getElem?_append_right (by rw [h.len]; exact Nat.le_refl _), h.len, Nat.sub_self]; rfl, hq, h1, h2⟩⟩
theorem chainPutX (B : Base) (H : List Res) (w : World) (v : Value) (l : List Ver) (x : Ver) (ad2 : Option Addr) (xs2 : List Value) (h : ChainB B v l) (hr2 : RdV B [] ad2 xs2) (hxs2 : VersAt B [x] xs2) (hm : l.length ≤ 100000) (hv : Inv B H w) : Calls Try.prog 41 #[v, .slice ad2 1 1] w fun e w' => ∃ C v' ec, B.Le C ∧ e = .returned (.tuple #[v', .int .i64 ec]) ∧ Inv C H w' ∧ ((¬ ChainOk (l ++ [x]) ∧ ec = 2 ∧ v' = .slice none 0 0) ∨ (ChainOk (l ++ [x]) ∧ 64 < (l ++ [x]).length ∧ ec = 22 ∧ v' = .slice none 0 0) ∨ (ChainOk (l ++ [x]) ∧ (l ++ [x]).length ≤ 64 ∧ ec = 0 ∧ ChainB C v' (l ++ [x]))) := by
 obtain ⟨ad, c, xs, rfl, hok, hr, hxs⟩ := h
 exact chainPut0 B H w ad ad2 c 1 xs xs2 l [x] hr hxs hr2 hxs2 hm (by simp) hv
theorem ChsI.more {C D : Base} {M : Model} {last : Int} {ws : List Wr} {i : Nat} {fl : Bool} {ys : List Value} (h : ChsI C M last ws i fl ys) (hD : C.Le D) : ChsI D M last ws i fl ys := ⟨h.len, h.one, fun hf j x hj hx => by
 obtain ⟨q, q1, q2, q3⟩ := h.ok hf j x hj hx
 exact ⟨q, q1, q2.more hD, q3⟩⟩
theorem s16callable37 : Callable Try.prog 37 := ⟨_, Try.func37, by kernel_rfl, by kernel_rfl⟩
theorem s16callable38 : Callable Try.prog 38 := ⟨_, Try.func38, by kernel_rfl, by kernel_rfl⟩
theorem s16mk66 : (Try.prog.info? 66).map (fun i => (i.zero, i.size, i.bytes)) = some (some (.slice none 0 0), 1, 24) := by kernel_rfl
theorem s16el62 : Elem Try.prog 62 66 (.slice none 0 0) 1 24 := elem_of Try.underlying62 s16mk66 (by rfl) (by decide)
theorem s16callable40 : Callable Try.prog 40 := ⟨_, Try.func40, by kernel_rfl, by kernel_rfl⟩
theorem s16al40 (w : World) : (Instr.alloc 40 true (.tuple #[])).run Try.prog w = .ok (.pointer (some ⟨w.heap.size, 0, none⟩)) (w.alloc (.cells ([.string ⟨([] : List UInt8).toArray⟩, .int .i64 0, .bool false, .int .i64 0, .int .i64 0, .string ⟨([] : List UInt8).toArray⟩, .slice none 0 0, .slice none 0 0, .slice none 0 0] : List Value).toArray 40)) := by kernel_rfl
theorem s16mk38 : (Try.prog.info? 38).map (fun i => (i.zero, i.size, i.bytes)) = some (some (.agg #[.int .i64 0, .bool false, .int .i64 0, .int .i64 0, .string ⟨([] : List UInt8).toArray⟩, .slice none 0 0, .slice none 0 0, .slice none 0 0]), 8, 120) := by kernel_rfl
theorem s16el66 : Elem Try.prog 66 38 (.agg #[.int .i64 0, .bool false, .int .i64 0, .int .i64 0, .string ⟨([] : List UInt8).toArray⟩, .slice none 0 0, .slice none 0 0, .slice none 0 0]) 8 120 := elem_of Try.underlying66 s16mk38 (by rfl) (by decide)
theorem s16callable41 : Callable Try.prog 41 := ⟨_, Try.func41, by kernel_rfl, by kernel_rfl⟩
set_option maxHeartbeats 4000000 in
theorem storeChains (B : Base) (H : List Res) (w : World) (s p : Nat) (v : Value) (X : List (List Ent)) (bvs : List Value) (M : Model) (last mark : Int) (ad : Option Addr) (c : Nat) (xs : List Value) (ws : List Wr) (hx0 : IxM B X M) (hlast : 0 ≤ last) (hr : RdV B [] ad xs) (hws : WrsAt B ws xs) (hm : ws.length ≤ 1000) (hv : Inv B (Res.cell s [.pointer (some ⟨p, 0, none⟩), .int .i64 last, .int .i64 mark] 60 :: ixS 81 93 92 p v (M.length : Int) X bvs :: H) w) :
  Calls Try.prog 24 #[.pointer (some ⟨s, 0, none⟩), .slice ad ws.length c] w fun e w' => ∃ C v' ec, B.Le C ∧ e = .returned (.tuple #[v', .int .i64 ec]) ∧ Inv C (Res.cell s [.pointer (some ⟨p, 0, none⟩), .int .i64 last, .int .i64 mark] 60 :: ixS 81 93 92 p v (M.length : Int) X bvs :: H) w' ∧ ((ec ≠ 0 ∧ ¬ AppOk M last ws) ∨ (ec = 0 ∧ AppOk M last ws ∧ ∃ ra rc ys, v' = .slice ra ws.length rc ∧ RdV C [] ra ys ∧ ChsI C M last ws ws.length false ys)) := by
 have hMl := hx0.sm
 refine (callsIn_wide (n := 5)).1 ?_
 refine callsIn_of_wp Try.func24 rfl trivial ?_
 simp only [Try.ntmps24, List.size_toArray, List.length_cons, List.length_nil, Nat.reduceAdd, Nat.reduceSub, Array.replicate_succ, Array.replicate_zero, List.push_toArray, List.append_toArray, List.nil_append, List.cons_append]
 refine sK fun K1 hK1 => rL ?_
 refine xA (.slice none 0 0) rfl rfl rfl ?_
 refine xA (.int .i64 0) rfl rfl rfl ?_
 refine wL ?_
 simp only [zP, zI, zS, zO]
 refine tN (hK1 _ _ ?_)
 clear hK1 K1
 refine sK fun K2 hK2 => ?_
 refine sK fun K3 hK3 => rL ?_
 refine xM (.pointer (some ⟨s, 0, none⟩)) rfl rfl rfl ?_
 refine xG (.pointer (some ⟨s, 0, none⟩)) rfl rfl (ex_nil rfl rfl) ?_
 refine xF (.pointer (some ⟨s, 1, none⟩)) rfl rfl rfl (s15fa60_1 _ _ _) ?_
 simp only [zP, zI, zS, zO]
 refine xL (.int .i64 last) rfl rfl rfl (run_load1 s2na3 (hv.load 0 1 rfl rfl)) ?_
 by_cases hb4 : last ≥ 1152921504606846975
 ·refine xG (.bool true) rfl rfl (ex_geq (k := .i64) (m := last) (n := 1152921504606846975) rfl rfl rfl (decide_eq_true hb4)) ?_
  refine xM (.bool true) rfl rfl rfl ?_
  simp only [zP, zI, zS, zO]
  refine xN 5 19 false true rfl rfl rfl (by decide) ?_
  refine xN 5 19 false true rfl rfl rfl (by decide) ?_
  refine xK true (.bool true) rfl rfl rfl rfl ?_
  simp only [zP, zI, zS, zO]
  refine xM (.bool true) rfl rfl rfl ?_
  refine xT 9 23 false true rfl rfl rfl rfl rfl rfl rfl (by decide) ?_
  simp only [zP, zI, zS, zO]
  refine xK true (.bool true) rfl rfl rfl rfl ?_
  refine wL ?_
  simp only [zP, zI, zS, zO]
  refine tN (hK3 _ _ ?_)
  clear hK3 K3
  refine wpIn_cond_true rfl ?_
  refine sK fun K5 hK5 => rL ?_
  refine xA (.slice none 0 0) rfl rfl rfl ?_
  refine xA (.int .i64 2) rfl rfl rfl ?_
  refine wL ?_
  simp only [zP, zI, zS, zO]
  refine tN (hK5 _ _ ?_)
  clear hK5 K5
  refine wpIn_ret ?_
  refine then_ret ?_
  clear hK2 K2
  refine bodyPost_ret (results_tmp2 rfl _ _ _) rfl ?_
  exact ⟨_, _, 2, (Base.Le.refl _), rfl, ((hv.front 1 rfl).front 1 rfl), .inl ⟨by decide, fun h9 => by first | (have h8 := h9.la; omega) | (obtain ⟨x9, h7, h8⟩ := hfl rfl; have := (h9.ch x9 h7).2; omega) | (have h8 := h9.nw; rw [show i = ws.length by omega, List.take_length] at hkk; omega) | exact hno (h9.ch x (List.mem_of_getElem? hx)).1⟩⟩
 refine xG (.bool false) rfl rfl (ex_geq (k := .i64) (m := last) (n := 1152921504606846975) rfl rfl rfl (decide_eq_false hb4)) ?_
 refine xM (.bool false) rfl rfl rfl ?_
 simp only [zP, zI, zS, zO]
 refine xH 5 19 false (.slice ad ws.length c) rfl rfl rfl rfl (ex_move rfl rfl) ?_
 refine wpi_callG s16callable37 tV wideC rfl (wanted_of (j := 5) (d := 19) (b := false) rfl rfl rfl) rfl (args := #[.slice ad ws.length c]) (by simp only [yA, yB, yC]; rfl) ((storeTwice0 B _ _ ad c xs ws hr hws (by omega) hv).mono ?_)
 rintro e w7 ⟨bl6, rfl, hbl6, hv⟩
 refine ⟨_, rfl, ?_⟩
 cases bl6
 ·refine xK false (.bool false) rfl rfl rfl rfl ?_
  simp only [zP, zI, zS, zO]
  refine xM (.bool false) rfl rfl rfl ?_
  refine xH 9 23 false (.slice ad ws.length c) rfl rfl rfl rfl (ex_move rfl rfl) ?_
  refine wpi_callG s16callable38 tV wideC rfl (wanted_of (j := 9) (d := 23) (b := false) rfl rfl rfl) rfl (args := #[.slice ad ws.length c, .func (.func 36) #[] #[]]) (by simp only [yA, yB, yC]; rfl) ((storeAllX B _ _ ad c xs ws hr hws (by omega) hv).mono ?_)
  rintro e w9 ⟨bl8, rfl, hbl8, hv⟩
  refine ⟨_, rfl, ?_⟩
  cases bl8
  ·simp only [zP, zI, zS, zO]
   refine xH 9 23 false (.bool true) rfl rfl rfl rfl (ex_not (b := false) rfl rfl rfl) ?_
   refine xK false (.bool true) rfl rfl rfl rfl ?_
   refine wL ?_
   simp only [zP, zI, zS, zO]
   refine tN (hK3 _ _ ?_)
   clear hK3 K3
   refine wpIn_cond_true rfl ?_
   refine sK fun K10 hK10 => rL ?_
   refine xA (.slice none 0 0) rfl rfl rfl ?_
   refine xA (.int .i64 2) rfl rfl rfl ?_
   refine wL ?_
   simp only [zP, zI, zS, zO]
   refine tN (hK10 _ _ ?_)
   clear hK10 K10
   refine wpIn_ret ?_
   refine then_ret ?_
   clear hK2 K2
   refine bodyPost_ret (results_tmp2 rfl _ _ _) rfl ?_
   exact ⟨_, _, 2, (Base.Le.refl _), rfl, ((hv.front 1 rfl).front 1 rfl), .inl ⟨by decide, fun h9 => by first | exact hbl6.1 rfl h9.nd | exact absurd (hbl8.2 h9.wr) (by decide) | (have h8 := h9.la; omega) | (obtain ⟨x9, h7, h8⟩ := hfl rfl; have := (h9.ch x9 h7).2; omega) | (have h8 := h9.nw; rw [show i = ws.length by omega, List.take_length] at hkk; omega) | exact hno (h9.ch x (List.mem_of_getElem? hx)).1⟩⟩
  simp only [zP, zI, zS, zO]
  refine xH 9 23 false (.bool false) rfl rfl rfl rfl (ex_not (b := true) rfl rfl rfl) ?_
  refine xK false (.bool false) rfl rfl rfl rfl ?_
  refine wL ?_
  simp only [zP, zI, zS, zO]
  refine tN (hK3 _ _ ?_)
  clear hK3 K3
  refine wpIn_cond_false rfl ?_
  refine wpIn_skip ?_
  refine tN (hK2 _ _ ?_)
  clear hK2 K2
  refine sK fun K11 hK11 => rL ?_
  refine xM (.slice ad ws.length c) rfl rfl rfl ?_
  refine xG (.int .i64 (ws.length : Int)) rfl rfl (ex_len0 Try.underlying27 rfl rfl) ?_
  refine sl_makeRow (cap := ws.length) tV (wn rfl) rfl rfl rfl s16el62 (by unfold maxLen; omega) (by omega) hv (fun b12 w13 hv => ?_)
  simp only [zP, zI, zS, zO]
  refine xA (.slice (some ⟨b12, 0, none⟩) 0 ws.length) rfl rfl rfl ?_
  refine wL ?_
  simp only [zP, zI, zS, zO]
  refine tN (hK11 _ _ ?_)
  clear hK11 K11
  refine sK fun K14 hK14 => rL ?_
  refine xM (.pointer (some ⟨s, 0, none⟩)) rfl rfl rfl ?_
  refine xG (.pointer (some ⟨s, 0, none⟩)) rfl rfl (ex_nil rfl rfl) ?_
  refine xF (.pointer (some ⟨s, 0, none⟩)) rfl rfl rfl (s15fa60_0 _ _ _) ?_
  simp only [zP, zI, zS, zO]
  refine xL (.pointer (some ⟨p, 0, none⟩)) rfl rfl rfl (run_load1 s3na57 (hv.load 1 0 rfl rfl)) ?_
  replace hv := hv.front 2 rfl
  simp only [List.eraseIdx_cons_succ, List.eraseIdx_cons_zero] at hv
  refine xC s16callable40 rfl rfl (l := [.pointer (some ⟨p, 0, none⟩)]) rfl ((ixLenS B _ _ p v _ X bvs hv).mono ?_)
  rintro e w15 ⟨rfl, hv⟩
  refine ⟨_, rfl, ?_⟩
  refine xA (.int .i64 (M.length : Int)) rfl rfl rfl ?_
  refine wL ?_
  simp only [zP, zI, zS, zO]
  refine tN (hK14 _ _ ?_)
  clear hK14 K14
  refine sK fun K16 hK16 => rL ?_
  refine xA (.bool false) rfl rfl rfl ?_
  refine wL ?_
  simp only [zP, zI, zS, zO]
  refine tN (hK16 _ _ ?_)
  clear hK16 K16
  refine sK fun K17 hK17 => ?_
  refine sK fun K18 hK18 => rL ?_
  refine xM (.slice ad ws.length c) rfl rfl rfl ?_
  refine xG (.int .i64 (ws.length : Int)) rfl rfl (ex_len0 Try.underlying27 rfl rfl) ?_
  refine xM (.int .i64 0) rfl rfl rfl ?_
  refine wL ?_
  simp only [zP, zI, zS, zO]
  refine tN (hK18 _ _ ?_)
  clear hK18 K18
  refine wpIn_block ?_
  gi_loopw [6, 7, 8, 38] (fun x6 x7 x8 x38 wr => ∃ (i : Nat) (kk : Int) (fl : Bool) (C : Base) (ra : Option Addr) (rc : Nat) (ys : List Value), x6 = .slice ra i rc ∧ x7 = .int .i64 kk ∧ x8 = .bool fl ∧ x38 = .int .i64 (i : Int) ∧ B.Le C ∧ i ≤ ws.length ∧ kk = ((M.length + news M (ws.take i) : Nat) : Int) ∧ (fl = true → ∃ x, x ∈ ws ∧ 64 < (newC M last x).length) ∧ ChsI C M last ws i fl ys ∧ Inv C (Res.row 66 1 (.slice ra i rc) i ys :: Res.cell s [.pointer (some ⟨p, 0, none⟩), .int .i64 last, .int .i64 mark] 60 :: ixS 81 93 92 p v (M.length : Int) X bvs :: H) wr) (fun x6 x7 x8 x38 _ => ws.length - (intOf x38).toNat)
  case atStart => exact ⟨0, _, false, B, _, _, [], rfl, rfl, rfl, rfl, Base.Le.refl _, Nat.zero_le _, rfl, fun h => (by cases h), ⟨rfl, fun u hu => (by cases hu), fun _ j x hj => (by omega)⟩, ((hv.front 2 rfl).front 2 rfl)⟩
  case round =>
   obtain ⟨i, kk, fl, C, ra, rc, ys, rfl, rfl, rfl, rfl, hBC, hi, hkk, hfl, hchs, hv⟩ := hrel
   have hnl := news_le M (ws.take i)
   rw [List.length_take] at hnl
   refine sK fun K20 hK20 => rL ?_
   by_cases hb21 : (i : Int) < (ws.length : Int)
   ·refine xG (.bool true) rfl rfl (ex_lss (k := .i64) (m := (i : Int)) (n := (ws.length : Int)) rfl rfl rfl (decide_eq_true hb21)) ?_
    refine wL ?_
    simp only [zP, zI, zS, zO]
    refine tN (hK20 _ _ ?_)
    clear hK20 K20
    refine sK fun K22 hK22 => ?_
    refine wpIn_cond_true rfl ?_
    refine wpIn_skip ?_
    refine tN (hK22 _ _ ?_)
    clear hK22 K22
    refine sK fun K23 hK23 => ?_
    refine wpIn_block ?_
    refine sK fun K24 hK24 => ?_
    obtain ⟨x, hx⟩ : ∃ x, ws[i]? = some x := ⟨_, List.getElem?_eq_getElem (show i < ws.length by omega)⟩
    obtain ⟨bb, bo, xp, xt, xz, had, hvalx, hrdx⟩ := WrsAt.reads hws hr hx
    subst had
    refine rL ?_
    refine xG (.pointer (some ⟨bb, bo + i * 9, none⟩)) rfl rfl (ex_index rfl rfl rfl (run_idx (k := i) Try.underlying27 s8es27 (by omega))) ?_
    refine xL (.agg #[.string ⟨x.key.toArray⟩, .int .i64 x.ver.stamp, .bool x.ver.gone, .int .i64 x.ver.expire, .int .i64 x.ver.val.kind, .string ⟨x.ver.val.text.toArray⟩, xp, xt, xz]) rfl rfl rfl (run_loadR (cs := [.string ⟨x.key.toArray⟩, .int .i64 x.ver.stamp, .bool x.ver.gone, .int .i64 x.ver.expire, .int .i64 x.ver.val.kind, .string ⟨x.ver.val.text.toArray⟩, xp, xt, xz]) s8wd40 (Reads.mid (pre := []) (mid := [.string ⟨x.key.toArray⟩, .int .i64 x.ver.stamp, .bool x.ver.gone, .int .i64 x.ver.expire, .int .i64 x.ver.val.kind, .string ⟨x.ver.val.text.toArray⟩, xp, xt, xz]) (post := []) hrdx _ _ _ hBC no_res hv)) ?_
    refine sl_alloc tV (wn rfl) rfl hv s16al40 (fun b25 w26 hv => ?_)
    simp only [zP, zI, zS, zO]
    refine sl_storeNAt 0 (new := [.string ⟨x.key.toArray⟩, .int .i64 x.ver.stamp, .bool x.ver.gone, .int .i64 x.ver.expire, .int .i64 x.ver.val.kind, .string ⟨x.ver.val.text.toArray⟩, xp, xt, xz]) (pre := []) (mid := [.string ⟨([] : List UInt8).toArray⟩, .int .i64 0, .bool false, .int .i64 0, .int .i64 0, .string ⟨([] : List UInt8).toArray⟩, .slice none 0 0, .slice none 0 0, .slice none 0 0]) (post := []) (L' := [.string ⟨x.key.toArray⟩, .int .i64 x.ver.stamp, .bool x.ver.gone, .int .i64 x.ver.expire, .int .i64 x.ver.val.kind, .string ⟨x.ver.val.text.toArray⟩, xp, xt, xz]) tV (wn rfl) rfl rfl rfl hv rfl s8sz40 rfl rfl rfl (one_cons rfl (one_cons rfl (one_cons rfl (one_cons rfl (one_cons rfl (one_cons rfl (one_cons hvalx.p.one (one_cons hvalx.t.one (one_cons hvalx.z.one one_nil))))))))) rfl (fun w27 hv => ?_)
    simp only [List.set_cons_zero] at hv
    refine wL ?_
    simp only [zN]
    refine tN (hK24 _ _ ?_)
    clear hK24 K24
    refine sK fun K28 hK28 => ?_
    refine region_st mixed [.pointer (some ⟨s, 0, none⟩), .pointer (some ⟨s, 0, none⟩), .pointer (some ⟨s, 0, none⟩), .pointer (some ⟨p, 0, none⟩), .pointer (some ⟨b25, 0, none⟩), .string ⟨x.key.toArray⟩, undef, undef] [6, 7] [⟨fun vals w => vals = [] ∧ Inv C (Res.cell b25 [.string ⟨x.key.toArray⟩, .int .i64 x.ver.stamp, .bool x.ver.gone, .int .i64 x.ver.expire, .int .i64 x.ver.val.kind, .string ⟨x.ver.val.text.toArray⟩, xp, xt, xz] 40 :: Res.row 66 1 (.slice ra i rc) i ys :: Res.cell s [.pointer (some ⟨p, 0, none⟩), .int .i64 last, .int .i64 mark] 60 :: ixS 81 93 92 p v (M.length : Int) X bvs :: H) w, fun _ _ _ ⟨h, hi⟩ he => ⟨h, hi.ext he⟩⟩, ⟨fun vals w => ∃ D q, vals = [q] ∧ (C.Le D) ∧ (ChainB D q (getM M x.key)) ∧ Inv D (ixS 81 93 92 p v (M.length : Int) X bvs :: Res.cell b25 [.string ⟨x.key.toArray⟩, .int .i64 x.ver.stamp, .bool x.ver.gone, .int .i64 x.ver.expire, .int .i64 x.ver.val.kind, .string ⟨x.ver.val.text.toArray⟩, xp, xt, xz] 40 :: Res.row 66 1 (.slice ra i rc) i ys :: Res.cell s [.pointer (some ⟨p, 0, none⟩), .int .i64 last, .int .i64 mark] 60 :: H) w, fun _ _ _ ⟨D, q, h, hCD, hQ, hi⟩ he => ⟨D, q, h, hCD, hQ, hi.ext he⟩⟩, ⟨fun vals w => ∃ D q, vals = [q, q] ∧ (C.Le D) ∧ (ChainB D q (getM M x.key)) ∧ Inv D (ixS 81 93 92 p v (M.length : Int) X bvs :: Res.cell b25 [.string ⟨x.key.toArray⟩, .int .i64 x.ver.stamp, .bool x.ver.gone, .int .i64 x.ver.expire, .int .i64 x.ver.val.kind, .string ⟨x.ver.val.text.toArray⟩, xp, xt, xz] 40 :: Res.row 66 1 (.slice ra i rc) i ys :: Res.cell s [.pointer (some ⟨p, 0, none⟩), .int .i64 last, .int .i64 mark] 60 :: H) w, fun _ _ _ ⟨D, q, h, hCD, hQ, hi⟩ he => ⟨D, q, h, hCD, hQ, hi.ext he⟩⟩] 88 rfl (by kernel_rfl) ⟨rfl, hv⟩ ⟨?_, ?_, ?_, ?_, ?_, ?_, ?_, ?_, trivial⟩ ?_
    ·intro aa ww vals hJ hR
     exact xD rfl (ex_move rfl (show aa.eval (.tmp 0) = _ from hR.keep 0 rfl)) rfl rfl
    ·intro aa ww vals hJ hR
     exact xD rfl (ex_nil rfl (hR.w 0 42 rfl rfl rfl rfl)) rfl rfl
    ·intro aa ww vals hJ hR
     exact xD rfl (ex_field rfl (hR.w 1 43 rfl rfl rfl rfl) (s15fa60_0 _ _ _)) rfl rfl
    ·intro aa ww vals hJ hR
     have h2 : vals.length ≤ 0 := hR.hi 6 (by simp) rfl
     have hl : vals.length = 0 := by omega
     obtain ⟨hvals, hv⟩ := hJ.at0 hl
     exact xD rfl (ex_load rfl (hR.w 2 44 rfl rfl rfl rfl) (run_load1 s3na57 (hv.load 2 0 rfl rfl))) rfl rfl
    ·intro aa ww vals hJ hR
     exact xD rfl (ex_field rfl (show aa.eval (.tmp 10) = _ from hR.keep 10 rfl) (s8fa40_0 _ _ _)) rfl rfl
    ·intro aa ww vals hJ hR
     have h2 : vals.length ≤ 0 := hR.hi 6 (by simp) rfl
     have hl : vals.length = 0 := by omega
     obtain ⟨hvals, hv⟩ := hJ.at0 hl
     exact xD rfl (ex_load rfl (hR.w 4 46 rfl rfl rfl rfl) (run_load1 s3na9 (hv.load 0 0 rfl rfl))) rfl rfl
    ·intro aa ww vals hJ hR
     refine mem_step' rfl fun hvl => ?_
     have hl : vals.length = 0 := hvl
     obtain ⟨hvals, hv⟩ := hJ.at0 hl
     refine stepMem_calls s15callable27 (wn rfl) rfl (args := #[.pointer (some ⟨p, 0, none⟩), .string ⟨x.key.toArray⟩]) (by simp only [yA, yB, yC]; rw [show aa.eval (.tmp 45) = .pointer (some ⟨p, 0, none⟩) from hR.v 3 45 rfl rfl rfl rfl, show aa.eval (.tmp 47) = .string ⟨x.key.toArray⟩ from hR.v 5 47 rfl rfl rfl rfl] <;> rfl) ((ixGetS C _ _ p v X bvs M x.key (hx0.more hBC) (hv.front 3 rfl)).mono ?_)
     rintro e w29 ⟨D, q, hCD, rfl, hQ, hv⟩
     refine ⟨_, rfl, JS.next hl ⟨D, q, by rw [hvals]; rfl, hCD, hQ, hv⟩⟩
    ·intro aa ww vals hJ hR
     refine mem_step' rfl fun hvl => ?_
     have hl : vals.length = 1 := hvl
     obtain ⟨D, q, hvals, hCD, hQ, hv⟩ := hJ.at0 hl
     refine Ex.mem (ex_assign rfl (show aa.eval (.tmp 48) = _ from (hR.val 6 48 rfl rfl rfl).trans (by rw [hvals] <;> rfl))) (wn rfl) ?_
     exact JS.next hl ⟨D, q, by rw [hvals]; rfl, hCD, hQ, hv⟩
    rintro w30 vals ⟨D, q, rfl, hCD, hQ, hv⟩
    rw [show mixV [6, 7] [q, q] 0 [.pointer (some ⟨s, 0, none⟩), .pointer (some ⟨s, 0, none⟩), .pointer (some ⟨s, 0, none⟩), .pointer (some ⟨p, 0, none⟩), .pointer (some ⟨b25, 0, none⟩), .string ⟨x.key.toArray⟩, undef, undef] = [.pointer (some ⟨s, 0, none⟩), .pointer (some ⟨s, 0, none⟩), .pointer (some ⟨s, 0, none⟩), .pointer (some ⟨p, 0, none⟩), .pointer (some ⟨b25, 0, none⟩), .string ⟨x.key.toArray⟩, q, q] from rfl]
    simp only [putAll, zP, zI, zS, zO]
    refine tN (hK28 _ _ ?_)
    clear hK28 K28
    refine sK fun K31 hK31 => ?_
    obtain ⟨qa, qc, hqe⟩ := hQ.shape
    subst hqe
    refine rL ?_
    refine xM (.pointer (some ⟨s, 0, none⟩)) rfl rfl rfl ?_
    refine xG (.pointer (some ⟨s, 0, none⟩)) rfl rfl (ex_nil rfl rfl) ?_
    refine xF (.pointer (some ⟨s, 1, none⟩)) rfl rfl rfl (s15fa60_1 _ _ _) ?_
    simp only [zP, zI, zS, zO]
    refine xL (.int .i64 last) rfl rfl rfl (run_load1 s2na3 (hv.load 3 1 rfl rfl)) ?_
    refine xG (.int .i64 (last + 1)) rfl rfl (ex_add (m := last) (n := 1) rfl rfl rfl (i64_in (by omega))) ?_
    refine xF (.pointer (some ⟨b25, 1, none⟩)) rfl rfl rfl (s14fa40_1 _ _ _) ?_
    simp only [zP, zI, zS, zO]
    refine xF (.pointer (some ⟨b25, 1, none⟩)) rfl rfl rfl (s2fa38_0 _ _ _) ?_
    refine sl_storeAt 1 (v := .int .i64 (last + 1)) (L' := [.string ⟨x.key.toArray⟩, .int .i64 (last + 1), .bool x.ver.gone, .int .i64 x.ver.expire, .int .i64 x.ver.val.kind, .string ⟨x.ver.val.text.toArray⟩, xp, xt, xz]) tV (wn rfl) rfl rfl rfl hv rfl s5sz3 (by simp) rfl rfl rfl (fun w32 hv => ?_)
    simp only [List.set_cons_succ, List.set_cons_zero] at hv
    refine wL ?_
    simp only [zP, zN, zI, zS, zO]
    refine tN (hK31 _ _ ?_)
    clear hK31 K31
    refine sK fun K33 hK33 => rL ?_
    refine xM (.slice qa ((getM M x.key).length) qc) rfl rfl rfl ?_
    refine xF (.pointer (some ⟨b25, 1, none⟩)) rfl rfl rfl (s14fa40_1 _ _ _) ?_
    refine xL (.agg #[.int .i64 (last + 1), .bool x.ver.gone, .int .i64 x.ver.expire, .int .i64 x.ver.val.kind, .string ⟨x.ver.val.text.toArray⟩, xp, xt, xz]) rfl rfl rfl (run_load_mid (pre := [.string ⟨x.key.toArray⟩]) (mid := [.int .i64 (last + 1), .bool x.ver.gone, .int .i64 x.ver.expire, .int .i64 x.ver.val.kind, .string ⟨x.ver.val.text.toArray⟩, xp, xt, xz]) (post := []) s1wd38 (show Blk _ b25 ([.string ⟨x.key.toArray⟩] ++ [.int .i64 (last + 1), .bool x.ver.gone, .int .i64 x.ver.expire, .int .i64 x.ver.val.kind, .string ⟨x.ver.val.text.toArray⟩, xp, xt, xz] ++ []) _ from hv.get 1 rfl) rfl) ?_
    simp only [zP, zI, zS, zO]
    refine sl_rowAgg (L := [.int .i64 (last + 1), .bool x.ver.gone, .int .i64 x.ver.expire, .int .i64 x.ver.val.kind, .string ⟨x.ver.val.text.toArray⟩, xp, xt, xz]) tV (wn rfl) rfl rfl hv s16el66 rfl (by decide) (fun b34 w35 hv => ?_)
    obtain ⟨E, hDE, hv, hrE, -, -⟩ := (hv.cellRow (n := 1) (c := 1) (size := 8) rfl (by decide) (by decide)).rowBy
    refine xC s16callable41 rfl rfl (l := [.slice qa ((getM M x.key).length) qc, .slice (some ⟨b34, 0, none⟩) 1 1]) rfl ((chainPutX E _ _ _ (getM M x.key) { x.ver with stamp := last + 1 } _ _ (hQ.more hDE) hrE (VersAt.single (v := { x.ver with stamp := last + 1 }) (hvalx.more ((hBC.trans hCD).trans hDE))) (by have := hx0.glen x.key; omega) hv).mono ?_)
    rintro e w36 ⟨G, q2, ec, hEG, rfl, hv, hor⟩
    refine ⟨_, rfl, ?_⟩
    rcases hor with ⟨hno, rfl, rfl⟩ | ⟨hok2, h64, rfl, rfl⟩ | ⟨hok2, h64, rfl, hq2⟩
    ·refine xM (.tuple #[.slice none 0 0, .int .i64 2]) rfl rfl rfl ?_
     simp only [zP, zI, zS, zO]
     refine xG (.slice none 0 0) rfl rfl (ex_extract rfl rfl rfl) ?_
     refine xG (.int .i64 2) rfl rfl (ex_extract rfl rfl rfl) ?_
     refine xA (.slice none 0 0) rfl rfl rfl ?_
     simp only [zP, zI, zS, zO]
     refine xA (.int .i64 2) rfl rfl rfl ?_
     refine wL ?_
     simp only [zP, zI, zS, zO]
     refine tN (hK33 _ _ ?_)
     clear hK33 K33
     refine sK fun K37 hK37 => ?_
     refine sK fun K38 hK38 => rL ?_
     refine xM (.int .i64 2) rfl rfl rfl ?_
     refine xG (.bool true) rfl rfl (ex_eql (k := .i64) (m := 2) (n := 2) rfl rfl rfl (by decide)) ?_
     refine wL ?_
     simp only [zP, zI, zS, zO]
     refine tN (hK38 _ _ ?_)
     clear hK38 K38
     refine wpIn_cond_true rfl ?_
     refine sK fun K39 hK39 => rL ?_
     refine xM (.int .i64 2) rfl rfl rfl ?_
     refine xA (.slice none 0 0) rfl rfl rfl ?_
     refine xA (.int .i64 2) rfl rfl rfl ?_
     refine wL ?_
     simp only [zP, zI, zS, zO]
     refine tN (hK39 _ _ ?_)
     clear hK39 K39
     refine wpIn_ret ?_
     refine then_ret ?_
     clear hK37 K37
     refine blk_ret ?_
     refine then_ret ?_
     clear hK23 K23
     refine then_ret ?_
     refine blk_ret ?_
     refine then_ret ?_
     clear hK17 K17
     refine bodyPost_ret (results_tmp2 rfl _ _ _) rfl ?_
     exact ⟨_, _, 2, (((hBC.trans hCD).trans hDE).trans hEG), rfl, ((hv.front 3 rfl).sub (List.Sublist.cons_cons _ (List.Sublist.cons_cons _ (List.Sublist.cons _ (List.Sublist.cons _ (List.Sublist.refl _)))))), .inl ⟨by decide, fun h9 => by first | exact hbl6.1 rfl h9.nd | exact absurd (hbl8.2 h9.wr) (by decide) | (have h8 := h9.la; omega) | (obtain ⟨x9, h7, h8⟩ := hfl rfl; have := (h9.ch x9 h7).2; omega) | (have h8 := h9.nw; rw [show i = ws.length by omega, List.take_length] at hkk; omega) | exact hno (h9.ch x (List.mem_of_getElem? hx)).1⟩⟩
    ·refine xM (.tuple #[.slice none 0 0, .int .i64 22]) rfl rfl rfl ?_
     simp only [zP, zI, zS, zO]
     refine xG (.slice none 0 0) rfl rfl (ex_extract rfl rfl rfl) ?_
     refine xG (.int .i64 22) rfl rfl (ex_extract rfl rfl rfl) ?_
     refine xA (.slice none 0 0) rfl rfl rfl ?_
     simp only [zP, zI, zS, zO]
     refine xA (.int .i64 22) rfl rfl rfl ?_
     refine wL ?_
     simp only [zP, zI, zS, zO]
     refine tN (hK33 _ _ ?_)
     clear hK33 K33
     refine sK fun K40 hK40 => ?_
     refine sK fun K41 hK41 => rL ?_
     refine xM (.int .i64 22) rfl rfl rfl ?_
     refine xG (.bool false) rfl rfl (ex_eql (k := .i64) (m := 22) (n := 2) rfl rfl rfl (by decide)) ?_
     refine wL ?_
     simp only [zP, zI, zS, zO]
     refine tN (hK41 _ _ ?_)
     clear hK41 K41
     refine wpIn_cond_false rfl ?_
     refine wpIn_skip ?_
     refine tN (hK40 _ _ ?_)
     clear hK40 K40
     refine sK fun K42 hK42 => rL ?_
     refine xM (.bool fl) rfl rfl rfl ?_
     refine xM (.bool fl) rfl rfl rfl ?_
     cases fl
     ·refine xH 1 68 false (.int .i64 22) rfl rfl rfl rfl (ex_move rfl rfl) ?_
      simp only [zP, zI, zS, zO]
      refine xH 1 68 false (.bool true) rfl rfl rfl rfl (ex_neq (k := .i64) (m := 22) (n := 0) rfl rfl rfl (by decide)) ?_
      refine xK false (.bool true) rfl rfl rfl rfl ?_
      refine xA (.bool true) rfl rfl rfl ?_
      refine wL ?_
      simp only [zP, zI, zS, zO]
      refine tN (hK42 _ _ ?_)
      clear hK42 K42
      refine sK fun K43 hK43 => ?_
      refine sK fun K44 hK44 => rL ?_
      refine xM (.slice qa ((getM M x.key).length) qc) rfl rfl rfl ?_
      refine xG (.int .i64 (((getM M x.key).length) : Int)) rfl rfl (ex_len0 Try.underlying66 rfl rfl) ?_
      by_cases hb45 : (((getM M x.key).length) : Int) = 0
      ·refine xG (.bool true) rfl rfl (ex_eql (k := .i64) (m := (((getM M x.key).length) : Int)) (n := 0) rfl rfl rfl (decide_eq_true hb45)) ?_
       refine wL ?_
       simp only [zP, zI, zS, zO]
       refine tN (hK44 _ _ ?_)
       clear hK44 K44
       refine wpIn_cond_true rfl ?_
       refine rL ?_
       refine xM (.int .i64 kk) rfl rfl rfl ?_
       refine xG (.int .i64 (kk + 1)) rfl rfl (ex_add (m := kk) (n := 1) rfl rfl rfl (i64_in (by omega))) ?_
       refine xA (.int .i64 (kk + 1)) rfl rfl rfl ?_
       refine wL ?_
       simp only [zP, zI, zS, zO]
       refine tN (hK43 _ _ ?_)
       clear hK43 K43
       refine rL ?_
       refine xM (.slice ra i rc) rfl rfl rfl ?_
       refine xM (.slice none 0 0) rfl rfl rfl ?_
       refine sl_rowOne (v := .slice none 0 0) tV (wn rfl) rfl rfl hv s16el62 rfl (fun b46 w47 hv => ?_)
       simp only [zP, zI, zS, zO]
       replace hv := hv.front 3 rfl
       simp only [List.eraseIdx_cons_succ, List.eraseIdx_cons_zero] at hv
       refine sl_append (news := [.slice none 0 0]) tV (wn rfl) rfl rfl rfl s16el62 hv (ok_full (by omega)) rfl (rd_all (hv.get 1 rfl)) (by intro u hu; simp only [List.mem_cons, List.not_mem_nil, or_false] at hu; rcases hu with rfl <;> rfl) (by unfold maxLen; omega) (by omega) (fun rv48 w51 hv => ?_)
       obtain ⟨ra49, rc50, rfl⟩ := row_slice hv.head
       refine xA (.slice ra49 (i + 1) rc50) rfl rfl rfl ?_
       refine wL ?_
       simp only [zP, zI, zS, zO]
       refine blk_normal ?_
       refine tN (hK23 _ _ ?_)
       clear hK23 K23
       refine rL ?_
       refine xG (.int .i64 ((i + 1 : Nat) : Int)) rfl rfl (ex_add (m := (i : Int)) (n := 1) rfl rfl rfl (by rw [i64_in (by omega)]; omega)) ?_
       refine xM (.int .i64 ((i + 1 : Nat) : Int)) rfl rfl rfl ?_
       refine wL ?_
       simp only [zP, zI, zS, zO]
       refine then_normal ?_
       go_roundw
       case rel => exact ⟨i + 1, (kk + 1), true, _, _, _, _, rfl, rfl, rfl, rfl, (((hBC.trans hCD).trans hDE).trans hEG), by omega, by rw [news_next M hx]; split <;> omega, fun h => by first | cases h; done | exact hfl rfl | exact ⟨x, List.mem_of_getElem? hx, h64⟩, (hchs.full rfl), ((((hv.front 2 rfl).front 4 rfl).front 2 rfl).sub (List.Sublist.cons_cons _ (List.Sublist.cons_cons _ (List.Sublist.cons_cons _ (List.Sublist.cons _ (List.Sublist.cons _ (List.Sublist.refl _)))))))⟩
       case measure => show ws.length - (((i + 1 : Nat) : Int)).toNat < ws.length - ((i : Int)).toNat; omega
      refine xG (.bool false) rfl rfl (ex_eql (k := .i64) (m := (((getM M x.key).length) : Int)) (n := 0) rfl rfl rfl (decide_eq_false hb45)) ?_
      refine wL ?_
      simp only [zP, zI, zS, zO]
      refine tN (hK44 _ _ ?_)
      clear hK44 K44
      refine wpIn_cond_false rfl ?_
      refine wpIn_skip ?_
      refine tN (hK43 _ _ ?_)
      clear hK43 K43
      refine rL ?_
      refine xM (.slice ra i rc) rfl rfl rfl ?_
      refine xM (.slice none 0 0) rfl rfl rfl ?_
      refine sl_rowOne (v := .slice none 0 0) tV (wn rfl) rfl rfl hv s16el62 rfl (fun b52 w53 hv => ?_)
      simp only [zP, zI, zS, zO]
      replace hv := hv.front 3 rfl
      simp only [List.eraseIdx_cons_succ, List.eraseIdx_cons_zero] at hv
      refine sl_append (news := [.slice none 0 0]) tV (wn rfl) rfl rfl rfl s16el62 hv (ok_full (by omega)) rfl (rd_all (hv.get 1 rfl)) (by intro u hu; simp only [List.mem_cons, List.not_mem_nil, or_false] at hu; rcases hu with rfl <;> rfl) (by unfold maxLen; omega) (by omega) (fun rv54 w57 hv => ?_)
      obtain ⟨ra55, rc56, rfl⟩ := row_slice hv.head
      refine xA (.slice ra55 (i + 1) rc56) rfl rfl rfl ?_
      refine wL ?_
      simp only [zP, zI, zS, zO]
      refine blk_normal ?_
      refine tN (hK23 _ _ ?_)
      clear hK23 K23
      refine rL ?_
      refine xG (.int .i64 ((i + 1 : Nat) : Int)) rfl rfl (ex_add (m := (i : Int)) (n := 1) rfl rfl rfl (by rw [i64_in (by omega)]; omega)) ?_
      refine xM (.int .i64 ((i + 1 : Nat) : Int)) rfl rfl rfl ?_
      refine wL ?_
      simp only [zP, zI, zS, zO]
      refine then_normal ?_
      go_roundw
      case rel => exact ⟨i + 1, kk, true, _, _, _, _, rfl, rfl, rfl, rfl, (((hBC.trans hCD).trans hDE).trans hEG), by omega, by rw [news_next M hx]; split <;> omega, fun h => by first | cases h; done | exact hfl rfl | exact ⟨x, List.mem_of_getElem? hx, h64⟩, (hchs.full rfl), ((((hv.front 2 rfl).front 4 rfl).front 2 rfl).sub (List.Sublist.cons_cons _ (List.Sublist.cons_cons _ (List.Sublist.cons_cons _ (List.Sublist.cons _ (List.Sublist.cons _ (List.Sublist.refl _)))))))⟩
      case measure => show ws.length - (((i + 1 : Nat) : Int)).toNat < ws.length - ((i : Int)).toNat; omega
     refine xN 1 68 false true rfl rfl rfl (by decide) ?_
     refine xN 1 68 false true rfl rfl rfl (by decide) ?_
     refine xK true (.bool true) rfl rfl rfl rfl ?_
     refine xA (.bool true) rfl rfl rfl ?_
     refine wL ?_
     simp only [zP, zI, zS, zO]
     refine tN (hK42 _ _ ?_)
     clear hK42 K42
     refine sK fun K58 hK58 => ?_
     refine sK fun K59 hK59 => rL ?_
     refine xM (.slice qa ((getM M x.key).length) qc) rfl rfl rfl ?_
     refine xG (.int .i64 (((getM M x.key).length) : Int)) rfl rfl (ex_len0 Try.underlying66 rfl rfl) ?_
     by_cases hb60 : (((getM M x.key).length) : Int) = 0
     ·refine xG (.bool true) rfl rfl (ex_eql (k := .i64) (m := (((getM M x.key).length) : Int)) (n := 0) rfl rfl rfl (decide_eq_true hb60)) ?_
      refine wL ?_
      simp only [zP, zI, zS, zO]
      refine tN (hK59 _ _ ?_)
      clear hK59 K59
      refine wpIn_cond_true rfl ?_
      refine rL ?_
      refine xM (.int .i64 kk) rfl rfl rfl ?_
      refine xG (.int .i64 (kk + 1)) rfl rfl (ex_add (m := kk) (n := 1) rfl rfl rfl (i64_in (by omega))) ?_
      refine xA (.int .i64 (kk + 1)) rfl rfl rfl ?_
      refine wL ?_
      simp only [zP, zI, zS, zO]
      refine tN (hK58 _ _ ?_)
      clear hK58 K58
      refine rL ?_
      refine xM (.slice ra i rc) rfl rfl rfl ?_
      refine xM (.slice none 0 0) rfl rfl rfl ?_
      refine sl_rowOne (v := .slice none 0 0) tV (wn rfl) rfl rfl hv s16el62 rfl (fun b61 w62 hv => ?_)
      simp only [zP, zI, zS, zO]
      replace hv := hv.front 3 rfl
      simp only [List.eraseIdx_cons_succ, List.eraseIdx_cons_zero] at hv
      refine sl_append (news := [.slice none 0 0]) tV (wn rfl) rfl rfl rfl s16el62 hv (ok_full (by omega)) rfl (rd_all (hv.get 1 rfl)) (by intro u hu; simp only [List.mem_cons, List.not_mem_nil, or_false] at hu; rcases hu with rfl <;> rfl) (by unfold maxLen; omega) (by omega) (fun rv63 w66 hv => ?_)
      obtain ⟨ra64, rc65, rfl⟩ := row_slice hv.head
      refine xA (.slice ra64 (i + 1) rc65) rfl rfl rfl ?_
      refine wL ?_
      simp only [zP, zI, zS, zO]
      refine blk_normal ?_
      refine tN (hK23 _ _ ?_)
      clear hK23 K23
      refine rL ?_
      refine xG (.int .i64 ((i + 1 : Nat) : Int)) rfl rfl (ex_add (m := (i : Int)) (n := 1) rfl rfl rfl (by rw [i64_in (by omega)]; omega)) ?_
      refine xM (.int .i64 ((i + 1 : Nat) : Int)) rfl rfl rfl ?_
      refine wL ?_
      simp only [zP, zI, zS, zO]
      refine then_normal ?_
      go_roundw
      case rel => exact ⟨i + 1, (kk + 1), true, _, _, _, _, rfl, rfl, rfl, rfl, (((hBC.trans hCD).trans hDE).trans hEG), by omega, by rw [news_next M hx]; split <;> omega, fun h => by first | cases h; done | exact hfl rfl | exact ⟨x, List.mem_of_getElem? hx, h64⟩, (hchs.full rfl), ((((hv.front 2 rfl).front 4 rfl).front 2 rfl).sub (List.Sublist.cons_cons _ (List.Sublist.cons_cons _ (List.Sublist.cons_cons _ (List.Sublist.cons _ (List.Sublist.cons _ (List.Sublist.refl _)))))))⟩
      case measure => show ws.length - (((i + 1 : Nat) : Int)).toNat < ws.length - ((i : Int)).toNat; omega
     refine xG (.bool false) rfl rfl (ex_eql (k := .i64) (m := (((getM M x.key).length) : Int)) (n := 0) rfl rfl rfl (decide_eq_false hb60)) ?_
     refine wL ?_
     simp only [zP, zI, zS, zO]
     refine tN (hK59 _ _ ?_)
     clear hK59 K59
     refine wpIn_cond_false rfl ?_
     refine wpIn_skip ?_
     refine tN (hK58 _ _ ?_)
     clear hK58 K58
     refine rL ?_
     refine xM (.slice ra i rc) rfl rfl rfl ?_
     refine xM (.slice none 0 0) rfl rfl rfl ?_
     refine sl_rowOne (v := .slice none 0 0) tV (wn rfl) rfl rfl hv s16el62 rfl (fun b67 w68 hv => ?_)
     simp only [zP, zI, zS, zO]
     replace hv := hv.front 3 rfl
     simp only [List.eraseIdx_cons_succ, List.eraseIdx_cons_zero] at hv
     refine sl_append (news := [.slice none 0 0]) tV (wn rfl) rfl rfl rfl s16el62 hv (ok_full (by omega)) rfl (rd_all (hv.get 1 rfl)) (by intro u hu; simp only [List.mem_cons, List.not_mem_nil, or_false] at hu; rcases hu with rfl <;> rfl) (by unfold maxLen; omega) (by omega) (fun rv69 w72 hv => ?_)
     obtain ⟨ra70, rc71, rfl⟩ := row_slice hv.head
     refine xA (.slice ra70 (i + 1) rc71) rfl rfl rfl ?_
     refine wL ?_
     simp only [zP, zI, zS, zO]
     refine blk_normal ?_
     refine tN (hK23 _ _ ?_)
     clear hK23 K23
     refine rL ?_
     refine xG (.int .i64 ((i + 1 : Nat) : Int)) rfl rfl (ex_add (m := (i : Int)) (n := 1) rfl rfl rfl (by rw [i64_in (by omega)]; omega)) ?_
     refine xM (.int .i64 ((i + 1 : Nat) : Int)) rfl rfl rfl ?_
     refine wL ?_
     simp only [zP, zI, zS, zO]
     refine then_normal ?_
     go_roundw
     case rel => exact ⟨i + 1, kk, true, _, _, _, _, rfl, rfl, rfl, rfl, (((hBC.trans hCD).trans hDE).trans hEG), by omega, by rw [news_next M hx]; split <;> omega, fun h => by first | cases h; done | exact hfl rfl | exact ⟨x, List.mem_of_getElem? hx, h64⟩, (hchs.full rfl), ((((hv.front 2 rfl).front 4 rfl).front 2 rfl).sub (List.Sublist.cons_cons _ (List.Sublist.cons_cons _ (List.Sublist.cons_cons _ (List.Sublist.cons _ (List.Sublist.cons _ (List.Sublist.refl _)))))))⟩
     case measure => show ws.length - (((i + 1 : Nat) : Int)).toNat < ws.length - ((i : Int)).toNat; omega
    change ChainB G q2 (newC M last x) at hq2
    change ChainOk (newC M last x) at hok2
    change (newC M last x).length ≤ 64 at h64
    obtain ⟨qa2, qc2, hqe2⟩ := hq2.shape
    subst hqe2
    refine xM (.tuple #[.slice qa2 ((newC M last x).length) qc2, .int .i64 0]) rfl rfl rfl ?_
    simp only [zP, zI, zS, zO]
    refine xG (.slice qa2 ((newC M last x).length) qc2) rfl rfl (ex_extract rfl rfl rfl) ?_
    refine xG (.int .i64 0) rfl rfl (ex_extract rfl rfl rfl) ?_
    refine xA (.slice qa2 ((newC M last x).length) qc2) rfl rfl rfl ?_
    simp only [zP, zI, zS, zO]
    refine xA (.int .i64 0) rfl rfl rfl ?_
    refine wL ?_
    simp only [zP, zI, zS, zO]
    refine tN (hK33 _ _ ?_)
    clear hK33 K33
    refine sK fun K73 hK73 => ?_
    refine sK fun K74 hK74 => rL ?_
    refine xM (.int .i64 0) rfl rfl rfl ?_
    refine xG (.bool false) rfl rfl (ex_eql (k := .i64) (m := 0) (n := 2) rfl rfl rfl (by decide)) ?_
    refine wL ?_
    simp only [zP, zI, zS, zO]
    refine tN (hK74 _ _ ?_)
    clear hK74 K74
    refine wpIn_cond_false rfl ?_
    refine wpIn_skip ?_
    refine tN (hK73 _ _ ?_)
    clear hK73 K73
    refine sK fun K75 hK75 => rL ?_
    refine xM (.bool fl) rfl rfl rfl ?_
    refine xM (.bool fl) rfl rfl rfl ?_
    cases fl
    ·refine xH 1 68 false (.int .i64 0) rfl rfl rfl rfl (ex_move rfl rfl) ?_
     simp only [zP, zI, zS, zO]
     refine xH 1 68 false (.bool false) rfl rfl rfl rfl (ex_neq (k := .i64) (m := 0) (n := 0) rfl rfl rfl (by decide)) ?_
     refine xK false (.bool false) rfl rfl rfl rfl ?_
     refine xA (.bool false) rfl rfl rfl ?_
     refine wL ?_
     simp only [zP, zI, zS, zO]
     refine tN (hK75 _ _ ?_)
     clear hK75 K75
     refine sK fun K76 hK76 => ?_
     refine sK fun K77 hK77 => rL ?_
     refine xM (.slice qa ((getM M x.key).length) qc) rfl rfl rfl ?_
     refine xG (.int .i64 (((getM M x.key).length) : Int)) rfl rfl (ex_len0 Try.underlying66 rfl rfl) ?_
     by_cases hb78 : (((getM M x.key).length) : Int) = 0
     ·refine xG (.bool true) rfl rfl (ex_eql (k := .i64) (m := (((getM M x.key).length) : Int)) (n := 0) rfl rfl rfl (decide_eq_true hb78)) ?_
      refine wL ?_
      simp only [zP, zI, zS, zO]
      refine tN (hK77 _ _ ?_)
      clear hK77 K77
      refine wpIn_cond_true rfl ?_
      refine rL ?_
      refine xM (.int .i64 kk) rfl rfl rfl ?_
      refine xG (.int .i64 (kk + 1)) rfl rfl (ex_add (m := kk) (n := 1) rfl rfl rfl (i64_in (by omega))) ?_
      refine xA (.int .i64 (kk + 1)) rfl rfl rfl ?_
      refine wL ?_
      simp only [zP, zI, zS, zO]
      refine tN (hK76 _ _ ?_)
      clear hK76 K76
      refine rL ?_
      refine xM (.slice ra i rc) rfl rfl rfl ?_
      refine xM (.slice qa2 ((newC M last x).length) qc2) rfl rfl rfl ?_
      refine sl_rowOne (v := .slice qa2 ((newC M last x).length) qc2) tV (wn rfl) rfl rfl hv s16el62 rfl (fun b79 w80 hv => ?_)
      simp only [zP, zI, zS, zO]
      replace hv := hv.front 3 rfl
      simp only [List.eraseIdx_cons_succ, List.eraseIdx_cons_zero] at hv
      refine sl_append (news := [.slice qa2 ((newC M last x).length) qc2]) tV (wn rfl) rfl rfl rfl s16el62 hv (ok_full (by omega)) rfl (rd_all (hv.get 1 rfl)) (by intro u hu; simp only [List.mem_cons, List.not_mem_nil, or_false] at hu; rcases hu with rfl <;> rfl) (by unfold maxLen; omega) (by omega) (fun rv81 w84 hv => ?_)
      obtain ⟨ra82, rc83, rfl⟩ := row_slice hv.head
      refine xA (.slice ra82 (i + 1) rc83) rfl rfl rfl ?_
      refine wL ?_
      simp only [zP, zI, zS, zO]
      refine blk_normal ?_
      refine tN (hK23 _ _ ?_)
      clear hK23 K23
      refine rL ?_
      refine xG (.int .i64 ((i + 1 : Nat) : Int)) rfl rfl (ex_add (m := (i : Int)) (n := 1) rfl rfl rfl (by rw [i64_in (by omega)]; omega)) ?_
      refine xM (.int .i64 ((i + 1 : Nat) : Int)) rfl rfl rfl ?_
      refine wL ?_
      simp only [zP, zI, zS, zO]
      refine then_normal ?_
      go_roundw
      case rel => exact ⟨i + 1, (kk + 1), false, _, _, _, _, rfl, rfl, rfl, rfl, (((hBC.trans hCD).trans hDE).trans hEG), by omega, by rw [news_next M hx]; split <;> omega, fun h => by first | cases h; done | exact hfl rfl | exact ⟨x, List.mem_of_getElem? hx, h64⟩, (hchs.next ((hCD.trans hDE).trans hEG) hx hq2 hok2 h64), ((((hv.front 2 rfl).front 4 rfl).front 2 rfl).sub (List.Sublist.cons_cons _ (List.Sublist.cons_cons _ (List.Sublist.cons_cons _ (List.Sublist.cons _ (List.Sublist.cons _ (List.Sublist.refl _)))))))⟩
      case measure => show ws.length - (((i + 1 : Nat) : Int)).toNat < ws.length - ((i : Int)).toNat; omega
     refine xG (.bool false) rfl rfl (ex_eql (k := .i64) (m := (((getM M x.key).length) : Int)) (n := 0) rfl rfl rfl (decide_eq_false hb78)) ?_
     refine wL ?_
     simp only [zP, zI, zS, zO]
     refine tN (hK77 _ _ ?_)
     clear hK77 K77
     refine wpIn_cond_false rfl ?_
     refine wpIn_skip ?_
     refine tN (hK76 _ _ ?_)
     clear hK76 K76
     refine rL ?_
     refine xM (.slice ra i rc) rfl rfl rfl ?_
     refine xM (.slice qa2 ((newC M last x).length) qc2) rfl rfl rfl ?_
     refine sl_rowOne (v := .slice qa2 ((newC M last x).length) qc2) tV (wn rfl) rfl rfl hv s16el62 rfl (fun b85 w86 hv => ?_)
     simp only [zP, zI, zS, zO]
     replace hv := hv.front 3 rfl
     simp only [List.eraseIdx_cons_succ, List.eraseIdx_cons_zero] at hv
     refine sl_append (news := [.slice qa2 ((newC M last x).length) qc2]) tV (wn rfl) rfl rfl rfl s16el62 hv (ok_full (by omega)) rfl (rd_all (hv.get 1 rfl)) (by intro u hu; simp only [List.mem_cons, List.not_mem_nil, or_false] at hu; rcases hu with rfl <;> rfl) (by unfold maxLen; omega) (by omega) (fun rv87 w90 hv => ?_)
     obtain ⟨ra88, rc89, rfl⟩ := row_slice hv.head
     refine xA (.slice ra88 (i + 1) rc89) rfl rfl rfl ?_
     refine wL ?_
     simp only [zP, zI, zS, zO]
     refine blk_normal ?_
     refine tN (hK23 _ _ ?_)
     clear hK23 K23
     refine rL ?_
     refine xG (.int .i64 ((i + 1 : Nat) : Int)) rfl rfl (ex_add (m := (i : Int)) (n := 1) rfl rfl rfl (by rw [i64_in (by omega)]; omega)) ?_
     refine xM (.int .i64 ((i + 1 : Nat) : Int)) rfl rfl rfl ?_
     refine wL ?_
     simp only [zP, zI, zS, zO]
     refine then_normal ?_
     go_roundw
     case rel => exact ⟨i + 1, kk, false, _, _, _, _, rfl, rfl, rfl, rfl, (((hBC.trans hCD).trans hDE).trans hEG), by omega, by rw [news_next M hx]; split <;> omega, fun h => by first | cases h; done | exact hfl rfl | exact ⟨x, List.mem_of_getElem? hx, h64⟩, (hchs.next ((hCD.trans hDE).trans hEG) hx hq2 hok2 h64), ((((hv.front 2 rfl).front 4 rfl).front 2 rfl).sub (List.Sublist.cons_cons _ (List.Sublist.cons_cons _ (List.Sublist.cons_cons _ (List.Sublist.cons _ (List.Sublist.cons _ (List.Sublist.refl _)))))))⟩
     case measure => show ws.length - (((i + 1 : Nat) : Int)).toNat < ws.length - ((i : Int)).toNat; omega
    refine xN 1 68 false true rfl rfl rfl (by decide) ?_
    refine xN 1 68 false true rfl rfl rfl (by decide) ?_
    refine xK true (.bool true) rfl rfl rfl rfl ?_
    refine xA (.bool true) rfl rfl rfl ?_
    refine wL ?_
    simp only [zP, zI, zS, zO]
    refine tN (hK75 _ _ ?_)
    clear hK75 K75
    refine sK fun K91 hK91 => ?_
    refine sK fun K92 hK92 => rL ?_
    refine xM (.slice qa ((getM M x.key).length) qc) rfl rfl rfl ?_
    refine xG (.int .i64 (((getM M x.key).length) : Int)) rfl rfl (ex_len0 Try.underlying66 rfl rfl) ?_
    by_cases hb93 : (((getM M x.key).length) : Int) = 0
    ·refine xG (.bool true) rfl rfl (ex_eql (k := .i64) (m := (((getM M x.key).length) : Int)) (n := 0) rfl rfl rfl (decide_eq_true hb93)) ?_
     refine wL ?_
     simp only [zP, zI, zS, zO]
     refine tN (hK92 _ _ ?_)
     clear hK92 K92
     refine wpIn_cond_true rfl ?_
     refine rL ?_
     refine xM (.int .i64 kk) rfl rfl rfl ?_
     refine xG (.int .i64 (kk + 1)) rfl rfl (ex_add (m := kk) (n := 1) rfl rfl rfl (i64_in (by omega))) ?_
     refine xA (.int .i64 (kk + 1)) rfl rfl rfl ?_
     refine wL ?_
     simp only [zP, zI, zS, zO]
     refine tN (hK91 _ _ ?_)
     clear hK91 K91
     refine rL ?_
     refine xM (.slice ra i rc) rfl rfl rfl ?_
     refine xM (.slice qa2 ((newC M last x).length) qc2) rfl rfl rfl ?_
     refine sl_rowOne (v := .slice qa2 ((newC M last x).length) qc2) tV (wn rfl) rfl rfl hv s16el62 rfl (fun b94 w95 hv => ?_)
     simp only [zP, zI, zS, zO]
     replace hv := hv.front 3 rfl
     simp only [List.eraseIdx_cons_succ, List.eraseIdx_cons_zero] at hv
     refine sl_append (news := [.slice qa2 ((newC M last x).length) qc2]) tV (wn rfl) rfl rfl rfl s16el62 hv (ok_full (by omega)) rfl (rd_all (hv.get 1 rfl)) (by intro u hu; simp only [List.mem_cons, List.not_mem_nil, or_false] at hu; rcases hu with rfl <;> rfl) (by unfold maxLen; omega) (by omega) (fun rv96 w99 hv => ?_)
     obtain ⟨ra97, rc98, rfl⟩ := row_slice hv.head
     refine xA (.slice ra97 (i + 1) rc98) rfl rfl rfl ?_
     refine wL ?_
     simp only [zP, zI, zS, zO]
     refine blk_normal ?_
     refine tN (hK23 _ _ ?_)
     clear hK23 K23
     refine rL ?_
     refine xG (.int .i64 ((i + 1 : Nat) : Int)) rfl rfl (ex_add (m := (i : Int)) (n := 1) rfl rfl rfl (by rw [i64_in (by omega)]; omega)) ?_
     refine xM (.int .i64 ((i + 1 : Nat) : Int)) rfl rfl rfl ?_
     refine wL ?_
     simp only [zP, zI, zS, zO]
     refine then_normal ?_
     go_roundw
     case rel => exact ⟨i + 1, (kk + 1), true, _, _, _, _, rfl, rfl, rfl, rfl, (((hBC.trans hCD).trans hDE).trans hEG), by omega, by rw [news_next M hx]; split <;> omega, fun h => by first | cases h; done | exact hfl rfl | exact ⟨x, List.mem_of_getElem? hx, h64⟩, (hchs.full rfl), ((((hv.front 2 rfl).front 4 rfl).front 2 rfl).sub (List.Sublist.cons_cons _ (List.Sublist.cons_cons _ (List.Sublist.cons_cons _ (List.Sublist.cons _ (List.Sublist.cons _ (List.Sublist.refl _)))))))⟩
     case measure => show ws.length - (((i + 1 : Nat) : Int)).toNat < ws.length - ((i : Int)).toNat; omega
    refine xG (.bool false) rfl rfl (ex_eql (k := .i64) (m := (((getM M x.key).length) : Int)) (n := 0) rfl rfl rfl (decide_eq_false hb93)) ?_
    refine wL ?_
    simp only [zP, zI, zS, zO]
    refine tN (hK92 _ _ ?_)
    clear hK92 K92
    refine wpIn_cond_false rfl ?_
    refine wpIn_skip ?_
    refine tN (hK91 _ _ ?_)
    clear hK91 K91
    refine rL ?_
    refine xM (.slice ra i rc) rfl rfl rfl ?_
    refine xM (.slice qa2 ((newC M last x).length) qc2) rfl rfl rfl ?_
    refine sl_rowOne (v := .slice qa2 ((newC M last x).length) qc2) tV (wn rfl) rfl rfl hv s16el62 rfl (fun b100 w101 hv => ?_)
    simp only [zP, zI, zS, zO]
    replace hv := hv.front 3 rfl
    simp only [List.eraseIdx_cons_succ, List.eraseIdx_cons_zero] at hv
    refine sl_append (news := [.slice qa2 ((newC M last x).length) qc2]) tV (wn rfl) rfl rfl rfl s16el62 hv (ok_full (by omega)) rfl (rd_all (hv.get 1 rfl)) (by intro u hu; simp only [List.mem_cons, List.not_mem_nil, or_false] at hu; rcases hu with rfl <;> rfl) (by unfold maxLen; omega) (by omega) (fun rv102 w105 hv => ?_)
    obtain ⟨ra103, rc104, rfl⟩ := row_slice hv.head
    refine xA (.slice ra103 (i + 1) rc104) rfl rfl rfl ?_
    refine wL ?_
    simp only [zP, zI, zS, zO]
    refine blk_normal ?_
    refine tN (hK23 _ _ ?_)
    clear hK23 K23
    refine rL ?_
    refine xG (.int .i64 ((i + 1 : Nat) : Int)) rfl rfl (ex_add (m := (i : Int)) (n := 1) rfl rfl rfl (by rw [i64_in (by omega)]; omega)) ?_
    refine xM (.int .i64 ((i + 1 : Nat) : Int)) rfl rfl rfl ?_
    refine wL ?_
    simp only [zP, zI, zS, zO]
    refine then_normal ?_
    go_roundw
    case rel => exact ⟨i + 1, kk, true, _, _, _, _, rfl, rfl, rfl, rfl, (((hBC.trans hCD).trans hDE).trans hEG), by omega, by rw [news_next M hx]; split <;> omega, fun h => by first | cases h; done | exact hfl rfl | exact ⟨x, List.mem_of_getElem? hx, h64⟩, (hchs.full rfl), ((((hv.front 2 rfl).front 4 rfl).front 2 rfl).sub (List.Sublist.cons_cons _ (List.Sublist.cons_cons _ (List.Sublist.cons_cons _ (List.Sublist.cons _ (List.Sublist.cons _ (List.Sublist.refl _)))))))⟩
    case measure => show ws.length - (((i + 1 : Nat) : Int)).toNat < ws.length - ((i : Int)).toNat; omega
   refine xG (.bool false) rfl rfl (ex_lss (k := .i64) (m := (i : Int)) (n := (ws.length : Int)) rfl rfl rfl (decide_eq_false hb21)) ?_
   refine wL ?_
   simp only [zP, zI, zS, zO]
   refine tN (hK20 _ _ ?_)
   clear hK20 K20
   refine sK fun K106 hK106 => ?_
   refine wpIn_cond_false rfl ?_
   refine wpIn_exit ?_
   refine then_exit ?_
   clear hK106 K106
   refine then_exit ?_
   refine blk_hit ?_
   refine tN (hK17 _ _ ?_)
   clear hK17 K17
   refine sK fun K107 hK107 => ?_
   refine sK fun K108 hK108 => rL ?_
   refine xM (.bool fl) rfl rfl rfl ?_
   refine xM (.bool fl) rfl rfl rfl ?_
   cases fl
   ·refine xH 1 83 false (.int .i64 kk) rfl rfl rfl rfl (ex_move rfl rfl) ?_
    simp only [zP, zI, zS, zO]
    by_cases hb109 : kk > 4096
    ·refine xH 1 83 false (.bool true) rfl rfl rfl rfl (ex_gtr (k := .i64) (m := kk) (n := 4096) rfl rfl rfl (decide_eq_true hb109)) ?_
     refine xK false (.bool true) rfl rfl rfl rfl ?_
     refine wL ?_
     simp only [zP, zI, zS, zO]
     refine tN (hK108 _ _ ?_)
     clear hK108 K108
     refine wpIn_cond_true rfl ?_
     refine sK fun K110 hK110 => rL ?_
     refine xA (.slice none 0 0) rfl rfl rfl ?_
     refine xA (.int .i64 22) rfl rfl rfl ?_
     refine wL ?_
     simp only [zP, zI, zS, zO]
     refine tN (hK110 _ _ ?_)
     clear hK110 K110
     refine wpIn_ret ?_
     refine then_ret ?_
     clear hK107 K107
     refine bodyPost_ret (results_tmp2 rfl _ _ _) rfl ?_
     exact ⟨_, _, 22, hBC, rfl, (((hv.front 2 rfl).front 2 rfl).sub (List.Sublist.cons_cons _ (List.Sublist.cons_cons _ (List.Sublist.cons _ (List.Sublist.refl _))))), .inl ⟨by decide, fun h9 => by first | exact hbl6.1 rfl h9.nd | exact absurd (hbl8.2 h9.wr) (by decide) | (have h8 := h9.la; omega) | (obtain ⟨x9, h7, h8⟩ := hfl rfl; have := (h9.ch x9 h7).2; omega) | (have h8 := h9.nw; rw [show i = ws.length by omega, List.take_length] at hkk; omega) | exact hno (h9.ch x (List.mem_of_getElem? hx)).1⟩⟩
    refine xH 1 83 false (.bool false) rfl rfl rfl rfl (ex_gtr (k := .i64) (m := kk) (n := 4096) rfl rfl rfl (decide_eq_false hb109)) ?_
    refine xK false (.bool false) rfl rfl rfl rfl ?_
    refine wL ?_
    simp only [zP, zI, zS, zO]
    refine tN (hK108 _ _ ?_)
    clear hK108 K108
    refine wpIn_cond_false rfl ?_
    refine wpIn_skip ?_
    refine tN (hK107 _ _ ?_)
    clear hK107 K107
    refine sK fun K111 hK111 => rL ?_
    refine xM (.slice ra i rc) rfl rfl rfl ?_
    refine xA (.slice ra i rc) rfl rfl rfl ?_
    refine xA (.int .i64 0) rfl rfl rfl ?_
    refine wL ?_
    simp only [zP, zI, zS, zO]
    refine tN (hK111 _ _ ?_)
    clear hK111 K111
    refine wpIn_ret ?_
    refine bodyPost_ret (results_tmp2 rfl _ _ _) rfl ?_
    obtain rfl : i = ws.length := by omega
    obtain ⟨D, hCD, hv, hrD, -, -⟩ := ((((hv.front 2 rfl).front 2 rfl).front 2 rfl)).rowBy
    exact ⟨D, _, 0, hBC.trans hCD, rfl, hv, .inr ⟨rfl, ⟨by omega, Classical.not_not.1 (fun h => by have h9 := hbl6.2 h; cases h9), hbl8.1 rfl, fun x hx => (by obtain ⟨j, hj⟩ := List.mem_iff_getElem?.1 hx; obtain ⟨q, -, -, q3, q4⟩ := hchs.ok rfl j x (List.getElem?_eq_some_iff.1 hj).1 hj; exact ⟨q3, q4⟩), by rw [List.take_length] at hkk; omega⟩, ra, rc, ys, rfl, hrD, hchs.more hCD⟩⟩
   refine xN 1 83 false true rfl rfl rfl (by decide) ?_
   refine xN 1 83 false true rfl rfl rfl (by decide) ?_
   refine xK true (.bool true) rfl rfl rfl rfl ?_
   refine wL ?_
   simp only [zP, zI, zS, zO]
   refine tN (hK108 _ _ ?_)
   clear hK108 K108
   refine wpIn_cond_true rfl ?_
   refine sK fun K112 hK112 => rL ?_
   refine xA (.slice none 0 0) rfl rfl rfl ?_
   refine xA (.int .i64 22) rfl rfl rfl ?_
   refine wL ?_
   simp only [zP, zI, zS, zO]
   refine tN (hK112 _ _ ?_)
   clear hK112 K112
   refine wpIn_ret ?_
   refine then_ret ?_
   clear hK107 K107
   refine bodyPost_ret (results_tmp2 rfl _ _ _) rfl ?_
   exact ⟨_, _, 22, hBC, rfl, (((hv.front 2 rfl).front 2 rfl).sub (List.Sublist.cons_cons _ (List.Sublist.cons_cons _ (List.Sublist.cons _ (List.Sublist.refl _))))), .inl ⟨by decide, fun h9 => by first | exact hbl6.1 rfl h9.nd | exact absurd (hbl8.2 h9.wr) (by decide) | (have h8 := h9.la; omega) | (obtain ⟨x9, h7, h8⟩ := hfl rfl; have := (h9.ch x9 h7).2; omega) | (have h8 := h9.nw; rw [show i = ws.length by omega, List.take_length] at hkk; omega) | exact hno (h9.ch x (List.mem_of_getElem? hx)).1⟩⟩
 refine xK false (.bool true) rfl rfl rfl rfl ?_
 simp only [zP, zI, zS, zO]
 refine xM (.bool true) rfl rfl rfl ?_
 refine xT 9 23 false true rfl rfl rfl rfl rfl rfl rfl (by decide) ?_
 simp only [zP, zI, zS, zO]
 refine xK true (.bool true) rfl rfl rfl rfl ?_
 refine wL ?_
 simp only [zP, zI, zS, zO]
 refine tN (hK3 _ _ ?_)
 clear hK3 K3
 refine wpIn_cond_true rfl ?_
 refine sK fun K113 hK113 => rL ?_
 refine xA (.slice none 0 0) rfl rfl rfl ?_
 refine xA (.int .i64 2) rfl rfl rfl ?_
 refine wL ?_
 simp only [zP, zI, zS, zO]
 refine tN (hK113 _ _ ?_)
 clear hK113 K113
 refine wpIn_ret ?_
 refine then_ret ?_
 clear hK2 K2
 refine bodyPost_ret (results_tmp2 rfl _ _ _) rfl ?_
 exact ⟨_, _, 2, (Base.Le.refl _), rfl, ((hv.front 1 rfl).front 1 rfl), .inl ⟨by decide, fun h9 => by first | exact hbl6.1 rfl h9.nd | (have h8 := h9.la; omega) | (obtain ⟨x9, h7, h8⟩ := hfl rfl; have := (h9.ch x9 h7).2; omega) | (have h8 := h9.nw; rw [show i = ws.length by omega, List.take_length] at hkk; omega) | exact hno (h9.ch x (List.mem_of_getElem? hx)).1⟩⟩
end Go.Proofs.Ytffmbdagjpdieaa
/- store.Apply. -/
namespace Go.Proofs.Ytffmbdagjpdieaa
open Go.RowKit Go.Pm
structure SetI (M M' : Model) (last : Int) (ws : List Wr) (i : Nat) : Prop where
 got : ∀ j x, j < i → ws[j]? = some x → getM M' x.key = newC M last x
 rest : ∀ k, (∀ j x, j < i → ws[j]? = some x → x.key ≠ k) → getM M' k = getM M k
 len : M.length ≤ M'.length ∧ M'.length ≤ M.length + i
theorem SetI.next {M M' M2 : Model} {last : Int} {ws : List Wr} {i : Nat} (h : SetI M M' last ws i) (hn : (ws.map (·.key)).Nodup) {x : Wr} (hx : ws[i]? = some x) (hg : ∀ k, getM M2 k = if k = x.key then newC M last x else getM M' k) (hl : M'.length ≤ M2.length ∧ M2.length ≤ M'.length + 1) : SetI M M2 last ws (i + 1) := by
 have hkey : ∀ j y, j < i → ws[j]? = some y → y.key ≠ x.key := fun j y hj hy e => by
  have hi := (List.getElem?_eq_some_iff.1 hx).1
  have h1 : (ws.map (·.key))[j]? = some x.key := by rw [List.getElem?_map, hy, Option.map_some, e]
  have h2 : (ws.map (·.key))[i]? = some x.key := by rw [List.getElem?_map, hx]; rfl
  have := (List.getElem?_inj (by rw [List.length_map]; omega) hn).1 (h1.trans h2.symm)
  omega
 refine ⟨fun j y hj hy => ?_, fun k hk => ?_, by have := h.len; omega⟩
 ·rcases Nat.lt_or_ge j i with h3 | h3
  ·rw [hg, if_neg (hkey j y h3 hy)]
   exact h.got j y h3 hy
  have e : j = i := by omega
  rw [e, hx] at hy
  cases hy
  rw [hg, if_pos rfl]
 rw [hg, if_neg (fun e => hk i x (by omega) hx e.symm)]
 exact h.rest k fun j y hj hy => hk j y (by omega) hy
theorem s17callable24 : Callable Try.prog 24 := ⟨_, Try.func24, by kernel_rfl, by kernel_rfl⟩
theorem s17al40 (w : World) : (Instr.alloc 40 true (.tuple #[])).run Try.prog w = .ok (.pointer (some ⟨w.heap.size, 0, none⟩)) (w.alloc (.cells ([.string ⟨([] : List UInt8).toArray⟩, .int .i64 0, .bool false, .int .i64 0, .int .i64 0, .string ⟨([] : List UInt8).toArray⟩, .slice none 0 0, .slice none 0 0, .slice none 0 0] : List Value).toArray 40)) := by kernel_rfl
theorem s17es62 (w : World) : (sizeOf (Try.prog.elem 62)).run Try.prog w = .ok 1 w := by kernel_rfl
theorem s17callable25 : Callable Try.prog 25 := ⟨_, Try.func25, by kernel_rfl, by kernel_rfl⟩
set_option maxHeartbeats 4000000 in
theorem storeApply (B : Base) (H : List Res) (w : World) (s p : Nat) (v : Value) (X : List (List Ent)) (bvs : List Value) (M : Model) (last mark : Int) (ad : Option Addr) (c : Nat) (xs : List Value) (ws : List Wr) (hx0 : IxM B X M) (hlast : 0 ≤ last) (hr : RdV B [] ad xs) (hws : WrsAt B ws xs) (hm : ws.length ≤ 1000) (hM : M.length ≤ 90000) (hv : Inv B (Res.cell s [.pointer (some ⟨p, 0, none⟩), .int .i64 last, .int .i64 mark] 60 :: ixS 81 93 92 p v (M.length : Int) X bvs :: H) w) :
  Calls Try.prog 9 #[.pointer (some ⟨s, 0, none⟩), .slice ad ws.length c] w fun e w' => ∃ C n ec, B.Le C ∧ e = .returned (.tuple #[.int .i64 n, .int .i64 ec]) ∧ ((ec ≠ 0 ∧ ¬ AppOk M last ws ∧ n = 0 ∧ Inv C (Res.cell s [.pointer (some ⟨p, 0, none⟩), .int .i64 last, .int .i64 mark] 60 :: ixS 81 93 92 p v (M.length : Int) X bvs :: H) w') ∨ (ec = 0 ∧ n = last + 1 ∧ AppOk M last ws ∧ ∃ v' X' bvs' M', IxM C X' M' ∧ SetI M M' last ws ws.length ∧ Inv C (Res.cell s [.pointer (some ⟨p, 0, none⟩), .int .i64 (last + 1), .int .i64 mark] 60 :: ixS 81 93 92 p v' (M'.length : Int) X' bvs' :: H) w')) := by
 refine (callsIn_wide (n := 5)).1 ?_
 refine callsIn_of_wp Try.func9 rfl trivial ?_
 simp only [Try.ntmps9, List.size_toArray, List.length_cons, List.length_nil, Nat.reduceAdd, Nat.reduceSub, Array.replicate_succ, Array.replicate_zero, List.push_toArray, List.append_toArray, List.nil_append, List.cons_append]
 refine sK fun K1 hK1 => rL ?_
 refine xA (.int .i64 0) rfl rfl rfl ?_
 refine xA (.int .i64 0) rfl rfl rfl ?_
 refine wL ?_
 simp only [zP, zI, zS, zO]
 refine tN (hK1 _ _ ?_)
 clear hK1 K1
 refine sK fun K2 hK2 => rL ?_
 refine xM (.pointer (some ⟨s, 0, none⟩)) rfl rfl rfl ?_
 refine xM (.slice ad ws.length c) rfl rfl rfl ?_
 refine xC s17callable24 rfl rfl (l := [.pointer (some ⟨s, 0, none⟩), .slice ad ws.length c]) rfl ((storeChains B _ _ s p v X bvs M last mark ad c xs ws hx0 hlast hr hws hm hv).mono ?_)
 rintro e w3 ⟨C, cv, ec, hBC, rfl, hv, hor⟩
 refine ⟨_, rfl, ?_⟩
 rcases hor with ⟨hne, hnok⟩ | ⟨rfl, happ, ra, rc, ys, rfl, hry, hchs⟩
 rotate_left
 have hnd := happ.nd
 have hl60 := happ.la
 rotate_left
 ·simp only [zP, zI, zS, zO]
  refine xM (.tuple #[cv, .int .i64 ec]) rfl rfl rfl ?_
  refine xG (cv) rfl rfl (ex_extract rfl rfl rfl) ?_
  refine xG (.int .i64 ec) rfl rfl (ex_extract rfl rfl rfl) ?_
  simp only [zP, zI, zS, zO]
  refine xA (cv) rfl rfl rfl ?_
  refine xA (.int .i64 ec) rfl rfl rfl ?_
  refine wL ?_
  simp only [zP, zI, zS, zO]
  refine tN (hK2 _ _ ?_)
  clear hK2 K2
  refine sK fun K4 hK4 => ?_
  refine sK fun K5 hK5 => rL ?_
  refine xM (.int .i64 ec) rfl rfl rfl ?_
  refine xG (.bool true) rfl rfl (ex_neq (k := .i64) (m := ec) (n := 0) rfl rfl rfl (decide_eq_true hne)) ?_
  refine wL ?_
  simp only [zP, zI, zS, zO]
  refine tN (hK5 _ _ ?_)
  clear hK5 K5
  refine wpIn_cond_true rfl ?_
  refine sK fun K6 hK6 => rL ?_
  refine xM (.int .i64 ec) rfl rfl rfl ?_
  refine xA (.int .i64 0) rfl rfl rfl ?_
  refine xA (.int .i64 ec) rfl rfl rfl ?_
  refine wL ?_
  simp only [zP, zI, zS, zO]
  refine tN (hK6 _ _ ?_)
  clear hK6 K6
  refine wpIn_ret ?_
  refine then_ret ?_
  clear hK4 K4
  refine bodyPost_ret (results_tmp2 rfl _ _ _) rfl ?_
  exact ⟨C, 0, ec, hBC, rfl, .inl ⟨hne, hnok, rfl, ((hv.front 1 rfl).front 1 rfl)⟩⟩
 simp only [zP, zI, zS, zO]
 refine xM (.tuple #[.slice ra ws.length rc, .int .i64 0]) rfl rfl rfl ?_
 refine xG (.slice ra ws.length rc) rfl rfl (ex_extract rfl rfl rfl) ?_
 refine xG (.int .i64 0) rfl rfl (ex_extract rfl rfl rfl) ?_
 simp only [zP, zI, zS, zO]
 refine xA (.slice ra ws.length rc) rfl rfl rfl ?_
 refine xA (.int .i64 0) rfl rfl rfl ?_
 refine wL ?_
 simp only [zP, zI, zS, zO]
 refine tN (hK2 _ _ ?_)
 clear hK2 K2
 refine sK fun K7 hK7 => ?_
 refine sK fun K8 hK8 => rL ?_
 refine xM (.int .i64 0) rfl rfl rfl ?_
 refine xG (.bool false) rfl rfl (ex_neq (k := .i64) (m := 0) (n := 0) rfl rfl rfl (by decide)) ?_
 refine wL ?_
 simp only [zP, zI, zS, zO]
 refine tN (hK8 _ _ ?_)
 clear hK8 K8
 refine wpIn_cond_false rfl ?_
 refine wpIn_skip ?_
 refine tN (hK7 _ _ ?_)
 clear hK7 K7
 refine sK fun K9 hK9 => ?_
 refine sK fun K10 hK10 => rL ?_
 refine xM (.slice ad ws.length c) rfl rfl rfl ?_
 refine xG (.int .i64 (ws.length : Int)) rfl rfl (ex_len0 Try.underlying27 rfl rfl) ?_
 refine xM (.int .i64 0) rfl rfl rfl ?_
 refine wL ?_
 simp only [zP, zI, zS, zO]
 refine tN (hK10 _ _ ?_)
 clear hK10 K10
 refine wpIn_block ?_
 gi_loopw [21] (fun x21 wr => ∃ (i : Nat) (E : Base) (v' : Value) (X' : List (List Ent)) (bvs' : List Value) (M' : Model), x21 = .int .i64 (i : Int) ∧ C.Le E ∧ i ≤ ws.length ∧ IxM E X' M' ∧ SetI M M' last ws i ∧ Inv E (Res.cell s [.pointer (some ⟨p, 0, none⟩), .int .i64 last, .int .i64 mark] 60 :: ixS 81 93 92 p v' (M'.length : Int) X' bvs' :: H) wr) (fun x21 _ => ws.length - (intOf x21).toNat)
 case atStart => exact ⟨0, C, v, X, bvs, M, rfl, Base.Le.refl _, Nat.zero_le _, hx0.more hBC, ⟨fun j x h => by omega, fun k _ => rfl, by omega⟩, hv⟩
 case round =>
  obtain ⟨i, E, v', X', bvs', M', rfl, hCE, hi, hxm, hset, hv⟩ := hrel
  refine sK fun K12 hK12 => rL ?_
  by_cases hb13 : (i : Int) < (ws.length : Int)
  ·refine xG (.bool true) rfl rfl (ex_lss (k := .i64) (m := (i : Int)) (n := (ws.length : Int)) rfl rfl rfl (decide_eq_true hb13)) ?_
   refine wL ?_
   simp only [zP, zI, zS, zO]
   refine tN (hK12 _ _ ?_)
   clear hK12 K12
   refine sK fun K14 hK14 => ?_
   refine wpIn_cond_true rfl ?_
   refine wpIn_skip ?_
   refine tN (hK14 _ _ ?_)
   clear hK14 K14
   refine sK fun K15 hK15 => ?_
   refine wpIn_block ?_
   refine sK fun K16 hK16 => ?_
   obtain ⟨x, hx⟩ : ∃ x, ws[i]? = some x := ⟨_, List.getElem?_eq_getElem (show i < ws.length by omega)⟩
   obtain ⟨bb, bo, xp, xt, xz, had, hvalx, hrdx⟩ := WrsAt.reads hws hr hx
   subst had
   refine rL ?_
   refine xM (.int .i64 (i : Int)) rfl rfl rfl ?_
   refine xG (.pointer (some ⟨bb, bo + i * 9, none⟩)) rfl rfl (ex_index rfl rfl rfl (run_idx (k := i) Try.underlying27 s8es27 (by omega))) ?_
   refine xL (.agg #[.string ⟨x.key.toArray⟩, .int .i64 x.ver.stamp, .bool x.ver.gone, .int .i64 x.ver.expire, .int .i64 x.ver.val.kind, .string ⟨x.ver.val.text.toArray⟩, xp, xt, xz]) rfl rfl rfl (run_loadR (cs := [.string ⟨x.key.toArray⟩, .int .i64 x.ver.stamp, .bool x.ver.gone, .int .i64 x.ver.expire, .int .i64 x.ver.val.kind, .string ⟨x.ver.val.text.toArray⟩, xp, xt, xz]) s8wd40 (Reads.mid (pre := []) (mid := [.string ⟨x.key.toArray⟩, .int .i64 x.ver.stamp, .bool x.ver.gone, .int .i64 x.ver.expire, .int .i64 x.ver.val.kind, .string ⟨x.ver.val.text.toArray⟩, xp, xt, xz]) (post := []) hrdx _ _ _ (hBC.trans hCE) no_res hv)) ?_
   simp only [zP, zI, zS, zO]
   refine sl_alloc tV (wn rfl) rfl hv s17al40 (fun b17 w18 hv => ?_)
   refine xA (.int .i64 (i : Int)) rfl rfl rfl ?_
   refine sl_storeNAt 0 (new := [.string ⟨x.key.toArray⟩, .int .i64 x.ver.stamp, .bool x.ver.gone, .int .i64 x.ver.expire, .int .i64 x.ver.val.kind, .string ⟨x.ver.val.text.toArray⟩, xp, xt, xz]) (pre := []) (mid := [.string ⟨([] : List UInt8).toArray⟩, .int .i64 0, .bool false, .int .i64 0, .int .i64 0, .string ⟨([] : List UInt8).toArray⟩, .slice none 0 0, .slice none 0 0, .slice none 0 0]) (post := []) (L' := [.string ⟨x.key.toArray⟩, .int .i64 x.ver.stamp, .bool x.ver.gone, .int .i64 x.ver.expire, .int .i64 x.ver.val.kind, .string ⟨x.ver.val.text.toArray⟩, xp, xt, xz]) tV (wn rfl) rfl rfl rfl hv rfl s8sz40 rfl rfl rfl (one_cons rfl (one_cons rfl (one_cons rfl (one_cons rfl (one_cons rfl (one_cons rfl (one_cons hvalx.p.one (one_cons hvalx.t.one (one_cons hvalx.z.one one_nil))))))))) rfl (fun w19 hv => ?_)
   simp only [List.set_cons_zero] at hv
   refine wL ?_
   simp only [zP, zN, zI, zS, zO]
   refine tN (hK16 _ _ ?_)
   clear hK16 K16
   obtain ⟨q, hyq, hqB, hqok, hq64⟩ := hchs.ok rfl i x (by omega) hx
   obtain ⟨cb, co, had3, hrdc⟩ := row1_reads (hry.rdW []) hyq
   subst had3
   have hset2 := hset.len
   refine region_st mixed [.pointer (some ⟨s, 0, none⟩), .pointer (some ⟨s, 0, none⟩), .pointer (some ⟨s, 0, none⟩), .pointer (some ⟨p, 0, none⟩), .pointer (some ⟨b17, 0, none⟩), .string ⟨x.key.toArray⟩, .slice (some ⟨cb, co, none⟩) ws.length rc, .int .i64 (i : Int), .pointer (some ⟨cb, co + i, none⟩), q, undef] [10] [⟨fun vals w => vals = [] ∧ Inv E (Res.cell b17 [.string ⟨x.key.toArray⟩, .int .i64 x.ver.stamp, .bool x.ver.gone, .int .i64 x.ver.expire, .int .i64 x.ver.val.kind, .string ⟨x.ver.val.text.toArray⟩, xp, xt, xz] 40 :: Res.cell s [.pointer (some ⟨p, 0, none⟩), .int .i64 last, .int .i64 mark] 60 :: ixS 81 93 92 p v' (M'.length : Int) X' bvs' :: H) w, fun _ _ _ ⟨h, hi⟩ he => ⟨h, hi.ext he⟩⟩, ⟨fun vals w => ∃ G v2 X2 bvs2 M2, vals = [.tuple #[]] ∧ (E.Le G) ∧ (IxM G X2 M2) ∧ (∀ k, getM M2 k = if k = x.key then newC M last x else getM M' k) ∧ (M'.length ≤ M2.length ∧ M2.length ≤ M'.length + 1) ∧ Inv G (ixS 81 93 92 p v2 (M2.length : Int) X2 bvs2 :: Res.cell b17 [.string ⟨x.key.toArray⟩, .int .i64 x.ver.stamp, .bool x.ver.gone, .int .i64 x.ver.expire, .int .i64 x.ver.val.kind, .string ⟨x.ver.val.text.toArray⟩, xp, xt, xz] 40 :: Res.cell s [.pointer (some ⟨p, 0, none⟩), .int .i64 last, .int .i64 mark] 60 :: H) w, fun _ _ _ ⟨G, v2, X2, bvs2, M2, h, hA1, hA2, hA3, hA4, hi⟩ he => ⟨G, v2, X2, bvs2, M2, h, hA1, hA2, hA3, hA4, hi.ext he⟩⟩] 49 rfl (by kernel_rfl) ⟨rfl, hv⟩ ⟨?_, ?_, ?_, ?_, ?_, ?_, ?_, ?_, ?_, ?_, ?_, trivial⟩ ?_
   ·intro aa ww vals hJ hR
    exact xD rfl (ex_move rfl (show aa.eval (.tmp 0) = _ from hR.keep 0 rfl)) rfl rfl
   ·intro aa ww vals hJ hR
    exact xD rfl (ex_nil rfl (hR.w 0 26 rfl rfl rfl rfl)) rfl rfl
   ·intro aa ww vals hJ hR
    exact xD rfl (ex_field rfl (hR.w 1 27 rfl rfl rfl rfl) (s15fa60_0 _ _ _)) rfl rfl
   ·intro aa ww vals hJ hR
    have h2 : vals.length ≤ 0 := hR.hi 10 (by simp) rfl
    have hl : vals.length = 0 := by omega
    obtain ⟨hvals, hv⟩ := hJ.at0 hl
    exact xD rfl (ex_load rfl (hR.w 2 28 rfl rfl rfl rfl) (run_load1 s3na57 (hv.load 1 0 rfl rfl))) rfl rfl
   ·intro aa ww vals hJ hR
    exact xD rfl (ex_field rfl (show aa.eval (.tmp 9) = _ from hR.keep 9 rfl) (s8fa40_0 _ _ _)) rfl rfl
   ·intro aa ww vals hJ hR
    have h2 : vals.length ≤ 0 := hR.hi 10 (by simp) rfl
    have hl : vals.length = 0 := by omega
    obtain ⟨hvals, hv⟩ := hJ.at0 hl
    exact xD rfl (ex_load rfl (hR.w 4 30 rfl rfl rfl rfl) (run_load1 s3na9 (hv.load 0 0 rfl rfl))) rfl rfl
   ·intro aa ww vals hJ hR
    exact xD rfl (ex_move rfl (show aa.eval (.tmp 6) = _ from hR.keep 6 rfl)) rfl rfl
   ·intro aa ww vals hJ hR
    exact xD rfl (ex_move rfl (show aa.eval (.tmp 8) = _ from hR.keep 8 rfl)) rfl rfl
   ·intro aa ww vals hJ hR
    exact xD rfl (ex_index rfl (hR.w 6 32 rfl rfl rfl rfl) (hR.w 7 33 rfl rfl rfl rfl) (run_idx1 (k := i) Try.underlying62 s17es62 (by omega))) rfl rfl
   ·intro aa ww vals hJ hR
    have h2 : vals.length ≤ 0 := hR.hi 10 (by simp) rfl
    have hl : vals.length = 0 := by omega
    obtain ⟨hvals, hv⟩ := hJ.at0 hl
    exact xD rfl (ex_load rfl (hR.w 8 34 rfl rfl rfl rfl) (run_load1 s2na66 (hrdc _ _ _ hCE no_res hv 0 _ rfl))) rfl rfl
   ·intro aa ww vals hJ hR
    refine mem_step' rfl fun hvl => ?_
    have hl : vals.length = 0 := hvl
    obtain ⟨hvals, hv⟩ := hJ.at0 hl
    refine stepMem_calls s17callable25 (wn rfl) rfl (args := #[.pointer (some ⟨p, 0, none⟩), .string ⟨x.key.toArray⟩, q]) (by simp only [yA, yB, yC]; rw [show aa.eval (.tmp 29) = .pointer (some ⟨p, 0, none⟩) from hR.v 3 29 rfl rfl rfl rfl, show aa.eval (.tmp 31) = .string ⟨x.key.toArray⟩ from hR.v 5 31 rfl rfl rfl rfl, show aa.eval (.tmp 35) = q from hR.v 9 35 rfl rfl rfl rfl] <;> rfl) ((ixSet E _ _ p v' X' bvs' M' x.key q (newC M last x) hxm (by omega) (hqB.more hCE) (by unfold newC; simp) (by omega) (hv.front 2 rfl)).mono ?_)
    rintro e w20 ⟨rfl, G, v2, X2, bvs2, M2, hA1, hA2, hA3, hA4, hv⟩
    refine ⟨_, rfl, JS.next hl ⟨G, v2, X2, bvs2, M2, by rw [hvals]; rfl, hA1, hA2, hA3, hA4, hv⟩⟩
   rintro w21 vals ⟨G, v2, X2, bvs2, M2, rfl, hA1, hA2, hA3, hA4, hv⟩
   rw [show mixV [10] [.tuple #[]] 0 [.pointer (some ⟨s, 0, none⟩), .pointer (some ⟨s, 0, none⟩), .pointer (some ⟨s, 0, none⟩), .pointer (some ⟨p, 0, none⟩), .pointer (some ⟨b17, 0, none⟩), .string ⟨x.key.toArray⟩, .slice (some ⟨cb, co, none⟩) ws.length rc, .int .i64 (i : Int), .pointer (some ⟨cb, co + i, none⟩), q, undef] = [.pointer (some ⟨s, 0, none⟩), .pointer (some ⟨s, 0, none⟩), .pointer (some ⟨s, 0, none⟩), .pointer (some ⟨p, 0, none⟩), .pointer (some ⟨b17, 0, none⟩), .string ⟨x.key.toArray⟩, .slice (some ⟨cb, co, none⟩) ws.length rc, .int .i64 (i : Int), .pointer (some ⟨cb, co + i, none⟩), q, .tuple #[]] from rfl]
   simp only [putAll, zP, zI, zS, zO]
   refine blk_normal ?_
   refine tN (hK15 _ _ ?_)
   clear hK15 K15
   refine rL ?_
   refine xG (.int .i64 ((i + 1 : Nat) : Int)) rfl rfl (ex_add (m := (i : Int)) (n := 1) rfl rfl rfl (by rw [i64_in (by omega)]; omega)) ?_
   refine xM (.int .i64 ((i + 1 : Nat) : Int)) rfl rfl rfl ?_
   refine wL ?_
   simp only [zP, zI, zS, zO]
   refine then_normal ?_
   go_roundw
   case rel => exact ⟨i + 1, _, _, _, _, M2, rfl, (hCE.trans hA1), by omega, hA2, hset.next hnd hx hA3 hA4, ((hv.front 2 rfl).sub (List.Sublist.cons_cons _ (List.Sublist.cons_cons _ (List.Sublist.cons _ (List.Sublist.refl _)))))⟩
   case measure => show ws.length - (((i + 1 : Nat) : Int)).toNat < ws.length - ((i : Int)).toNat; omega
  refine xG (.bool false) rfl rfl (ex_lss (k := .i64) (m := (i : Int)) (n := (ws.length : Int)) rfl rfl rfl (decide_eq_false hb13)) ?_
  refine wL ?_
  simp only [zP, zI, zS, zO]
  refine tN (hK12 _ _ ?_)
  clear hK12 K12
  refine sK fun K22 hK22 => ?_
  refine wpIn_cond_false rfl ?_
  refine wpIn_exit ?_
  refine then_exit ?_
  clear hK22 K22
  refine then_exit ?_
  refine blk_hit ?_
  refine tN (hK9 _ _ ?_)
  clear hK9 K9
  refine sK fun K23 hK23 => rL ?_
  refine xM (.pointer (some ⟨s, 0, none⟩)) rfl rfl rfl ?_
  refine xG (.pointer (some ⟨s, 0, none⟩)) rfl rfl (ex_nil rfl rfl) ?_
  refine xF (.pointer (some ⟨s, 1, none⟩)) rfl rfl rfl (s15fa60_1 _ _ _) ?_
  simp only [zP, zI, zS, zO]
  refine xL (.int .i64 last) rfl rfl rfl (run_load1 s2na3 (hv.load 0 1 rfl rfl)) ?_
  refine xG (.int .i64 (last + 1)) rfl rfl (ex_add (m := last) (n := 1) rfl rfl rfl (i64_in (by omega))) ?_
  refine xG (.pointer (some ⟨s, 0, none⟩)) rfl rfl (ex_nil rfl rfl) ?_
  simp only [zP, zI, zS, zO]
  refine xF (.pointer (some ⟨s, 1, none⟩)) rfl rfl rfl (s15fa60_1 _ _ _) ?_
  refine sl_storeAt 0 (v := .int .i64 (last + 1)) (L' := [.pointer (some ⟨p, 0, none⟩), .int .i64 (last + 1), .int .i64 mark]) tV (wn rfl) rfl rfl rfl hv rfl s5sz3 (by simp) rfl rfl rfl (fun w24 hv => ?_)
  simp only [List.set_cons_zero] at hv
  refine wL ?_
  simp only [zP, zN, zI, zS, zO]
  refine tN (hK23 _ _ ?_)
  clear hK23 K23
  refine sK fun K25 hK25 => rL ?_
  refine xM (.pointer (some ⟨s, 0, none⟩)) rfl rfl rfl ?_
  refine xG (.pointer (some ⟨s, 0, none⟩)) rfl rfl (ex_nil rfl rfl) ?_
  refine xF (.pointer (some ⟨s, 1, none⟩)) rfl rfl rfl (s15fa60_1 _ _ _) ?_
  simp only [zP, zI, zS, zO]
  refine xL (.int .i64 (last + 1)) rfl rfl rfl (run_load1 s2na3 (hv.load 0 1 rfl rfl)) ?_
  refine xA (.int .i64 (last + 1)) rfl rfl rfl ?_
  refine xA (.int .i64 0) rfl rfl rfl ?_
  refine wL ?_
  simp only [zP, zI, zS, zO]
  refine tN (hK25 _ _ ?_)
  clear hK25 K25
  refine wpIn_ret ?_
  refine bodyPost_ret (results_tmp2 rfl _ _ _) rfl ?_
  obtain rfl : i = ws.length := by omega
  exact ⟨E, _, 0, hBC.trans hCE, rfl, .inr ⟨rfl, rfl, happ, _, _, _, _, hxm, hset, ((hv.front 1 rfl).front 1 rfl)⟩⟩
end Go.Proofs.Ytffmbdagjpdieaa
/- Writes as the law's arguments hold them: how long the rows are is not yet known. -/
namespace Go.Pm
open Go.RowKit
structure ValRd (B : Base) (v : Val) (p t z : Value) : Prop where
 p : RowB B p v.pairs.length (pairCells v.pairs)
 t : RowB B t v.texts.length (textCells v.texts)
 z : RowB B z v.zset.length (memCells v.zset)
theorem ValRd.more {B C : Base} {v : Val} {p t z : Value} (h : ValRd B v p t z) (hB : B.Le C) : ValRd C v p t z := ⟨h.p.more hB, h.t.more hB, h.z.more hB⟩
theorem ValAt.rd {B : Base} {v : Val} {p t z : Value} (h : ValAt B v p t z) : ValRd B v p t z := ⟨h.p, h.t, h.z⟩
def WrsRd (B : Base) : List Wr → List Value → Prop
 | [], xs => xs = []
 | v :: l, xs => ∃ p t z r, xs = wrCells v p t z ++ r ∧ ValRd B v.ver.val p t z ∧ WrsRd B l r
theorem WrsRd.more {B C : Base} (hB : B.Le C) : ∀ {l : List Wr} {xs : List Value}, WrsRd B l xs → WrsRd C l xs
 | [], _, h => h
 | _ :: _, _, ⟨p, t, z, r, h1, h2, h3⟩ => ⟨p, t, z, r, h1, h2.more hB, WrsRd.more hB h3⟩
theorem WrsRd.append {B : Base} {k : List Wr} {ys : List Value} (hk : WrsRd B k ys) : ∀ {l : List Wr} {xs : List Value}, WrsRd B l xs → WrsRd B (l ++ k) (xs ++ ys)
 | [], xs, h => by
  cases (show xs = [] from h)
  exact hk
 | v :: l, xs, ⟨p, t, z, r, h1, h2, h3⟩ => by
  subst h1
  exact ⟨p, t, z, r ++ ys, by rw [List.append_assoc], h2, WrsRd.append hk h3⟩
theorem WrsRd.len {B : Base} : ∀ {l : List Wr} {xs : List Value}, WrsRd B l xs → xs.length = l.length * 9
 | [], xs, h => by cases (show xs = [] from h); rfl
 | v :: l, xs, ⟨p, t, z, r, h1, h2, h3⟩ => by
  subst h1
  rw [List.length_append, WrsRd.len h3]
  show 9 + l.length * 9 = (l.length + 1) * 9
  omega
theorem WrsRd.get {B : Base} : ∀ {l : List Wr} {xs : List Value}, WrsRd B l xs → ∀ i (hi : i < l.length), ∃ p t z, ValRd B l[i].ver.val p t z ∧ ∀ j, j < 9 → (wrCells l[i] p t z)[j]? = (xs.drop (i * 9))[j]?
 | [], xs, h, i, hi => by simp at hi
 | v :: l, xs, ⟨p, t, z, r, h1, h2, h3⟩, i, hi => by
  subst h1
  cases i with
  | zero => exact ⟨p, t, z, h2, fun j hj => by rw [Nat.zero_mul, List.drop_zero, List.getElem?_append_left hj]; rfl⟩
  | succ i =>
   obtain ⟨p', t', z', e1, e2⟩ := WrsRd.get h3 i (by simpa using hi)
   refine ⟨p', t', z', e1, fun j hj => (e2 j hj).trans ?_⟩
   rw [show (i + 1) * 9 = i * 9 + 9 by rw [Nat.succ_mul], Nat.add_comm, ← List.drop_drop]
   rfl
theorem WrsRd.reads {B : Base} {l : List Wr} {xs : List Value} {ad : Option Addr} {i : Nat} {x : Wr} (h : WrsRd B l xs) (hr : RdV B [] ad xs) (hx : l[i]? = some x) : ∃ b off p t z, ad = some ⟨b, off, none⟩ ∧ ValRd B x.ver.val p t z ∧ Reads B [] b (off + i * 9) (wrCells x p t z) := by
 obtain ⟨hi, rfl⟩ := List.getElem?_eq_some_iff.1 hx
 obtain ⟨p, t, z, h1, h2⟩ := h.get i hi
 have hl := h.len
 have hle : i * 9 + 9 ≤ xs.length := by rw [hl]; have := Nat.mul_le_mul_right 9 (show i + 1 ≤ l.length by omega); rw [Nat.succ_mul] at this; exact this
 obtain ⟨b, off, h3, h4⟩ := rdW_reads (cs := wrCells l[i] p t z) (k := i * 9) (m := 9) (hr.rdW []) hle (by decide) rfl (fun j hj => by
  rw [h2 j hj, List.getElem?_drop])
 exact ⟨b, off, p, t, z, h3, h1, h4⟩
def ValSm (v : Val) : Prop := v.pairs.length ≤ 60 ∧ v.texts.length ≤ 600 ∧ v.zset.length ≤ 60
theorem WrsRd.at_ {B : Base} : ∀ {l : List Wr} {xs : List Value}, WrsRd B l xs → (∀ x ∈ l, ValSm x.ver.val) → WrsAt B l xs
 | [], _, h, _ => h
 | v :: _, _, ⟨p, t, z, r, h1, h2, h3⟩, hs => ⟨p, t, z, r, h1, ⟨h2.p, h2.t, h2.z, by have := (hs v List.mem_cons_self).1; omega, by have := (hs v List.mem_cons_self).2.1; omega, by have := (hs v List.mem_cons_self).2.2; omega⟩, WrsRd.at_ h3 (fun x hx => hs x (List.mem_cons_of_mem _ hx))⟩
section
variable {P : Program} {a : Act} {w : World} {o : Oper} {t u : TypeId} {x y : Operand}
theorem ex_neqSame {L : List Value} (ho : o.op = .binOp .neq t x y u) (hx : a.eval x = .agg L.toArray) (hy : a.eval y = .agg L.toArray) (hg : P.eqGuardType P.depth t = false) (he : ∀ w, (Op.equalIn 10000 t (.agg L.toArray) (.agg L.toArray)).run P w = .ok true w) : Ex P a o w (.bool false) w := by
 unfold Ex
 simp [execOp, ho, hx, hy, run_eqGuard_agg w .neq t x y _ _ hg, run_neq_struct, he]
end
end Go.Pm
