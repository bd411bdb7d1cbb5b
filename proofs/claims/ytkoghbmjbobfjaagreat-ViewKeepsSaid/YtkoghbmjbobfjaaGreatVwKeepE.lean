/- Transactions: Del, Rollback; Active. -/
import Derived.Test.YtkoghbmjbobfjaaGreatVwKeepB
import Derived.Test.YtkoghbmjbobfjaaGreatVwKeepD
import Derived.Test.YtkoghbmjbobfjaaGreatRows
import Derived.Laws.Strings2
import Derived.Laws.IdiomStrings
import Derived.Test.YtkoghbmjbobfjaaGreatVwKeepC
set_option maxRecDepth 100000
namespace Go.Proofs.YtkoghbmjbobfjaaGreat
open Go.RowKit Go.Pm
def delM (M : List (List UInt8 × Ver)) (ks : List (List UInt8)) : List (List UInt8 × Ver) := ks.foldl (fun M k => updA M k gver) M
theorem delM_next {M : List (List UInt8 × Ver)} {ks : List (List UInt8)} {i : Nat} {x : List UInt8} (hx : ks[i]? = some x) : delM M (ks.take (i + 1)) = updA (delM M (ks.take i)) x gver := by
 unfold delM
 rw [take_next hx, List.foldl_append]; rfl
set_option maxHeartbeats 4000000 in
theorem txnDel (B : Base) (H : List Res) (w : World) (t m s p wb : Nat) (va : Option Addr) (vc : Nat) (sv : Value) (clk : Int) (es : List (List UInt8 × Value)) (M : List (List UInt8 × Ver)) (ka : Option Addr) (kc : Nat) (ks : List (List UInt8)) (hr : RdV B [] ka (textCells ks)) (hm : ks.length ≤ 1000000) (hM : VM B es M) (hv : Inv B (txR t m s p wb va vc sv clk es :: H) w) :
  Calls Tryz.prog 27 #[.pointer (some ⟨t, 0, none⟩), .slice ka ks.length kc] w fun e w' => ∃ es' ec, e = .returned (.int .i64 ec) ∧ ((ec = 0 ∧ ks.any (fun s : List UInt8 => decide (s.length > 256)) = false ∧ VM B es' (delM M ks)) ∨ (ec = 2 ∧ ks.any (fun s : List UInt8 => decide (s.length > 256)) = true ∧ es' = es)) ∧ Inv B (txR t m s p wb va vc sv clk es' :: H) w' := by
 refine cW Tryz.func27 rfl Tryz.ntmps27 ?_
 simp only [al]
 refine sK fun _ k1 => ?_
 replace hv := Inv.unstar hv
 simp only [txL, List.cons_append, List.nil_append] at hv
 refine rL (xA (.int .i64 0) rfl ?_)
 simp only [zP, po]
 refine wK k1 (sK fun _ k2 => ?_)
 refine sK fun _ k3 => rL (xM (.pointer (some ⟨t, 0, none⟩)) rfl ?_)
 refine xM (.slice ka ks.length kc) rfl ?_
 replace hv := hv.front 2 rfl
 simp only [List.eraseIdx_cons_succ, List.eraseIdx_cons_zero] at hv
 replace hv := hv.front 2 rfl
 simp only [List.eraseIdx_cons_succ, List.eraseIdx_cons_zero] at hv
 replace hv := hv.front 2 rfl
 simp only [List.eraseIdx_cons_succ, List.eraseIdx_cons_zero] at hv
 refine xC x2callable52 rfl ((txnMay B _ _ t m s wb va vc sv clk ka kc ks hr hm hv).mono ?_) rfl
 rintro e w4 ⟨ec, rfl, hmay, hv⟩
 refine ⟨_, rfl, ?_⟩
 rcases hmay with ⟨rfl, hk⟩ | ⟨rfl, hk⟩
 ·simp only [zP, po]
  refine xA (.int .i64 0) rfl ?_
  simp only [zP, po]
  refine wK k3 (sK fun _ k5 => ?_)
  refine rL (xM (.int .i64 0) rfl ?_)
  refine xG (.bool false) rfl (ex_neq rfl rfl rfl (by decide)) ?_
  simp only [zP, po]
  refine wK k5 (cF rfl ?_)
  refine kS (tK k2 ?_)
  refine sK fun _ k6 => sK fun _ k7 => rL (xM (.slice ka ks.length kc) rfl ?_)
  refine xG (.int .i64 (ks.length : Int)) rfl (ex_len0 Tryz.underlying29 rfl rfl) (xM (.int .i64 0) rfl ?_)
  simp only [zP, po]
  refine wK k7 (bB ?_)
  gi_loopw [16] (fun x16 wr => ∃ (i : Nat) (es1 : List (List UInt8 × Value)), x16 = .int .i64 (i : Int) ∧ i ≤ ks.length ∧ VM B es1 (delM M (ks.take i)) ∧ Inv B (Res.cell t [.pointer (some ⟨m, 0, none⟩), .int .i64 0, .int .i64 clk, .bool false, .map (some wb)] 120 :: Res.cell m [.pointer (some ⟨s, 0, none⟩), sv, .int .i64 clk, .slice va 1 vc] 88 :: Res.row 25 1 (.slice va 1 vc) 1 [.pointer (some ⟨t, 0, none⟩)] :: Res.vmap wb es1 :: Res.cell s [.pointer (some ⟨p, 0, none⟩), .int .i64 0, .int .i64 0] 116 :: Res.cell p [.slice none 0 0, .int .i64 0] 140 :: H) wr) (fun x16 _ => ks.length - (intOf x16).toNat)
  case atStart => exact ⟨0, es, rfl, Nat.zero_le _, hM, ((((((hv.front 5 rfl).front 5 rfl).front 5 rfl).front 5 rfl).front 5 rfl).front 5 rfl)⟩
  case round =>
   obtain ⟨i, es1, rfl, hi, hM1, hv⟩ := hrel
   refine sK fun _ k9 => rL ?_
   by_cases hb10 : (i : Int) < (ks.length : Int)
   ·refine xG (.bool true) rfl (ex_lss rfl rfl rfl (decide_eq_true hb10)) ?_
    simp only [zP, po]
    refine wK k9 (sK fun _ k11 => ?_)
    refine cT rfl (kS ?_)
    refine tK k11 (sK fun _ k12 => ?_)
    refine bB (sK fun _ k13 => ?_)
    obtain ⟨x, hx⟩ : ∃ x, ks[i]? = some x := ⟨_, List.getElem?_eq_getElem (show i < ks.length by omega)⟩
    obtain ⟨bb, bo, had, hrdx⟩ := text_reads hr hx
    subst had
    refine rL (xG (.pointer (some ⟨bb, bo + i, none⟩)) rfl (ex_index rfl rfl rfl (run_idx1 (k := i) Tryz.underlying29 s9es29 (by omega))) ?_)
    refine xL _ rfl (run_load1 s9na9 (hrdx _ _ _ (Base.Le.refl _) no_res hv 0 _ rfl)) (xA (.string ⟨x.toArray⟩) rfl ?_)
    simp only [zP, po]
    refine wK k13 (rL ?_)
    refine xM (.pointer (some ⟨t, 0, none⟩)) rfl (xG (.pointer (some ⟨t, 0, none⟩)) rfl (ex_nil rfl rfl) ?_)
    refine xF (.pointer (some ⟨t, 4, none⟩)) rfl (x2fa120_4 _ _ _) ?_
    simp only [zP, po]
    refine xL _ rfl (run_load1 x2na118 (hv.load 0 4 rfl rfl)) (xM (.string ⟨x.toArray⟩) rfl ?_)
    refine xG (.agg #[.int .i64 0, .bool true, .int .i64 0, .int .i64 0, .string ⟨([] : List UInt8).toArray⟩, .slice none 0 0, .slice none 0 0, .slice none 0 0]) rfl (ex_buildN (vs := #[(1, .bool true)]) rfl (by simp only [List.map_toArray, List.map_cons, List.map_nil]; rfl) (by kernel_rfl)) ?_
    simp only [zP, po]
    replace hv := hv.front 3 rfl
    simp only [List.eraseIdx_cons_succ, List.eraseIdx_cons_zero] at hv
    refine sl_updV (k := x) (v := .agg #[.int .i64 0, .bool true, .int .i64 0, .int .i64 0, .string ⟨([] : List UInt8).toArray⟩, .slice none 0 0, .slice none 0 0, .slice none 0 0]) tV (wn rfl) rfl rfl rfl rfl Tryz.underlying118 Tryz.underlying9 hv (fun w14 hv => ?_)
    refine wL ?_
    simp only [zP, po]
    refine bN (tK k12 ?_)
    refine rL (xG (.int .i64 ((i + 1 : Nat) : Int)) rfl (ex_add rfl rfl rfl (by rw [i64_in (by omega)]; omega)) ?_)
    refine xM (.int .i64 ((i + 1 : Nat) : Int)) rfl (wL ?_)
    simp only [zP, po]
    refine then_normal ?_
    go_roundw
    case rel => exact ⟨i + 1, _, rfl, by omega, by rw [delM_next hx]; exact VM.upd (x := gver) (gver_at _) hM1, ((((((hv.front 5 rfl).front 5 rfl).front 2 rfl).front 5 rfl).front 5 rfl).front 5 rfl)⟩
    case measure => show ks.length - (((i + 1 : Nat) : Int)).toNat < ks.length - ((i : Int)).toNat; omega
   refine xG (.bool false) rfl (ex_lss rfl rfl rfl (decide_eq_false hb10)) ?_
   simp only [zP, po]
   refine wK k9 (sK fun _ k15 => ?_)
   refine cF rfl (xE ?_)
   refine tX (tX ?_)
   refine bH (tK k6 ?_)
   refine sK fun _ k16 => rL (xA (.int .i64 0) rfl ?_)
   simp only [zP, po]
   refine wK k16 (rR ?_)
   refine bR rfl rfl ?_
   obtain rfl : i = ks.length := by omega
   rw [List.take_length] at hM1
   exact ⟨_, 0, rfl, .inl ⟨rfl, hk, hM1⟩, Inv.star (K := txL _ _ _ _ _ _ _ _ _ _) (((((((hv.front 5 rfl).front 5 rfl).front 5 rfl).front 5 rfl).front 5 rfl).front 5 rfl))⟩
 simp only [zP, po]
 refine xA (.int .i64 2) rfl ?_
 simp only [zP, po]
 refine wK k3 (sK fun _ k17 => ?_)
 refine rL (xM (.int .i64 2) rfl ?_)
 refine xG (.bool true) rfl (ex_neq rfl rfl rfl (by decide)) ?_
 simp only [zP, po]
 refine wK k17 (cT rfl ?_)
 refine sK fun _ k18 => rL (xM (.int .i64 2) rfl ?_)
 refine xA (.int .i64 2) rfl ?_
 simp only [zP, po]
 refine wK k18 (rR ?_)
 refine tR (bR rfl rfl ?_)
 exact ⟨_, 2, rfl, .inr ⟨rfl, hk, rfl⟩, Inv.star (K := txL _ _ _ _ _ _ _ _ _ _) (((((((hv.front 5 rfl).front 5 rfl).front 5 rfl).front 5 rfl).front 5 rfl).front 5 rfl))⟩
end Go.Proofs.YtkoghbmjbobfjaaGreat
/- Views over a transaction: Of, Keep, May. -/
namespace Go.Proofs.YtkoghbmjbobfjaaGreat
open Go.RowKit Go.Pm
def FullV (x : Val) : Prop := x.kind = 1 ∨ 0 < x.pairs.length + x.texts.length + x.zset.length
def DeadM (M : List (List UInt8 × Ver)) (clk : Int) (k : List UInt8) : Prop := ∀ y, lookA M k = some y → aliveB y clk = false
def OfI (M : List (List UInt8 × Ver)) (clk : Int) (key : List UInt8) (kind : Int) (y : Ver) (ec : Int) : Prop :=
 (ec = 0 ∧ y = zver0 ∧ DeadM M clk key) ∨ (ec = 40 ∧ y = zver0 ∧ ∃ x, lookA M key = some x ∧ aliveB x clk = true ∧ x.val.kind ≠ kind) ∨ (ec = 0 ∧ lookA M key = some y ∧ aliveB y clk = true ∧ y.val.kind = kind)
def KeepI (M : List (List UInt8 × Ver)) (clk : Int) (key : List UInt8) (x : Val) (exp : Int) (ec : Int) (M' : List (List UInt8 × Ver)) : Prop :=
 (FullV x ∧ PutOk key x exp ∧ ec = 0 ∧ M' = updA M key ⟨0, false, exp, x⟩) ∨ (FullV x ∧ ¬ PutOk key x exp ∧ ec = 2 ∧ M' = M) ∨ (¬ FullV x ∧ DeadM M clk key ∧ ec = 0 ∧ M' = M) ∨
 (¬ FullV x ∧ (∃ y, lookA M key = some y ∧ aliveB y clk = true) ∧ ((key.length ≤ 256 ∧ ec = 0 ∧ M' = updA M key gver) ∨ (256 < key.length ∧ ec = 2 ∧ M' = M)))
def sizeV (x : Val) : Nat := if x.kind = 1 then x.text.length else x.pairs.length + x.texts.length + x.zset.length
theorem valAt_sl {B : Base} {v : Val} {p t z : Value} (h : ValAt B v p t z) : ∃ a b c i j k, p = .slice a v.pairs.length i ∧ t = .slice b v.texts.length j ∧ z = .slice c v.zset.length k := by
 obtain ⟨⟨a, i, h1, -⟩, ⟨b, j, h2, -⟩, ⟨c, k, h3, -⟩, -⟩ := h
 exact ⟨a, b, c, i, j, k, h1, h2, h3⟩
set_option maxHeartbeats 2000000 in
theorem valueSize0 (B : Base) (H : List Res) (w : World) (x : Val) (a b c : Option Addr) (i j k : Nat) (hp : x.pairs.length ≤ 1000000) (ht : x.texts.length ≤ 1000000) (hz : x.zset.length ≤ 1000000) (hv : Inv B H w) :
  Calls Tryz.prog 39 #[.agg #[.int .i64 x.kind, .string ⟨x.text.toArray⟩, .slice a x.pairs.length i, .slice b x.texts.length j, .slice c x.zset.length k]] w fun e w' => e = .returned (.int .i64 (sizeV x : Int)) ∧ Inv B H w' := by
 refine cW Tryz.func39 rfl Tryz.ntmps39 ?_
 simp only [al]
 refine sK fun _ k1 => rL (sl_box (L := [.int .i64 x.kind, .string ⟨x.text.toArray⟩, .slice a x.pairs.length i, .slice b x.texts.length j, .slice c x.zset.length k]) tV (wn rfl) rfl rfl hv (fun w => by kernel_rfl) (fun b2 w3 hv => ?_))
 refine xA (.int .i64 0) rfl ?_
 simp only [zP, po]
 refine wK k1 (sK fun _ k4 => ?_)
 refine sK fun _ k5 => rL (xF (.pointer (some ⟨b2, 0, none⟩)) rfl (s12fa35_0 _ _ _) ?_)
 refine xL _ rfl (run_load1 s2na3 (hv.load 0 0 rfl rfl)) ?_
 by_cases hb6 : x.kind = 1
 ·refine xG (.bool true) rfl (ex_eql rfl rfl rfl (decide_eq_true hb6)) ?_
  simp only [zP, po]
  refine wK k5 (cT rfl ?_)
  refine sK fun _ k7 => rL (xF (.pointer (some ⟨b2, 1, none⟩)) rfl (s12fa35_1 _ _ _) ?_)
  refine xL _ rfl (run_load1 s9na9 (hv.load 0 1 rfl rfl)) (xG (.int .i64 (x.text.length : Int)) rfl (ex_lenStr Tryz.underlying9 rfl rfl) ?_)
  simp only [zP, po]
  refine xA (.int .i64 (x.text.length : Int)) rfl ?_
  simp only [zP, po]
  refine wK k7 (rR ?_)
  refine tR (bR rfl rfl ?_)
  exact ⟨congrArg (fun n : Int => Ending.returned (Value.int .i64 n)) (by unfold sizeV; split <;> omega), (hv.sub (List.Sublist.cons _ (List.Sublist.refl _)))⟩
 refine xG (.bool false) rfl (ex_eql rfl rfl rfl (decide_eq_false hb6)) ?_
 simp only [zP, po]
 refine wK k5 (cF rfl ?_)
 refine kS (tK k4 ?_)
 refine sK fun _ k8 => rL (xF (.pointer (some ⟨b2, 2, none⟩)) rfl (s1fa35_2 _ _ _) ?_)
 refine xL _ rfl (run_load1 s1na32 (hv.load 0 2 rfl rfl)) (xG (.int .i64 (x.pairs.length : Int)) rfl (ex_len0 Tryz.underlying32 rfl rfl) ?_)
 simp only [zP, po]
 refine xF (.pointer (some ⟨b2, 3, none⟩)) rfl (s1fa35_3 _ _ _) (xL _ rfl (run_load1 s1na29 (hv.load 0 3 rfl rfl)) ?_)
 refine xG (.int .i64 (x.texts.length : Int)) rfl (ex_len0 Tryz.underlying29 rfl rfl) ?_
 simp only [zP, po]
 refine xG (.int .i64 ((x.pairs.length : Int) + (x.texts.length : Int))) rfl (ex_add rfl rfl rfl (i64_in (by omega))) (xF (.pointer (some ⟨b2, 4, none⟩)) rfl (s1fa35_4 _ _ _) ?_)
 refine xL _ rfl (run_load1 s1na33 (hv.load 0 4 rfl rfl)) ?_
 simp only [zP, po]
 refine xG (.int .i64 (x.zset.length : Int)) rfl (ex_len0 Tryz.underlying33 rfl rfl) (xG (.int .i64 (((x.pairs.length : Int) + (x.texts.length : Int)) + (x.zset.length : Int))) rfl (ex_add rfl rfl rfl (i64_in (by omega))) ?_)
 refine xA (.int .i64 (((x.pairs.length : Int) + (x.texts.length : Int)) + (x.zset.length : Int))) rfl ?_
 simp only [zP, po]
 refine wK k8 (rR ?_)
 refine bR rfl rfl (⟨congrArg (fun n : Int => Ending.returned (Value.int .i64 n)) (by unfold sizeV; split <;> omega), (hv.sub (List.Sublist.cons _ (List.Sublist.refl _)))⟩)
theorem valueSize (B : Base) (H : List Res) (w : World) (x : Val) (p t z : Value) (h : ValAt B x p t z) (hv : Inv B H w) : Calls Tryz.prog 39 #[.agg (valCells x p t z).toArray] w fun e w' => e = .returned (.int .i64 (sizeV x : Int)) ∧ Inv B H w' := by
 obtain ⟨a, b, c, i, j, k, rfl, rfl, rfl⟩ := valAt_sl h
 exact valueSize0 B H w x a b c i j k h.pm h.tm h.zm hv
set_option maxHeartbeats 2000000 in
theorem refSize0 (B : Base) (H : List Res) (w : World) (x : Val) (a b c : Option Addr) (i j k : Nat) (hp : x.pairs.length ≤ 1000000) (ht : x.texts.length ≤ 1000000) (hz : x.zset.length ≤ 1000000) (hv : Inv B H w) :
  Calls Tryz.prog 9 #[.agg #[.int .i64 x.kind, .string ⟨x.text.toArray⟩, .slice a x.pairs.length i, .slice b x.texts.length j, .slice c x.zset.length k]] w fun e w' => e = .returned (.int .i64 (sizeV x : Int)) ∧ Inv B H w' := by
 refine cW Tryz.func9 rfl Tryz.ntmps9 ?_
 simp only [al]
 refine sK fun _ k1 => rL (sl_box (L := [.int .i64 x.kind, .string ⟨x.text.toArray⟩, .slice a x.pairs.length i, .slice b x.texts.length j, .slice c x.zset.length k]) tV (wn rfl) rfl rfl hv (fun w => by kernel_rfl) (fun b2 w3 hv => ?_))
 refine xA (.int .i64 0) rfl ?_
 simp only [zP, po]
 refine wK k1 (sK fun _ k4 => ?_)
 refine sK fun _ k5 => rL (xF (.pointer (some ⟨b2, 0, none⟩)) rfl (s12fa35_0 _ _ _) ?_)
 refine xL _ rfl (run_load1 s2na3 (hv.load 0 0 rfl rfl)) ?_
 by_cases hb6 : x.kind = 1
 ·refine xG (.bool true) rfl (ex_eql rfl rfl rfl (decide_eq_true hb6)) ?_
  simp only [zP, po]
  refine wK k5 (cT rfl ?_)
  refine sK fun _ k7 => rL (xF (.pointer (some ⟨b2, 1, none⟩)) rfl (s12fa35_1 _ _ _) ?_)
  refine xL _ rfl (run_load1 s9na9 (hv.load 0 1 rfl rfl)) (xG (.int .i64 (x.text.length : Int)) rfl (ex_lenStr Tryz.underlying9 rfl rfl) ?_)
  simp only [zP, po]
  refine xA (.int .i64 (x.text.length : Int)) rfl ?_
  simp only [zP, po]
  refine wK k7 (rR ?_)
  refine tR (bR rfl rfl ?_)
  exact ⟨congrArg (fun n : Int => Ending.returned (Value.int .i64 n)) (by unfold sizeV; split <;> omega), (hv.sub (List.Sublist.cons _ (List.Sublist.refl _)))⟩
 refine xG (.bool false) rfl (ex_eql rfl rfl rfl (decide_eq_false hb6)) ?_
 simp only [zP, po]
 refine wK k5 (cF rfl ?_)
 refine kS (tK k4 ?_)
 refine sK fun _ k8 => rL (xF (.pointer (some ⟨b2, 2, none⟩)) rfl (s1fa35_2 _ _ _) ?_)
 refine xL _ rfl (run_load1 s1na32 (hv.load 0 2 rfl rfl)) (xG (.int .i64 (x.pairs.length : Int)) rfl (ex_len0 Tryz.underlying32 rfl rfl) ?_)
 simp only [zP, po]
 refine xF (.pointer (some ⟨b2, 3, none⟩)) rfl (s1fa35_3 _ _ _) (xL _ rfl (run_load1 s1na29 (hv.load 0 3 rfl rfl)) ?_)
 refine xG (.int .i64 (x.texts.length : Int)) rfl (ex_len0 Tryz.underlying29 rfl rfl) ?_
 simp only [zP, po]
 refine xG (.int .i64 ((x.pairs.length : Int) + (x.texts.length : Int))) rfl (ex_add rfl rfl rfl (i64_in (by omega))) (xF (.pointer (some ⟨b2, 4, none⟩)) rfl (s1fa35_4 _ _ _) ?_)
 refine xL _ rfl (run_load1 s1na33 (hv.load 0 4 rfl rfl)) ?_
 simp only [zP, po]
 refine xG (.int .i64 (x.zset.length : Int)) rfl (ex_len0 Tryz.underlying33 rfl rfl) (xG (.int .i64 (((x.pairs.length : Int) + (x.texts.length : Int)) + (x.zset.length : Int))) rfl (ex_add rfl rfl rfl (i64_in (by omega))) ?_)
 refine xA (.int .i64 (((x.pairs.length : Int) + (x.texts.length : Int)) + (x.zset.length : Int))) rfl ?_
 simp only [zP, po]
 refine wK k8 (rR ?_)
 refine bR rfl rfl (⟨congrArg (fun n : Int => Ending.returned (Value.int .i64 n)) (by unfold sizeV; split <;> omega), (hv.sub (List.Sublist.cons _ (List.Sublist.refl _)))⟩)
theorem refSize (B : Base) (H : List Res) (w : World) (x : Val) (p t z : Value) (h : ValAt B x p t z) (hv : Inv B H w) : Calls Tryz.prog 9 #[.agg (valCells x p t z).toArray] w fun e w' => e = .returned (.int .i64 (sizeV x : Int)) ∧ Inv B H w' := by
 obtain ⟨a, b, c, i, j, k, rfl, rfl, rfl⟩ := valAt_sl h
 exact refSize0 B H w x a b c i j k h.pm h.tm h.zm hv
set_option maxHeartbeats 2000000 in
theorem viewMay (B : Base) (H : List Res) (w : World) (ka : Option Addr) (kc : Nat) (ks : List (List UInt8)) (hr : RdV B [] ka (textCells ks)) (hm : ks.length ≤ 1000000) (hv : Inv B H w) :
  Calls Tryz.prog 7 #[.slice ka ks.length kc] w fun e w' => e = .returned (.int .i64 (if ks.any (fun s : List UInt8 => decide (s.length > 256)) then 2 else 0)) ∧ Inv B H w' := by
 refine cW Tryz.func7 rfl Tryz.ntmps7 ?_
 simp only [al]
 refine sK fun _ k1 => rL (xA (.int .i64 0) rfl ?_)
 simp only [zP, po]
 refine wK k1 (sK fun _ k2 => ?_)
 refine sK fun _ k3 => rL (xM (.slice ka ks.length kc) rfl ?_)
 refine xG (.int .i64 (ks.length : Int)) rfl (ex_len0 Tryz.underlying29 rfl rfl) (xM (.int .i64 0) rfl ?_)
 simp only [zP, po]
 refine wK k3 (bB ?_)
 gi_loopw [7] (fun x7 wr => ∃ (i : Nat), x7 = .int .i64 (i : Int) ∧ i ≤ ks.length ∧ (∀ j x, j < i → ks[j]? = some x → x.length ≤ 256) ∧ Inv B H wr) (fun x7 _ => ks.length - (intOf x7).toNat)
 case atStart => exact ⟨0, rfl, Nat.zero_le _, fun j x h => by omega, hv⟩
 case round =>
  obtain ⟨i, rfl, hi, hno, hv⟩ := hrel
  refine sK fun _ k5 => rL ?_
  by_cases hb6 : (i : Int) < (ks.length : Int)
  ·refine xG (.bool true) rfl (ex_lss rfl rfl rfl (decide_eq_true hb6)) ?_
   simp only [zP, po]
   refine wK k5 (sK fun _ k7 => ?_)
   refine cT rfl (kS ?_)
   refine tK k7 (sK fun _ k8 => ?_)
   refine bB (sK fun _ k9 => ?_)
   obtain ⟨x, hx⟩ : ∃ x, ks[i]? = some x := ⟨_, List.getElem?_eq_getElem (show i < ks.length by omega)⟩
   obtain ⟨bb, bo, had, hrdx⟩ := text_reads hr hx
   subst had
   refine rL (xG (.pointer (some ⟨bb, bo + i, none⟩)) rfl (ex_index rfl rfl rfl (run_idx1 (k := i) Tryz.underlying29 s9es29 (by omega))) ?_)
   refine xL _ rfl (run_load1 s9na9 (hrdx _ _ _ (Base.Le.refl _) no_res hv 0 _ rfl)) (xA (.string ⟨x.toArray⟩) rfl ?_)
   simp only [zP, po]
   refine wK k9 (sK fun _ k10 => ?_)
   refine rL (xM (.string ⟨x.toArray⟩) rfl ?_)
   refine xG (.int .i64 (x.length : Int)) rfl (ex_lenStr Tryz.underlying9 rfl rfl) ?_
   by_cases hb11 : (x.length : Int) > 256
   ·refine xG (.bool true) rfl (ex_gtr rfl rfl rfl (decide_eq_true hb11)) ?_
    simp only [zP, po]
    refine wK k10 (cT rfl ?_)
    refine sK fun _ k12 => rL (xA (.int .i64 2) rfl ?_)
    simp only [zP, po]
    refine wK k12 (rR ?_)
    refine bE (tR ?_)
    refine tR (bE ?_)
    refine tR (bR rfl rfl ?_)
    exact ⟨congrArg (fun n : Int => Ending.returned (Value.int .i64 n)) (if_pos (any_of hx (by simp; omega))).symm, hv⟩
   refine xG (.bool false) rfl (ex_gtr rfl rfl rfl (decide_eq_false hb11)) ?_
   simp only [zP, po]
   refine wK k10 (cF rfl ?_)
   refine kS (bN ?_)
   refine tK k8 (rL ?_)
   refine xG (.int .i64 ((i + 1 : Nat) : Int)) rfl (ex_add rfl rfl rfl (by rw [i64_in (by omega)]; omega)) (xM (.int .i64 ((i + 1 : Nat) : Int)) rfl ?_)
   refine wL ?_
   simp only [zP, po]
   refine then_normal ?_
   go_roundw
   case rel => exact ⟨i + 1, rfl, by omega, fun j x' hj hx' => (by
      rcases Nat.lt_or_ge j i with h | h
      ·exact hno j x' h hx'
      obtain rfl : j = i := by omega
      rw [hx] at hx'; cases hx'; omega), hv⟩
   case measure => show ks.length - (((i + 1 : Nat) : Int)).toNat < ks.length - ((i : Int)).toNat; omega
  refine xG (.bool false) rfl (ex_lss rfl rfl rfl (decide_eq_false hb6)) ?_
  simp only [zP, po]
  refine wK k5 (sK fun _ k13 => ?_)
  refine cF rfl (xE ?_)
  refine tX (tX ?_)
  refine bH (tK k2 ?_)
  refine sK fun _ k14 => rL (xA (.int .i64 0) rfl ?_)
  simp only [zP, po]
  refine wK k14 (rR ?_)
  refine bR rfl rfl ?_
  obtain rfl : i = ks.length := by omega
  exact ⟨congrArg (fun n : Int => Ending.returned (Value.int .i64 n)) (if_neg (by rw [any_none (fun i x hx => by simpa using hno i x (List.getElem?_eq_some_iff.1 hx).1 hx)]; decide)).symm, hv⟩
theorem v1al45 (w : World) : (Instr.alloc 45 true (.tuple #[])).run Tryz.prog w = .ok (.pointer (some ⟨w.heap.size, 0, none⟩)) (w.alloc (.cells ([.int .i64 0, .bool false, .int .i64 0, .int .i64 0, .string ⟨([] : List UInt8).toArray⟩, .slice none 0 0, .slice none 0 0, .slice none 0 0] : List Value).toArray 45)) := by kernel_rfl
theorem v1al38 (w : World) : (Instr.alloc 38 true (.tuple #[])).run Tryz.prog w = .ok (.pointer (some ⟨w.heap.size, 0, none⟩)) (w.alloc (.cells ([.int .i64 0] : List Value).toArray 38)) := by kernel_rfl
theorem v1fa61_0 (w : World) (b o : Nat) : (Instr.fieldAt 61 (.pointer (some ⟨b, o, none⟩)) 0).run Tryz.prog w = .ok (.pointer (some ⟨b, o + 0, none⟩)) w := by kernel_rfl
theorem v1na59 (w : World) : (isAgg 59).run Tryz.prog w = .ok false w := by kernel_rfl
theorem v1callable26 : Callable Tryz.prog 26 := ⟨_, Tryz.func26, by kernel_rfl, by kernel_rfl⟩
theorem v1sz38 : (Tryz.prog.info? 38).map (·.size) = some 1 := by kernel_rfl
theorem v1na38 (w : World) : (isAgg 38).run Tryz.prog w = .ok false w := by kernel_rfl
theorem v1callable45 : Callable Tryz.prog 45 := ⟨_, Tryz.func45, by kernel_rfl, by kernel_rfl⟩
theorem v1rec45 (n : Nat) (x0 x1 : Value) (w : World) : CallsDIn Fence.wide n Tryz.prog 45 #[x0, x1] .returning w fun e u' w' => e = .returned (.tuple #[]) ∧ u' = .returning ∧ w' = w := by
 refine callsDIn_of_wpSIn Tryz.func45 rfl trivial fun c₀ cs hu => ?_
 apply wpSIn_seq
 apply wpSIn_region
 simp [wpOpsSIn, go_sem, recoverD, hu, Tryz.ntmps45, Exit.thenS]
 refine wpSIn_cond (t := false) (by simp [Act.eval, Array.replicate]) ?_
 simp only [Bool.false_eq_true, if_false]
 refine wpSIn_of_wpIn rfl (wpIn_skip ?_)
 cases c₀
 simp_all [bodyPostS, results, Tryz.results45]
set_option maxHeartbeats 4000000 in
theorem viewOf (B : Base) (H : List Res) (w : World) (v t m s p wb : Nat) (va : Option Addr) (vc : Nat) (sv : Value) (clk : Int) (es : List (List UInt8 × Value)) (M : List (List UInt8 × Ver)) (key : List UInt8) (kind : Int) (hM : VM B es M) (hv : Inv B (Res.cell v [.iface 25 (.pointer (some ⟨t, 0, none⟩))] 61 :: txR t m s p wb va vc sv clk es :: H) w) :
  Calls Tryz.prog 13 #[.pointer (some ⟨v, 0, none⟩), .string ⟨key.toArray⟩, .int .i64 kind] w fun e w' => ∃ C y p' t' z' ec, B.Le C ∧ e = .returned (.tuple #[.agg (verCells y p' t' z').toArray, .int .i64 ec]) ∧ ValAt C y.val p' t' z' ∧ OfI M clk key kind y ec ∧ Inv C (Res.cell v [.iface 25 (.pointer (some ⟨t, 0, none⟩))] 61 :: txR t m s p wb va vc sv clk es :: H) w' := by
 refine (callsIn_wide (n := 5)).1 (callsIn_of_wp_defers Tryz.func13 rfl trivial ?_)
 simp only [Tryz.ntmps13, List.size_toArray, List.length_cons, List.length_nil, Nat.reduceAdd, Nat.reduceSub, Array.replicate_succ, Array.replicate_zero, List.push_toArray, List.append_toArray, List.nil_append, List.cons_append]
 refine sK fun _ k1 => rL (sl_alloc tV (wn rfl) rfl hv v1al45 (fun b2 w3 hv => ?_))
 refine sl_alloc tV (wn rfl) rfl hv v1al38 (fun b4 w5 hv => ?_)
 simp only [zP, po]
 refine wK k1 (sK fun _ k6 => ?_)
 refine rL (xG (.func (.func 45) #[] #[.pointer (some ⟨b2, 0, none⟩), .pointer (some ⟨b4, 0, none⟩)]) rfl (ex_makeFunc (c' := #[.pointer (some ⟨b2, 0, none⟩), .pointer (some ⟨b4, 0, none⟩)]) rfl (by simp only [List.map_toArray, List.map_nil]) (by simp only [List.map_toArray, List.map_cons, List.map_nil]; rfl)) ?_)
 refine wpi_defer tV rfl (wn rfl) rfl rfl ?_
 simp only [zP, po]
 refine wK k6 (sK fun _ k7 => ?_)
 refine rL (xM (.pointer (some ⟨v, 0, none⟩)) rfl ?_)
 refine xG (.pointer (some ⟨v, 0, none⟩)) rfl (ex_nil rfl rfl) (xF (.pointer (some ⟨v, 0, none⟩)) rfl (v1fa61_0 _ _ _) ?_)
 simp only [zP, po]
 refine xL _ rfl (run_load1 v1na59 (hv.load 2 0 rfl rfl)) (xM (.string ⟨key.toArray⟩) rfl ?_)
 replace hv := hv.front 3 rfl
 simp only [List.eraseIdx_cons_succ, List.eraseIdx_cons_zero] at hv
 refine wpi_callI v1callable26 tV wideC rfl (wn rfl) rfl rfl (r := .pointer (some ⟨t, 0, none⟩)) (fun w => by kernel_rfl) (args := #[.string ⟨key.toArray⟩]) (by simp only [List.map_toArray, List.map_cons, List.map_nil]; rfl) ((txnGet B _ _ t m s p wb va vc sv clk es M key hM hv).mono ?_)
 rintro e w8 ⟨C, x, xp, xt, xz, ok, hBC, rfl, hget, hxv, hv⟩
 refine ⟨_, rfl, ?_⟩
 rcases hget with ⟨rfl, hlk, hal⟩ | ⟨rfl, hx0, hdead⟩
 ·simp only [zP, po]
  refine xM (.tuple #[.agg #[.int .i64 x.stamp, .bool x.gone, .int .i64 x.expire, .int .i64 x.val.kind, .string ⟨x.val.text.toArray⟩, xp, xt, xz], .bool true]) rfl (xG (.agg #[.int .i64 x.stamp, .bool x.gone, .int .i64 x.expire, .int .i64 x.val.kind, .string ⟨x.val.text.toArray⟩, xp, xt, xz]) rfl (ex_extract rfl rfl rfl) ?_)
  refine xG (.bool true) rfl (ex_extract rfl rfl rfl) ?_
  simp only [zP, po]
  refine sl_alloc tV (wn rfl) rfl hv v1al45 (fun b9 w10 hv => ?_)
  refine xS 0 rfl hv x0sz45 rfl (by exact ⟨rfl, rfl, rfl, rfl, rfl, hxv.p.one, hxv.t.one, hxv.z.one, trivial⟩) (fun w11 hv => ?_)
  simp only [zO, sp] at hv
  refine xA (.bool true) rfl ?_
  simp only [zP, po]
  refine wK k7 (sK fun _ k12 => ?_)
  refine sK fun _ k13 => rL (xM (.bool true) rfl ?_)
  refine xG (.bool false) rfl (ex_not rfl rfl rfl) ?_
  simp only [zP, po]
  refine wK k13 (cF rfl ?_)
  refine kS (tK k12 ?_)
  refine sK fun _ k14 => sK fun _ k15 => rL (xF (.pointer (some ⟨b9, 3, none⟩)) rfl (x2fa45_3 _ _ _) ?_)
  refine xF (.pointer (some ⟨b9, 3, none⟩)) rfl (s12fa35_0 _ _ _) (xL _ rfl (run_load1 s2na3 (hv.load 0 3 rfl rfl)) ?_)
  simp only [zP, po]
  refine xM (.int .i64 kind) rfl ?_
  by_cases hb16 : x.val.kind ≠ kind
  ·refine xG (.bool true) rfl (ex_neq rfl rfl rfl (decide_eq_true hb16)) ?_
   simp only [zP, po]
   refine wK k15 (cT rfl ?_)
   refine sK fun _ k17 => rL (xG (.agg #[.int .i64 0, .bool false, .int .i64 0, .int .i64 0, .string ⟨([] : List UInt8).toArray⟩, .slice none 0 0, .slice none 0 0, .slice none 0 0]) rfl (ex_buildN (vs := #[]) rfl (by simp only [List.map_toArray, List.map_nil]) (by kernel_rfl)) ?_)
   refine xS 3 rfl hv x0sz45 rfl (by exact ⟨rfl, rfl, rfl, rfl, rfl, rfl, rfl, rfl, trivial⟩) (fun w18 hv => ?_)
   simp only [zS, zO, sp] at hv
   refine xV 2 (.int .i64 40) rfl hv v1sz38 rfl rfl (fun w19 hv => ?_)
   simp only [zS, zO, sp] at hv
   simp only [zP, po]
   refine wK k17 (rR ?_)
   refine tR (leave_rec v1callable45 (v1rec45 _ _ _ _) (res_cells2 rfl rfl (run_load_mid (pre := []) (mid := [.int .i64 0, .bool false, .int .i64 0, .int .i64 0, .string ⟨([] : List UInt8).toArray⟩, .slice none 0 0, .slice none 0 0, .slice none 0 0]) (post := []) x0wd45 (show Blk _ b2 ([] ++ [.int .i64 0, .bool false, .int .i64 0, .int .i64 0, .string ⟨([] : List UInt8).toArray⟩, .slice none 0 0, .slice none 0 0, .slice none 0 0] ++ []) _ from hv.get 3 rfl) rfl) rfl (run_load1 v1na38 (hv.load 2 0 rfl rfl))) ?_)
   exact ⟨_, zver0, _, _, _, 40, hBC, rfl, zver0_at _, .inr (.inl ⟨rfl, rfl, x, hlk, hal, hb16⟩), (((hv.front 1 rfl).front 4 rfl).sub (List.Sublist.cons_cons _ (List.Sublist.cons_cons _ (List.Sublist.cons _ (List.Sublist.cons _ (List.Sublist.cons _ (List.Sublist.refl _)))))))⟩
  refine xG (.bool false) rfl (ex_neq rfl rfl rfl (decide_eq_false hb16)) ?_
  simp only [zP, po]
  refine wK k15 (cF rfl ?_)
  refine kS (tK k14 ?_)
  refine sK fun _ k20 => rL (xF (.pointer (some ⟨b9, 3, none⟩)) rfl (x2fa45_3 _ _ _) ?_)
  refine xL (.agg #[.int .i64 x.val.kind, .string ⟨x.val.text.toArray⟩, xp, xt, xz]) rfl (run_load_mid (pre := [.int .i64 x.stamp, .bool x.gone, .int .i64 x.expire]) (mid := [.int .i64 x.val.kind, .string ⟨x.val.text.toArray⟩, xp, xt, xz]) (post := []) s1wd35 (show Blk _ b9 ([.int .i64 x.stamp, .bool x.gone, .int .i64 x.expire] ++ [.int .i64 x.val.kind, .string ⟨x.val.text.toArray⟩, xp, xt, xz] ++ []) _ from hv.get 0 rfl) rfl) (xC x2callable40 rfl ((valueClone _ _ _ x.val xp xt xz (hxv.more (Base.Le.refl _)) hv).mono ?_) rfl)
  rintro e w25 ⟨C21, p22, t23, z24, hC21, rfl, hp22, hv⟩
  refine ⟨_, rfl, ?_⟩
  simp only [zP, po]
  refine xF (.pointer (some ⟨b9, 3, none⟩)) rfl (x2fa45_3 _ _ _) (xS 0 rfl hv s1sz35 rfl (by exact ⟨rfl, rfl, hp22.p.one, hp22.t.one, hp22.z.one, trivial⟩) (fun w26 hv => ?_))
  simp only [zO, sp] at hv
  simp only [zP, po]
  refine wK k20 (sK fun _ k27 => ?_)
  refine rL (xL (.agg #[.int .i64 x.stamp, .bool x.gone, .int .i64 x.expire, .int .i64 x.val.kind, .string ⟨x.val.text.toArray⟩, p22, t23, z24]) rfl (run_load_mid (pre := []) (mid := [.int .i64 x.stamp, .bool x.gone, .int .i64 x.expire, .int .i64 x.val.kind, .string ⟨x.val.text.toArray⟩, p22, t23, z24]) (post := []) x0wd45 (show Blk _ b9 ([] ++ [.int .i64 x.stamp, .bool x.gone, .int .i64 x.expire, .int .i64 x.val.kind, .string ⟨x.val.text.toArray⟩, p22, t23, z24] ++ []) _ from hv.get 0 rfl) rfl) ?_)
  refine xS 3 rfl hv x0sz45 rfl (by exact ⟨rfl, rfl, rfl, rfl, rfl, hp22.p.one, hp22.t.one, hp22.z.one, trivial⟩) (fun w28 hv => ?_)
  simp only [zS, zO, sp] at hv
  refine xV 2 (.int .i64 0) rfl hv v1sz38 rfl rfl (fun w29 hv => ?_)
  simp only [zS, zO, sp] at hv
  simp only [zP, po]
  refine wK k27 (rR ?_)
  refine leave_rec v1callable45 (v1rec45 _ _ _ _) (res_cells2 rfl rfl (run_load_mid (pre := []) (mid := [.int .i64 x.stamp, .bool x.gone, .int .i64 x.expire, .int .i64 x.val.kind, .string ⟨x.val.text.toArray⟩, p22, t23, z24]) (post := []) x0wd45 (show Blk _ b2 ([] ++ [.int .i64 x.stamp, .bool x.gone, .int .i64 x.expire, .int .i64 x.val.kind, .string ⟨x.val.text.toArray⟩, p22, t23, z24] ++ []) _ from hv.get 3 rfl) rfl) rfl (run_load1 v1na38 (hv.load 2 0 rfl rfl))) (⟨_, x, _, _, _, 0, (hBC.trans hC21), rfl, hp22, .inr (.inr ⟨rfl, hlk, hal, by omega⟩), (((hv.front 1 rfl).front 4 rfl).sub (List.Sublist.cons_cons _ (List.Sublist.cons_cons _ (List.Sublist.cons _ (List.Sublist.cons _ (List.Sublist.cons _ (List.Sublist.refl _)))))))⟩)
 simp only [zP, po]
 refine xM (.tuple #[.agg #[.int .i64 x.stamp, .bool x.gone, .int .i64 x.expire, .int .i64 x.val.kind, .string ⟨x.val.text.toArray⟩, xp, xt, xz], .bool false]) rfl (xG (.agg #[.int .i64 x.stamp, .bool x.gone, .int .i64 x.expire, .int .i64 x.val.kind, .string ⟨x.val.text.toArray⟩, xp, xt, xz]) rfl (ex_extract rfl rfl rfl) ?_)
 refine xG (.bool false) rfl (ex_extract rfl rfl rfl) ?_
 simp only [zP, po]
 refine sl_alloc tV (wn rfl) rfl hv v1al45 (fun b30 w31 hv => ?_)
 refine xS 0 rfl hv x0sz45 rfl (by exact ⟨rfl, rfl, rfl, rfl, rfl, hxv.p.one, hxv.t.one, hxv.z.one, trivial⟩) (fun w32 hv => ?_)
 simp only [zO, sp] at hv
 refine xA (.bool false) rfl ?_
 simp only [zP, po]
 refine wK k7 (sK fun _ k33 => ?_)
 refine sK fun _ k34 => rL (xM (.bool false) rfl ?_)
 refine xG (.bool true) rfl (ex_not rfl rfl rfl) ?_
 simp only [zP, po]
 refine wK k34 (cT rfl ?_)
 refine sK fun _ k35 => rL (xG (.agg #[.int .i64 0, .bool false, .int .i64 0, .int .i64 0, .string ⟨([] : List UInt8).toArray⟩, .slice none 0 0, .slice none 0 0, .slice none 0 0]) rfl (ex_buildN (vs := #[]) rfl (by simp only [List.map_toArray, List.map_nil]) (by kernel_rfl)) ?_)
 refine xS 3 rfl hv x0sz45 rfl (by exact ⟨rfl, rfl, rfl, rfl, rfl, rfl, rfl, rfl, trivial⟩) (fun w36 hv => ?_)
 simp only [zS, zO, sp] at hv
 refine xV 2 (.int .i64 0) rfl hv v1sz38 rfl rfl (fun w37 hv => ?_)
 simp only [zS, zO, sp] at hv
 simp only [zP, po]
 refine wK k35 (rR ?_)
 refine tR (leave_rec v1callable45 (v1rec45 _ _ _ _) (res_cells2 rfl rfl (run_load_mid (pre := []) (mid := [.int .i64 0, .bool false, .int .i64 0, .int .i64 0, .string ⟨([] : List UInt8).toArray⟩, .slice none 0 0, .slice none 0 0, .slice none 0 0]) (post := []) x0wd45 (show Blk _ b2 ([] ++ [.int .i64 0, .bool false, .int .i64 0, .int .i64 0, .string ⟨([] : List UInt8).toArray⟩, .slice none 0 0, .slice none 0 0, .slice none 0 0] ++ []) _ from hv.get 3 rfl) rfl) rfl (run_load1 v1na38 (hv.load 2 0 rfl rfl))) ?_)
 exact ⟨_, zver0, _, _, _, 0, hBC, rfl, zver0_at _, .inl ⟨rfl, rfl, hdead⟩, (((hv.front 1 rfl).front 4 rfl).sub (List.Sublist.cons_cons _ (List.Sublist.cons_cons _ (List.Sublist.cons _ (List.Sublist.cons _ (List.Sublist.cons _ (List.Sublist.refl _)))))))⟩
theorem v1callable25 : Callable Tryz.prog 25 := ⟨_, Tryz.func25, by kernel_rfl, by kernel_rfl⟩
theorem v1callable38 : Callable Tryz.prog 38 := ⟨_, Tryz.func38, by kernel_rfl, by kernel_rfl⟩
theorem v1rec38 (n : Nat) (x0 : Value) (w : World) : CallsDIn Fence.wide n Tryz.prog 38 #[x0] .returning w fun e u' w' => e = .returned (.tuple #[]) ∧ u' = .returning ∧ w' = w := by
 refine callsDIn_of_wpSIn Tryz.func38 rfl trivial fun c₀ cs hu => ?_
 apply wpSIn_seq
 apply wpSIn_region
 simp [wpOpsSIn, go_sem, recoverD, hu, Tryz.ntmps38, Exit.thenS]
 refine wpSIn_cond (t := false) (by simp [Act.eval, Array.replicate]) ?_
 simp only [Bool.false_eq_true, if_false]
 refine wpSIn_of_wpIn rfl (wpIn_skip ?_)
 cases c₀
 simp_all [bodyPostS, results, Tryz.results38]
theorem v1callable39 : Callable Tryz.prog 39 := ⟨_, Tryz.func39, by kernel_rfl, by kernel_rfl⟩
theorem v1mk9 : (Tryz.prog.info? 9).map (fun i => (i.zero, i.size, i.bytes)) = some (some (.string ⟨([] : List UInt8).toArray⟩), 1, 16) := by kernel_rfl
theorem v1el29 : Elem Tryz.prog 29 9 (.string ⟨([] : List UInt8).toArray⟩) 1 16 := elem_of Tryz.underlying29 v1mk9 (by rfl) (by decide)
theorem v1callable27 : Callable Tryz.prog 27 := ⟨_, Tryz.func27, by kernel_rfl, by kernel_rfl⟩
set_option maxHeartbeats 4000000 in
theorem viewKeep (B : Base) (H : List Res) (w : World) (v t m s p wb : Nat) (va : Option Addr) (vc : Nat) (sv : Value) (clk : Int) (es : List (List UInt8 × Value)) (M : List (List UInt8 × Ver)) (key : List UInt8) (x : Val) (xp xt xz : Value) (exp : Int) (hM : VM B es M) (hval : ValAt B x xp xt xz) (hv : Inv B (Res.cell v [.iface 25 (.pointer (some ⟨t, 0, none⟩))] 61 :: txR t m s p wb va vc sv clk es :: H) w) :
  Calls Tryz.prog 11 #[.pointer (some ⟨v, 0, none⟩), .string ⟨key.toArray⟩, .agg #[.int .i64 x.kind, .string ⟨x.text.toArray⟩, xp, xt, xz], .int .i64 exp] w fun e w' => ∃ C es' M' ec, B.Le C ∧ e = .returned (.int .i64 ec) ∧ VM C es' M' ∧ KeepI M clk key x exp ec M' ∧ Inv C (Res.cell v [.iface 25 (.pointer (some ⟨t, 0, none⟩))] 61 :: txR t m s p wb va vc sv clk es' :: H) w' := by
 refine (callsIn_wide (n := 5)).1 (callsIn_of_wp_defers Tryz.func11 rfl trivial ?_)
 simp only [Tryz.ntmps11, List.size_toArray, List.length_cons, List.length_nil, Nat.reduceAdd, Nat.reduceSub, Array.replicate_succ, Array.replicate_zero, List.push_toArray, List.append_toArray, List.nil_append, List.cons_append]
 refine sK fun _ k1 => rL (sl_box (L := [.int .i64 x.kind, .string ⟨x.text.toArray⟩, xp, xt, xz]) tV (wn rfl) rfl rfl hv (fun w => by kernel_rfl) (fun b2 w3 hv => ?_))
 refine sl_alloc tV (wn rfl) rfl hv v1al38 (fun b4 w5 hv => ?_)
 simp only [zP, po]
 refine wK k1 (sK fun _ k6 => ?_)
 refine rL (xG (.func (.func 38) #[] #[.pointer (some ⟨b4, 0, none⟩)]) rfl (ex_makeFunc (c' := #[.pointer (some ⟨b4, 0, none⟩)]) rfl (by simp only [List.map_toArray, List.map_nil]) (by simp only [List.map_toArray, List.map_cons, List.map_nil]; rfl)) ?_)
 refine wpi_defer tV rfl (wn rfl) rfl rfl ?_
 simp only [zP, po]
 refine wK k6 (sK fun _ k7 => ?_)
 refine sK fun _ k8 => rL (xF (.pointer (some ⟨b2, 0, none⟩)) rfl (s12fa35_0 _ _ _) ?_)
 refine xL _ rfl (run_load1 s2na3 (hv.load 1 0 rfl rfl)) ?_
 by_cases hb9 : x.kind = 1
 ·refine xG (.bool true) rfl (ex_eql rfl rfl rfl (decide_eq_true hb9)) ?_
  simp only [zP, po]
  refine xM (.bool true) rfl ?_
  iterate 3 refine yN rfl ?_
  refine xK true (.bool true) rfl ?_
  simp only [zP, po]
  refine wK k8 (cT rfl ?_)
  refine sK fun _ k10 => rW mixed [6, 10, 11] [0,1,2,3,4,5,7,8,9,6,10,11] 48 rfl (by kernel_rfl) hv ?_
  simp only [qm, opAt]
  refine dM (.pointer (some ⟨v, 0, none⟩)) rfl (dG (.pointer (some ⟨v, 0, none⟩)) rfl (ex_nil rfl rfl) ?_)
  refine dG (.pointer (some ⟨v, 0, none⟩)) rfl (ex_field rfl rfl (v1fa61_0 _ _ _)) ?_
  simp only [zP, po]
  refine dF _ rfl (fun hv => ex_load rfl rfl (run_load1 v1na59 (hv.load 2 0 rfl rfl))) fun f11 hf11 => dM (.string ⟨key.toArray⟩) rfl (dL (.agg #[.int .i64 x.kind, .string ⟨x.text.toArray⟩, xp, xt, xz]) rfl (fun hv => ex_load rfl rfl (run_load_mid (pre := []) (mid := [.int .i64 x.kind, .string ⟨x.text.toArray⟩, xp, xt, xz]) (post := []) s1wd35 (show Blk _ b2 ([] ++ [.int .i64 x.kind, .string ⟨x.text.toArray⟩, xp, xt, xz] ++ []) _ from hv.get 1 rfl) rfl)) ?_)
  simp only [zP, po]
  refine dM (.int .i64 exp) rfl (dG (.iface 25 (.pointer (some ⟨t, 0, none⟩))) rfl (ex_nilI rfl rfl) ?_)
  refine dM (.iface 25 (.pointer (some ⟨t, 0, none⟩))) rfl ?_
  simp only [zP, po]
  refine dS rfl fun w12 hv => mC x2callable40 rfl ((valueClone _ _ _ x xp xt xz (hval.more (Base.Le.refl _)) hv).mono ?_) rfl
  rintro e w17 ⟨C13, p14, t15, z16, hC13, rfl, hp14, hv⟩
  refine ⟨_, rfl, dV hv (fC (fun ww hv => hf11 ww (ex_load rfl rfl (run_load1 v1na59 (hv.load 2 0 rfl rfl)))) fN) ?_⟩
  refine dS rfl fun w18 hv => ?_
  replace hv := hv.front 3 rfl
  simp only [List.eraseIdx_cons_succ, List.eraseIdx_cons_zero] at hv
  refine stepMem_callI v1callable25 rfl rfl rfl (r := .pointer (some ⟨t, 0, none⟩)) (fun w => by kernel_rfl) (args := #[.string ⟨key.toArray⟩, .agg #[.int .i64 x.kind, .string ⟨x.text.toArray⟩, p14, t15, z16], .int .i64 exp]) (by simp only [List.map_toArray, List.map_cons, List.map_nil]; rfl) ((txnPut C13 _ _ t m s p wb va vc sv clk es M key x p14 t15 z16 exp (hM.more hC13) hp14 hv).mono ?_)
  rintro e w19 ⟨D, es2, ec, hD, rfl, hput, hv⟩
  refine ⟨_, rfl, dV hv (fK rfl fN) ?_⟩
  refine dS rfl fun w20 hv => mV 1 (.int .i64 ec) rfl hv v1sz38 rfl rfl (fun w21 hv => ?_)
  simp only [zS, zO, sp] at hv
  refine dV hv (fK rfl fN) (dE fun w22 hv => ?_)
  simp only [zP, po]
  refine tK k10 (rR ?_)
  refine tR (leave_rec v1callable38 (v1rec38 _ _ _) (res_cell1 rfl rfl (run_load1 v1na38 (hv.load 1 0 rfl rfl))) ?_)
  have hfull : FullV x := .inl hb9
  rcases hput with ⟨rfl, hok, hM2⟩ | ⟨rfl, hok, he9⟩
  ·exact ⟨_, _, _, 0, (hC13.trans hD), rfl, hM2, .inl ⟨hfull, hok, rfl, rfl⟩, ((hv.front 3 rfl).sub (List.Sublist.cons_cons _ (List.Sublist.cons_cons _ (List.Sublist.cons _ (List.Sublist.cons _ (List.Sublist.refl _))))))⟩
  rw [he9] at hv
  exact ⟨_, _, M, 2, (hC13.trans hD), rfl, hM.more (hC13.trans hD), .inr (.inl ⟨hfull, hok, rfl, rfl⟩), ((hv.front 3 rfl).sub (List.Sublist.cons_cons _ (List.Sublist.cons_cons _ (List.Sublist.cons _ (List.Sublist.cons _ (List.Sublist.refl _))))))⟩
 refine xG (.bool false) rfl (ex_eql rfl rfl rfl (decide_eq_false hb9)) ?_
 simp only [zP, po]
 refine xM (.bool false) rfl (xL (.agg #[.int .i64 x.kind, .string ⟨x.text.toArray⟩, xp, xt, xz]) rfl (run_load_mid (pre := []) (mid := [.int .i64 x.kind, .string ⟨x.text.toArray⟩, xp, xt, xz]) (post := []) s1wd35 (show Blk _ b2 ([] ++ [.int .i64 x.kind, .string ⟨x.text.toArray⟩, xp, xt, xz] ++ []) _ from hv.get 1 rfl) rfl) ?_)
 refine xC v1callable39 rfl ((valueSize B _ _ x xp xt xz hval hv).mono ?_) rfl
 rintro e w23 ⟨rfl, hv⟩
 refine ⟨_, rfl, ?_⟩
 simp only [zP, po]
 by_cases hb24 : (sizeV x : Int) > 0
 ·refine xG (.bool true) rfl (ex_gtr rfl rfl rfl (decide_eq_true hb24)) (xK false (.bool true) rfl ?_)
  simp only [zP, po]
  refine wK k8 (cT rfl ?_)
  refine sK fun _ k25 => rW mixed [6, 10, 11] [0,1,2,3,4,5,7,8,9,6,10,11] 48 rfl (by kernel_rfl) hv ?_
  simp only [qm, opAt]
  refine dM (.pointer (some ⟨v, 0, none⟩)) rfl (dG (.pointer (some ⟨v, 0, none⟩)) rfl (ex_nil rfl rfl) ?_)
  refine dG (.pointer (some ⟨v, 0, none⟩)) rfl (ex_field rfl rfl (v1fa61_0 _ _ _)) ?_
  simp only [zP, po]
  refine dF _ rfl (fun hv => ex_load rfl rfl (run_load1 v1na59 (hv.load 2 0 rfl rfl))) fun f26 hf26 => dM (.string ⟨key.toArray⟩) rfl (dL (.agg #[.int .i64 x.kind, .string ⟨x.text.toArray⟩, xp, xt, xz]) rfl (fun hv => ex_load rfl rfl (run_load_mid (pre := []) (mid := [.int .i64 x.kind, .string ⟨x.text.toArray⟩, xp, xt, xz]) (post := []) s1wd35 (show Blk _ b2 ([] ++ [.int .i64 x.kind, .string ⟨x.text.toArray⟩, xp, xt, xz] ++ []) _ from hv.get 1 rfl) rfl)) ?_)
  simp only [zP, po]
  refine dM (.int .i64 exp) rfl (dG (.iface 25 (.pointer (some ⟨t, 0, none⟩))) rfl (ex_nilI rfl rfl) ?_)
  refine dM (.iface 25 (.pointer (some ⟨t, 0, none⟩))) rfl ?_
  simp only [zP, po]
  refine dS rfl fun w27 hv => mC x2callable40 rfl ((valueClone _ _ _ x xp xt xz (hval.more (Base.Le.refl _)) hv).mono ?_) rfl
  rintro e w32 ⟨C28, p29, t30, z31, hC28, rfl, hp29, hv⟩
  refine ⟨_, rfl, dV hv (fC (fun ww hv => hf26 ww (ex_load rfl rfl (run_load1 v1na59 (hv.load 2 0 rfl rfl)))) fN) ?_⟩
  refine dS rfl fun w33 hv => ?_
  replace hv := hv.front 3 rfl
  simp only [List.eraseIdx_cons_succ, List.eraseIdx_cons_zero] at hv
  refine stepMem_callI v1callable25 rfl rfl rfl (r := .pointer (some ⟨t, 0, none⟩)) (fun w => by kernel_rfl) (args := #[.string ⟨key.toArray⟩, .agg #[.int .i64 x.kind, .string ⟨x.text.toArray⟩, p29, t30, z31], .int .i64 exp]) (by simp only [List.map_toArray, List.map_cons, List.map_nil]; rfl) ((txnPut C28 _ _ t m s p wb va vc sv clk es M key x p29 t30 z31 exp (hM.more hC28) hp29 hv).mono ?_)
  rintro e w34 ⟨D, es2, ec, hD, rfl, hput, hv⟩
  refine ⟨_, rfl, dV hv (fK rfl fN) ?_⟩
  refine dS rfl fun w35 hv => mV 1 (.int .i64 ec) rfl hv v1sz38 rfl rfl (fun w36 hv => ?_)
  simp only [zS, zO, sp] at hv
  refine dV hv (fK rfl fN) (dE fun w37 hv => ?_)
  simp only [zP, po]
  refine tK k25 (rR ?_)
  refine tR (leave_rec v1callable38 (v1rec38 _ _ _) (res_cell1 rfl rfl (run_load1 v1na38 (hv.load 1 0 rfl rfl))) ?_)
  have hfull : FullV x := .inr (by have h9 := hb24; unfold sizeV at h9; rw [if_neg hb9] at h9; omega)
  rcases hput with ⟨rfl, hok, hM2⟩ | ⟨rfl, hok, he9⟩
  ·exact ⟨_, _, _, 0, (hC28.trans hD), rfl, hM2, .inl ⟨hfull, hok, rfl, rfl⟩, ((hv.front 3 rfl).sub (List.Sublist.cons_cons _ (List.Sublist.cons_cons _ (List.Sublist.cons _ (List.Sublist.cons _ (List.Sublist.refl _))))))⟩
  rw [he9] at hv
  exact ⟨_, _, M, 2, (hC28.trans hD), rfl, hM.more (hC28.trans hD), .inr (.inl ⟨hfull, hok, rfl, rfl⟩), ((hv.front 3 rfl).sub (List.Sublist.cons_cons _ (List.Sublist.cons_cons _ (List.Sublist.cons _ (List.Sublist.cons _ (List.Sublist.refl _))))))⟩
 refine xG (.bool false) rfl (ex_gtr rfl rfl rfl (decide_eq_false hb24)) (xK false (.bool false) rfl ?_)
 simp only [zP, po]
 refine wK k8 (cF rfl ?_)
 refine kS (tK k7 ?_)
 refine sK fun _ k38 => sK fun _ k39 => rL (xM (.pointer (some ⟨v, 0, none⟩)) rfl ?_)
 refine xG (.pointer (some ⟨v, 0, none⟩)) rfl (ex_nil rfl rfl) (xF (.pointer (some ⟨v, 0, none⟩)) rfl (v1fa61_0 _ _ _) ?_)
 simp only [zP, po]
 refine xL _ rfl (run_load1 v1na59 (hv.load 2 0 rfl rfl)) (xM (.string ⟨key.toArray⟩) rfl ?_)
 replace hv := hv.front 3 rfl
 simp only [List.eraseIdx_cons_succ, List.eraseIdx_cons_zero] at hv
 refine wpi_callI v1callable26 tV wideC rfl (wn rfl) rfl rfl (r := .pointer (some ⟨t, 0, none⟩)) (fun w => by kernel_rfl) (args := #[.string ⟨key.toArray⟩]) (by simp only [List.map_toArray, List.map_cons, List.map_nil]; rfl) ((txnGet B _ _ t m s p wb va vc sv clk es M key hM hv).mono ?_)
 rintro e w40 ⟨C, x2, yp, yt, yz, ok, hBC, rfl, hget, hyv, hv⟩
 refine ⟨_, rfl, ?_⟩
 rcases hget with ⟨rfl, hlk, hal⟩ | ⟨rfl, hx0, hdead⟩
 ·simp only [zP, po]
  refine xM (.tuple #[.agg #[.int .i64 x2.stamp, .bool x2.gone, .int .i64 x2.expire, .int .i64 x2.val.kind, .string ⟨x2.val.text.toArray⟩, yp, yt, yz], .bool true]) rfl (xG (.agg #[.int .i64 x2.stamp, .bool x2.gone, .int .i64 x2.expire, .int .i64 x2.val.kind, .string ⟨x2.val.text.toArray⟩, yp, yt, yz]) rfl (ex_extract rfl rfl rfl) ?_)
  refine xG (.bool true) rfl (ex_extract rfl rfl rfl) ?_
  simp only [zP, po]
  refine sl_alloc tV (wn rfl) rfl hv v1al45 (fun b41 w42 hv => ?_)
  refine xS 0 rfl hv x0sz45 rfl (by exact ⟨rfl, rfl, rfl, rfl, rfl, hyv.p.one, hyv.t.one, hyv.z.one, trivial⟩) (fun w43 hv => ?_)
  simp only [zO, sp] at hv
  refine xA (.bool true) rfl ?_
  simp only [zP, po]
  refine wK k39 (sK fun _ k44 => ?_)
  refine rL (xM (.bool true) rfl ?_)
  simp only [zP, po]
  refine wK k44 (cT rfl ?_)
  refine sK fun _ k45 => rL (xM (.pointer (some ⟨v, 0, none⟩)) rfl ?_)
  refine xG (.pointer (some ⟨v, 0, none⟩)) rfl (ex_nil rfl rfl) (xF (.pointer (some ⟨v, 0, none⟩)) rfl (v1fa61_0 _ _ _) ?_)
  simp only [zP, po]
  refine xL _ rfl (run_load1 v1na59 (hv.load 4 0 rfl rfl)) (xM (.string ⟨key.toArray⟩) rfl ?_)
  refine sl_rowOne (v := .string ⟨key.toArray⟩) tV (wn rfl) rfl rfl hv v1el29 rfl (fun b46 w47 hv => ?_)
  simp only [zP, po]
  obtain ⟨D, hD, hv, hrk, -, -⟩ := (hv.cellRow (n := 1) (c := 1) (size := 1) rfl (by decide) (by decide)).rowBy
  replace hv := hv.front 1 rfl
  simp only [List.eraseIdx_cons_succ, List.eraseIdx_cons_zero] at hv
  refine wpi_callI v1callable27 tV wideC rfl (wn rfl) rfl rfl (r := .pointer (some ⟨t, 0, none⟩)) (fun w => by kernel_rfl) (args := #[.slice (some ⟨b46, 0, none⟩) 1 1]) (by simp only [List.map_toArray, List.map_cons, List.map_nil]; rfl) ((txnDel D _ _ t m s p wb va vc sv clk es M _ 1 [key] hrk (by simp) (hM.more (hBC.trans hD)) hv).mono ?_)
  rintro e w48 ⟨es2, ec, rfl, hdel, hv⟩
  refine ⟨_, rfl, ?_⟩
  refine xV 2 (.int .i64 ec) rfl hv v1sz38 rfl rfl (fun w49 hv => ?_)
  simp only [zS, zO, sp] at hv
  simp only [zP, po]
  refine wK k45 (rR ?_)
  refine tR (leave_rec v1callable38 (v1rec38 _ _ _) (res_cell1 rfl rfl (run_load1 v1na38 (hv.load 2 0 rfl rfl))) ?_)
  have hnf : ¬ FullV x := fun h => h.elim hb9 (fun h => by have h9 := hb24; unfold sizeV at h9; rw [if_neg hb9] at h9; omega)
  rcases hdel with ⟨rfl, hk, hM2⟩ | ⟨rfl, hk, he9⟩
  ·exact ⟨_, _, updA M key gver, 0, (hBC.trans hD), rfl, hM2, .inr (.inr (.inr ⟨hnf, ⟨x2, hlk, hal⟩, .inl ⟨by simpa using hk, rfl, rfl⟩⟩)), ((hv.front 4 rfl).sub (List.Sublist.cons_cons _ (List.Sublist.cons_cons _ (List.Sublist.cons _ (List.Sublist.cons _ (List.Sublist.cons _ (List.Sublist.refl _)))))))⟩
  rw [he9] at hv
  exact ⟨_, _, M, 2, (hBC.trans hD), rfl, hM.more (hBC.trans hD), .inr (.inr (.inr ⟨hnf, ⟨x2, hlk, hal⟩, .inr ⟨by simpa using hk, rfl, rfl⟩⟩)), ((hv.front 4 rfl).sub (List.Sublist.cons_cons _ (List.Sublist.cons_cons _ (List.Sublist.cons _ (List.Sublist.cons _ (List.Sublist.cons _ (List.Sublist.refl _)))))))⟩
 simp only [zP, po]
 refine xM (.tuple #[.agg #[.int .i64 x2.stamp, .bool x2.gone, .int .i64 x2.expire, .int .i64 x2.val.kind, .string ⟨x2.val.text.toArray⟩, yp, yt, yz], .bool false]) rfl (xG (.agg #[.int .i64 x2.stamp, .bool x2.gone, .int .i64 x2.expire, .int .i64 x2.val.kind, .string ⟨x2.val.text.toArray⟩, yp, yt, yz]) rfl (ex_extract rfl rfl rfl) ?_)
 refine xG (.bool false) rfl (ex_extract rfl rfl rfl) ?_
 simp only [zP, po]
 refine sl_alloc tV (wn rfl) rfl hv v1al45 (fun b50 w51 hv => ?_)
 refine xS 0 rfl hv x0sz45 rfl (by exact ⟨rfl, rfl, rfl, rfl, rfl, hyv.p.one, hyv.t.one, hyv.z.one, trivial⟩) (fun w52 hv => ?_)
 simp only [zO, sp] at hv
 refine xA (.bool false) rfl ?_
 simp only [zP, po]
 refine wK k39 (sK fun _ k53 => ?_)
 refine rL (xM (.bool false) rfl ?_)
 simp only [zP, po]
 refine wK k53 (cF rfl ?_)
 refine kS (tK k38 ?_)
 refine sK fun _ k54 => rL (xV 2 (.int .i64 0) rfl hv v1sz38 rfl rfl (fun w55 hv => ?_))
 simp only [zS, zO, sp] at hv
 simp only [zP, po]
 refine wK k54 (rR ?_)
 refine leave_rec v1callable38 (v1rec38 _ _ _) (res_cell1 rfl rfl (run_load1 v1na38 (hv.load 2 0 rfl rfl))) ?_
 have hnf : ¬ FullV x := fun h => h.elim hb9 (fun h => by have h9 := hb24; unfold sizeV at h9; rw [if_neg hb9] at h9; omega)
 exact ⟨_, _, M, 0, hBC, rfl, hM.more hBC, .inr (.inr (.inl ⟨hnf, hdead, rfl, rfl⟩)), (((hv.front 1 rfl).front 4 rfl).sub (List.Sublist.cons_cons _ (List.Sublist.cons_cons _ (List.Sublist.cons _ (List.Sublist.cons _ (List.Sublist.cons _ (List.Sublist.refl _)))))))⟩
end Go.Proofs.YtkoghbmjbobfjaaGreat
/- The order of texts, octet by octet. -/
namespace Go.Pm
open Go.RowKit
section
variable {P : Program} {a : Act} {w : World} {o : Oper} {t : TypeId} {x y : Operand} {l : List UInt8}
theorem ex_sidx0 {i : Nat} {c : UInt8} (ht : P.underlying t = some .string) (ho : o.op = .index t x y) (hx : a.eval x = .string ⟨l.toArray⟩) (hy : a.eval y = .int .i64 (i : Int)) (hc : l[i]? = some c) : Ex P a o w (.int .u8 (c.toNat : Int)) w := by
 obtain ⟨hi, rfl⟩ := List.getElem?_eq_some_iff.1 hc
 have h := run_index_string (P := P) w t ⟨l.toArray⟩ .i64 (i : Int) ht
 rw [dif_pos ⟨by omega, by show (i : Int) < (l.length : Int); omega⟩] at h
 have e : (⟨l.toArray⟩ : ByteArray)[((i : Int)).toNat]'(by show ((i : Int)).toNat < l.length; omega) = l[i] := rfl
 rw [e] at h
 unfold Ex
 simp [execOp, ho, hx, hy, h]
end
theorem less_pre (l a b : List UInt8) : Op.bytesLess (l ++ a) (l ++ b) = Op.bytesLess a b := by
 induction l with
 | nil => rfl
 | cons x l ih =>
  rw [List.cons_append, List.cons_append]
  simp only [Op.bytesLess, ih]
  simp
section
variable {a b : List UInt8} {i : Nat}
theorem less_at {x y : UInt8} (h : a.take i = b.take i) (hx : a[i]? = some x) (hy : b[i]? = some y) (hne : x ≠ y) : Op.bytesLess a b = decide (x.toNat < y.toNat) := by
 obtain ⟨hi, rfl⟩ := List.getElem?_eq_some_iff.1 hx
 obtain ⟨hj, rfl⟩ := List.getElem?_eq_some_iff.1 hy
 conv => lhs; rw [← List.take_append_drop i a, ← List.take_append_drop i b, h, less_pre, List.drop_eq_getElem_cons hi, List.drop_eq_getElem_cons hj]
 have hb : (a[i] == b[i]) = false := beq_eq_false_iff_ne.2 hne
 simp only [Op.bytesLess, hb, Bool.false_and, Bool.or_false]
 exact decide_eq_decide.2 UInt8.lt_iff_toNat_lt
theorem less_end (h : a.take i = b.take i) (he : i = a.length ∨ i = b.length) (h1 : i ≤ a.length) (h2 : i ≤ b.length) : Op.bytesLess a b = decide (a.length < b.length) := by
 conv => lhs; rw [← List.take_append_drop i a, ← List.take_append_drop i b, h, less_pre]
 rcases he with he | he
 ·rw [he, List.drop_length]
  cases hb : b.drop a.length with
  | nil =>
   have := congrArg List.length hb
   rw [List.length_drop, List.length_nil] at this
   rw [decide_eq_false (by omega)]; rfl
  | cons y l =>
   have := congrArg List.length hb
   rw [List.length_drop, List.length_cons] at this
   rw [decide_eq_true (by omega)]; rfl
 rw [he, List.drop_length, decide_eq_false (by omega)]
 cases a.drop b.length <;> rfl
theorem take_step {x : UInt8} (h : a.take i = b.take i) (hx : a[i]? = some x) (hy : b[i]? = some x) : a.take (i + 1) = b.take (i + 1) := by
 rw [List.take_add_one, List.take_add_one, h, hx, hy]
end
end Go.Pm
/- view.Is. -/
namespace Go.Proofs.YtkoghbmjbobfjaaGreat
open Go.RowKit Go.Pm
def lowZ (n : Int) : Int := if 65 ≤ n ∧ n ≤ 90 then n + 32 else n
def SameC (x arg : List UInt8) : Prop := x.length = arg.length ∧ ∀ (k : Nat) (a b : UInt8), x[k]? = some a → arg[k]? = some b → lowZ (a.toNat : Int) = lowZ (b.toNat : Int)
def IsI (arg : List UInt8) (ws : List (List UInt8)) (r : Int) : Prop := (r = -1 ∧ ∀ x ∈ ws, ¬ SameC x arg) ∨ ∃ (i : Nat) (x : List UInt8), r = (i : Int) ∧ ws[i]? = some x ∧ SameC x arg ∧ ∀ (j : Nat) y, j < i → ws[j]? = some y → ¬ SameC y arg
set_option maxHeartbeats 2000000 in
theorem viewLow (B : Base) (H : List Res) (w : World) (n : Int) (h0 : 0 ≤ n) (h1 : n ≤ 255) (hv : Inv B H w) :
  Calls Tryz.prog 60 #[.int .u8 n] w fun e w' => e = .returned (.int .u8 (lowZ n)) ∧ Inv B H w' := by
 refine cW Tryz.func60 rfl Tryz.ntmps60 ?_
 simp only [al]
 refine sK fun _ k1 => rL (xA (.int .u8 0) rfl ?_)
 simp only [zP, po]
 refine wK k1 (sK fun _ k2 => ?_)
 refine sK fun _ k3 => rL (xM (.int .u8 n) rfl ?_)
 by_cases hb4 : 65 ≤ n
 ·refine xG (.bool true) rfl (ex_leq rfl rfl rfl (decide_eq_true hb4)) (xM (.bool true) rfl ?_)
  simp only [zP, po]
  refine xM (.int .u8 n) rfl ?_
  by_cases hb5 : n ≤ 90
  ·refine xG (.bool true) rfl (ex_leq rfl rfl rfl (decide_eq_true hb5)) (xK true (.bool true) rfl ?_)
   simp only [zP, po]
   refine wK k3 (cT rfl ?_)
   refine sK fun _ k6 => rL (xM (.int .u8 n) rfl ?_)
   refine xG (.int .u8 (n + 97)) rfl (ex_add rfl rfl rfl (u8_in (by omega))) (xG (.int .u8 (n + 32)) rfl (ex_sub rfl rfl rfl (by rw [u8_in (by omega)]; omega)) ?_)
   simp only [zP, po]
   refine xA (.int .u8 (n + 32)) rfl ?_
   simp only [zP, po]
   refine wK k6 (rR ?_)
   refine tR (bR rfl rfl ?_)
   exact ⟨congrArg (fun n : Int => Ending.returned (Value.int .u8 n)) (by unfold lowZ; split <;> omega), hv⟩
  refine xG (.bool false) rfl (ex_leq rfl rfl rfl (decide_eq_false hb5)) (xK true (.bool false) rfl ?_)
  simp only [zP, po]
  refine wK k3 (cF rfl ?_)
  refine kS (tK k2 ?_)
  refine sK fun _ k7 => rL (xM (.int .u8 n) rfl ?_)
  refine xA (.int .u8 n) rfl ?_
  simp only [zP, po]
  refine wK k7 (rR ?_)
  refine bR rfl rfl (⟨congrArg (fun n : Int => Ending.returned (Value.int .u8 n)) (by unfold lowZ; split <;> omega), hv⟩)
 refine xG (.bool false) rfl (ex_leq rfl rfl rfl (decide_eq_false hb4)) (xM (.bool false) rfl ?_)
 simp only [zP, po]
 iterate 2 refine yN rfl ?_
 refine xK false (.bool false) rfl ?_
 simp only [zP, po]
 refine wK k3 (cF rfl ?_)
 refine kS (tK k2 ?_)
 refine sK fun _ k8 => rL (xM (.int .u8 n) rfl ?_)
 refine xA (.int .u8 n) rfl ?_
 simp only [zP, po]
 refine wK k8 (rR ?_)
 refine bR rfl rfl (⟨congrArg (fun n : Int => Ending.returned (Value.int .u8 n)) (by unfold lowZ; split <;> omega), hv⟩)
theorem v5callable60 : Callable Tryz.prog 60 := ⟨_, Tryz.func60, by kernel_rfl, by kernel_rfl⟩
set_option maxHeartbeats 4000000 in
theorem viewIs (B : Base) (H : List Res) (w : World) (arg : List UInt8) (ka : Option Addr) (kc : Nat) (ws : List (List UInt8)) (hr : RdV B [] ka (textCells ws)) (hm : ws.length ≤ 1000000) (hma : arg.length ≤ 1000000000) (hv : Inv B H w) :
  Calls Tryz.prog 33 #[.string ⟨arg.toArray⟩, .slice ka ws.length kc] w fun e w' => ∃ r : Int, e = .returned (.int .i64 r) ∧ IsI arg ws r ∧ Inv B H w' := by
 refine cW Tryz.func33 rfl Tryz.ntmps33 ?_
 simp only [al]
 refine sK fun _ k1 => rL (xA (.int .i64 0) rfl ?_)
 simp only [zP, po]
 refine wK k1 (wpIn_scopeW ?_)
 refine sK fun _ k2 => wpIn_label (tK k2 ?_)
 refine sK fun _ k3 => sK fun _ k4 => rL (xM (.slice ka ws.length kc) rfl ?_)
 refine xG (.int .i64 (ws.length : Int)) rfl (ex_len0 Tryz.underlying29 rfl rfl) (xM (.int .i64 0) rfl ?_)
 simp only [zP, po]
 refine wK k4 (bB ?_)
 gi_loopw [10] (fun x10 wr => ∃ (i : Nat), x10 = .int .i64 (i : Int) ∧ i ≤ ws.length ∧ (∀ (j : Nat) y, j < i → ws[j]? = some y → ¬ SameC y arg) ∧ Inv B H wr) (fun x10 _ => ws.length - (intOf x10).toNat)
 case atStart => exact ⟨0, rfl, Nat.zero_le _, fun j y h => by omega, hv⟩
 case round =>
  obtain ⟨i, rfl, hi, hno, hv⟩ := hrel
  refine sK fun _ k6 => rL ?_
  by_cases hb7 : (i : Int) < (ws.length : Int)
  ·refine xG (.bool true) rfl (ex_lss rfl rfl rfl (decide_eq_true hb7)) ?_
   simp only [zP, po]
   refine wK k6 (sK fun _ k8 => ?_)
   refine cT rfl (kS ?_)
   refine tK k8 (sK fun _ k9 => ?_)
   refine bB (sK fun _ k10 => ?_)
   obtain ⟨x, hx⟩ : ∃ x, ws[i]? = some x := ⟨_, List.getElem?_eq_getElem (show i < ws.length by omega)⟩
   obtain ⟨bb, bo, had, hrdx⟩ := text_reads hr hx
   subst had
   refine rL (xM (.int .i64 (i : Int)) rfl ?_)
   refine xG (.pointer (some ⟨bb, bo + i, none⟩)) rfl (ex_index rfl rfl rfl (run_idx1 (k := i) Tryz.underlying29 s9es29 (by omega))) (xL _ rfl (run_load1 s9na9 (hrdx _ _ _ (Base.Le.refl _) no_res hv 0 _ rfl)) ?_)
   simp only [zP, po]
   refine xA (.int .i64 (i : Int)) rfl (xA (.string ⟨x.toArray⟩) rfl ?_)
   simp only [zP, po]
   refine wK k10 (sK fun _ k11 => ?_)
   refine sK fun _ k12 => rL (xM (.string ⟨x.toArray⟩) rfl ?_)
   refine xG (.int .i64 (x.length : Int)) rfl (ex_lenStr Tryz.underlying9 rfl rfl) (xM (.string ⟨arg.toArray⟩) rfl ?_)
   simp only [zP, po]
   refine xG (.int .i64 (arg.length : Int)) rfl (ex_lenStr Tryz.underlying9 rfl rfl) ?_
   by_cases hb13 : (x.length : Int) ≠ (arg.length : Int)
   ·refine xG (.bool true) rfl (ex_neq rfl rfl rfl (decide_eq_true hb13)) ?_
    simp only [zP, po]
    refine wK k12 (cT rfl ?_)
    refine xE (tX ?_)
    refine bH (tK k9 ?_)
    refine rL (xG (.int .i64 ((i + 1 : Nat) : Int)) rfl (ex_add rfl rfl rfl (by rw [i64_in (by omega)]; omega)) ?_)
    refine xM (.int .i64 ((i + 1 : Nat) : Int)) rfl (wL ?_)
    simp only [zP, po]
    refine then_normal ?_
    go_roundw
    case rel => exact ⟨i + 1, rfl, by omega, fun j9 y9 hj9 hy9 => (by
       rcases Nat.lt_or_ge j9 i with h | h
       ·exact hno j9 y9 h hy9
       obtain rfl : j9 = i := by omega
       rw [hx] at hy9; cases hy9
       exact fun h => by have h9 := h.1; omega), hv⟩
    case measure => show ws.length - (((i + 1 : Nat) : Int)).toNat < ws.length - ((i : Int)).toNat; omega
   refine xG (.bool false) rfl (ex_neq rfl rfl rfl (decide_eq_false hb13)) ?_
   simp only [zP, po]
   refine wK k12 (cF rfl ?_)
   refine kS (tK k11 ?_)
   refine sK fun _ k14 => sK fun _ k15 => rL (xM (.string ⟨x.toArray⟩) rfl ?_)
   refine xG (.int .i64 (x.length : Int)) rfl (ex_lenStr Tryz.underlying9 rfl rfl) (xM (.int .i64 0) rfl ?_)
   simp only [zP, po]
   refine wK k15 (bB ?_)
   gi_loopw [22] (fun x22 wr => ∃ (j : Nat), x22 = .int .i64 (j : Int) ∧ j ≤ x.length ∧ (∀ (k : Nat) (a b : UInt8), k < j → x[k]? = some a → arg[k]? = some b → lowZ (a.toNat : Int) = lowZ (b.toNat : Int)) ∧ Inv B H wr) (fun x22 _ => x.length - (intOf x22).toNat)
   case atStart => exact ⟨0, rfl, Nat.zero_le _, fun k a b h => by omega, hv⟩
   case round =>
    obtain ⟨j, rfl, hj, heq, hv⟩ := hrel
    refine sK fun _ k17 => rL ?_
    by_cases hb18 : (j : Int) < (x.length : Int)
    ·refine xG (.bool true) rfl (ex_lss rfl rfl rfl (decide_eq_true hb18)) ?_
     simp only [zP, po]
     refine wK k17 (sK fun _ k19 => ?_)
     refine cT rfl (kS ?_)
     refine tK k19 (sK fun _ k20 => ?_)
     refine bB (sK fun _ k21 => ?_)
     refine rL (xM (.int .i64 (j : Int)) rfl ?_)
     refine xA (.int .i64 (j : Int)) rfl ?_
     simp only [zP, po]
     refine wK k21 (sK fun _ k22 => ?_)
     obtain ⟨a, ha⟩ : ∃ y, x[j]? = some y := ⟨_, List.getElem?_eq_getElem (show j < x.length by omega)⟩
     obtain ⟨b, hb⟩ : ∃ y, arg[j]? = some y := ⟨_, List.getElem?_eq_getElem (show j < arg.length by omega)⟩
     refine rW mixed [3, 7] [0,1,2,4,5,6,3,7,8] 37 rfl (by kernel_rfl) hv ?_
     simp only [qm, opAt]
     refine dM (.string ⟨x.toArray⟩) rfl (dM (.int .i64 (j : Int)) rfl ?_)
     refine dG (.int .u8 (a.toNat : Int)) rfl (ex_sidx0 Tryz.underlying9 rfl rfl rfl ha) ?_
     simp only [zP, po]
     refine dM (.string ⟨arg.toArray⟩) rfl (dM (.int .i64 (j : Int)) rfl ?_)
     refine dG (.int .u8 (b.toNat : Int)) rfl (ex_sidx0 Tryz.underlying9 rfl rfl rfl hb) ?_
     simp only [zP, po]
     refine dS rfl fun w23 hv => mC v5callable60 rfl ((viewLow B _ _ (a.toNat : Int) (by omega) (by have := a.toNat_lt; omega) hv).mono ?_) rfl
     rintro e w24 ⟨rfl, hv⟩
     refine ⟨_, rfl, dW hv ?_⟩
     refine dS rfl fun w25 hv => mC v5callable60 rfl ((viewLow B _ _ (b.toNat : Int) (by omega) (by have := b.toNat_lt; omega) hv).mono ?_) rfl
     rintro e w26 ⟨rfl, hv⟩
     refine ⟨_, rfl, dW hv ?_⟩
     by_cases hb27 : (lowZ (a.toNat : Int)) ≠ (lowZ (b.toNat : Int))
     ·refine dG (.bool true) rfl (ex_neq rfl rfl rfl (decide_eq_true hb27)) (dE fun w28 hv => ?_)
      simp only [zP, po]
      refine tK k22 (cT rfl ?_)
      refine xE (bM rfl ?_)
      refine tX (tX ?_)
      refine bM rfl (tX ?_)
      refine bH (tK k9 ?_)
      refine rL (xG (.int .i64 ((i + 1 : Nat) : Int)) rfl (ex_add rfl rfl rfl (by rw [i64_in (by omega)]; omega)) ?_)
      refine xM (.int .i64 ((i + 1 : Nat) : Int)) rfl (wL ?_)
      simp only [zP, po]
      refine then_normal ?_
      go_roundw
      case rel => exact ⟨i + 1, rfl, by omega, fun j9 y9 hj9 hy9 => (by
         rcases Nat.lt_or_ge j9 i with h | h
         ·exact hno j9 y9 h hy9
         obtain rfl : j9 = i := by omega
         rw [hx] at hy9; cases hy9
         exact fun h => hb27 (h.2 j a b ha hb)), hv⟩
      case measure => show ws.length - (((i + 1 : Nat) : Int)).toNat < ws.length - ((i : Int)).toNat; omega
     refine dG (.bool false) rfl (ex_neq rfl rfl rfl (decide_eq_false hb27)) (dE fun w29 hv => ?_)
     simp only [zP, po]
     refine tK k22 (cF rfl ?_)
     refine kS (bN ?_)
     refine tK k20 (rL ?_)
     refine xG (.int .i64 ((j + 1 : Nat) : Int)) rfl (ex_add rfl rfl rfl (by rw [i64_in (by omega)]; omega)) (xM (.int .i64 ((j + 1 : Nat) : Int)) rfl ?_)
     refine wL ?_
     simp only [zP, po]
     refine then_normal ?_
     go_roundw
     case rel => exact ⟨j + 1, rfl, by omega, fun k9 a9 b9 hk9 ha9 hb9 => (by
        rcases Nat.lt_or_ge k9 j with h | h
        ·exact heq k9 a9 b9 h ha9 hb9
        obtain rfl : k9 = j := by omega
        rw [ha] at ha9; cases ha9
        rw [hb] at hb9; cases hb9
        omega), hv⟩
     case measure => show x.length - (((j + 1 : Nat) : Int)).toNat < x.length - ((j : Int)).toNat; omega
    refine xG (.bool false) rfl (ex_lss rfl rfl rfl (decide_eq_false hb18)) ?_
    simp only [zP, po]
    refine wK k17 (sK fun _ k30 => ?_)
    refine cF rfl (xE ?_)
    refine tX (tX ?_)
    refine bH (tK k14 ?_)
    refine sK fun _ k31 => rL (xM (.int .i64 (i : Int)) rfl ?_)
    refine xA (.int .i64 (i : Int)) rfl ?_
    simp only [zP, po]
    refine wK k31 (rR ?_)
    refine bE (tR ?_)
    refine tR (bE ?_)
    refine tR (scope_ret ?_)
    refine bR rfl rfl (⟨_, rfl, .inr ⟨i, x, rfl, hx, ⟨by omega, fun k9 a9 b9 ha9 hb9 => heq k9 a9 b9 (by have := (List.getElem?_eq_some_iff.1 ha9).1; omega) ha9 hb9⟩, hno⟩, hv⟩)
  refine xG (.bool false) rfl (ex_lss rfl rfl rfl (decide_eq_false hb7)) ?_
  simp only [zP, po]
  refine wK k6 (sK fun _ k32 => ?_)
  refine cF rfl (xE ?_)
  refine tX (tX ?_)
  refine bH (tK k3 ?_)
  refine sK fun _ k33 => rL (xA (.int .i64 (-1)) rfl ?_)
  simp only [zP, po]
  refine wK k33 (rR ?_)
  refine scope_ret (bR rfl rfl ?_)
  obtain rfl : i = ws.length := by omega
  exact ⟨_, rfl, .inl ⟨rfl, fun y hy => (by obtain ⟨j9, hj9⟩ := List.mem_iff_getElem?.1 hy; exact hno j9 y (List.getElem?_eq_some_iff.1 hj9).1 hj9)⟩, hv⟩
end Go.Proofs.YtkoghbmjbobfjaaGreat
/- Rules for a row out of which an element is taken in place. -/
namespace Go.Pm
open Go.RowKit
section
variable {P : Program} {t e : TypeId} {w : World}
end
section
variable {P : Program} {ops : Array Oper} {Q : Exit → Act → World → Prop} {a : Act} {w : World} {o : Oper} {B : Base} {H : List Res} {t e u : TypeId} {x y : Operand} {size : Nat} {J : List Value → World → Prop} {vals : List Value}
end
end Go.Pm
/- Transactions: Rollback, Active. -/
namespace Go.Proofs.YtkoghbmjbobfjaaGreat
open Go.RowKit Go.Pm
end Go.Proofs.YtkoghbmjbobfjaaGreat
/- Views: New, Text; law 20's opened and awake. -/
namespace Go.Proofs.YtkoghbmjbobfjaaGreat
open Go.RowKit Go.Pm
set_option maxHeartbeats 2000000 in
theorem viewNew (B : Base) (H : List Res) (w : World) (t : Nat) (hv : Inv B H w) :
  Calls Tryz.prog 17 #[.iface 25 (.pointer (some ⟨t, 0, none⟩))] w fun e w' => ∃ v, e = .returned (.tuple #[.pointer (some ⟨v, 0, none⟩), .int .i64 0]) ∧ Inv B (Res.cell v [.iface 25 (.pointer (some ⟨t, 0, none⟩))] 61 :: H) w' := by
 refine cW Tryz.func17 rfl Tryz.ntmps17 ?_
 simp only [al]
 refine sK fun _ k1 => rL (xA (.pointer none) rfl ?_)
 refine xA (.int .i64 0) rfl ?_
 simp only [zP, po]
 refine wK k1 (sK fun _ k2 => ?_)
 refine sK fun _ k3 => rL (xM (.iface 25 (.pointer (some ⟨t, 0, none⟩))) rfl ?_)
 refine xG (.bool false) rfl (ex_ifnil Tryz.underlying59 rfl rfl rfl) ?_
 simp only [zP, po]
 refine wK k3 (cF rfl ?_)
 refine kS (tK k2 ?_)
 refine sK fun _ k4 => rL (xM (.iface 25 (.pointer (some ⟨t, 0, none⟩))) rfl ?_)
 refine xG (.agg #[.iface 25 (.pointer (some ⟨t, 0, none⟩))]) rfl (ex_buildN (vs := #[(0, .iface 25 (.pointer (some ⟨t, 0, none⟩)))]) rfl (by simp only [List.map_toArray, List.map_cons, List.map_nil]; rfl) (by kernel_rfl)) (sl_box (L := [.iface 25 (.pointer (some ⟨t, 0, none⟩))]) tV (wn rfl) rfl rfl hv (fun w => by kernel_rfl) (fun b5 w6 hv => ?_))
 simp only [zP, po]
 refine xA (.pointer (some ⟨b5, 0, none⟩)) rfl (xA (.int .i64 0) rfl ?_)
 simp only [zP, po]
 refine wK k4 (rR ?_)
 refine bodyPost_ret (results_tmp2 rfl _ _ _) rfl (⟨_, rfl, hv⟩)
set_option maxHeartbeats 2000000 in
theorem viewNewNil (B : Base) (H : List Res) (w : World) (hv : Inv B H w) :
  Calls Tryz.prog 17 #[.nilIface] w fun e w' => e = .returned (.tuple #[.pointer none, .int .i64 1]) ∧ Inv B H w' := by
 refine cW Tryz.func17 rfl Tryz.ntmps17 ?_
 simp only [al]
 refine sK fun _ k1 => rL (xA (.pointer none) rfl ?_)
 refine xA (.int .i64 0) rfl ?_
 simp only [zP, po]
 refine wK k1 (sK fun _ k2 => ?_)
 refine sK fun _ k3 => rL (xM (.nilIface) rfl ?_)
 refine xG (.bool true) rfl (ex_ifnn Tryz.underlying59 rfl rfl rfl) ?_
 simp only [zP, po]
 refine wK k3 (cT rfl ?_)
 refine sK fun _ k4 => rL (xA (.pointer none) rfl ?_)
 refine xA (.int .i64 1) rfl ?_
 simp only [zP, po]
 refine wK k4 (rR ?_)
 refine tR (bodyPost_ret (results_tmp2 rfl _ _ _) rfl ?_)
 exact ⟨rfl, hv⟩
theorem v6callable22 : Callable Tryz.prog 22 := ⟨_, Tryz.func22, by kernel_rfl, by kernel_rfl⟩
theorem v6callable21 : Callable Tryz.prog 21 := ⟨_, Tryz.func21, by kernel_rfl, by kernel_rfl⟩
theorem v6callable34 : Callable Tryz.prog 34 := ⟨_, Tryz.func34, by kernel_rfl, by kernel_rfl⟩
theorem v6callable23 : Callable Tryz.prog 23 := ⟨_, Tryz.func23, by kernel_rfl, by kernel_rfl⟩
theorem v6callable17 : Callable Tryz.prog 17 := ⟨_, Tryz.func17, by kernel_rfl, by kernel_rfl⟩
set_option maxHeartbeats 2000000 in
theorem lawOpened20 (B : Base) (H : List Res) (w : World) (now : Int) (h0 : 0 ≤ now) (h1 : now ≤ 1099511627776) (hv : Inv B H w) :
  Calls Tryz.prog 6 #[.int .i64 now] w fun e w' => ∃ v t m s p wb va vc sv, e = .returned (.tuple #[.pointer (some ⟨v, 0, none⟩), .pointer (some ⟨t, 0, none⟩)]) ∧ Inv B (Res.cell v [.iface 25 (.pointer (some ⟨t, 0, none⟩))] 61 :: txR t m s p wb va vc sv now [] :: H) w' := by
 refine cW Tryz.func6 rfl Tryz.ntmps6 ?_
 simp only [al]
 refine sK fun _ k1 => rL (xA (.pointer none) rfl ?_)
 refine xA (.pointer none) rfl ?_
 simp only [zP, po]
 refine wK k1 (sK fun _ k2 => ?_)
 refine rL (xC v6callable22 rfl ((storeNew0 B _ _ hv).mono ?_) rfl)
 rintro e w3 ⟨s, p, rfl, hv⟩
 refine ⟨_, rfl, ?_⟩
 refine xG (.agg #[]) rfl (ex_buildN (vs := #[]) rfl (by simp only [List.map_toArray, List.map_nil]) (by kernel_rfl)) (xG (.iface 94 (.agg #[])) rfl (ex_iface Tryz.underlying94 (fun _ h => by cases h) rfl rfl) ?_)
 simp only [zP, po]
 refine xC v6callable21 rfl ((txnNew0 B _ _ s 94 (.agg #[]) hv).mono ?_) rfl
 rintro e w4 ⟨m, rfl, hv⟩
 refine ⟨_, rfl, ?_⟩
 obtain ⟨sv, hsv⟩ : ∃ sv, sv = Value.iface 94 (.agg #[]) := ⟨_, rfl⟩
 rw [← hsv] at hv
 refine xM (.tuple #[.pointer (some ⟨m, 0, none⟩), .int .i64 0]) rfl (xG (.pointer (some ⟨m, 0, none⟩)) rfl (ex_extract rfl rfl rfl) ?_)
 simp only [zP, po]
 refine xG (.int .i64 0) rfl (ex_extract rfl rfl rfl) (xA (.pointer (some ⟨m, 0, none⟩)) rfl ?_)
 refine xA (.int .i64 0) rfl ?_
 simp only [zP, po]
 refine wK k2 (sK fun _ k5 => ?_)
 refine sK fun _ k6 => rL (xM (.pointer (some ⟨m, 0, none⟩)) rfl ?_)
 refine xG (.bool false) rfl (ex_pisnil Tryz.underlying65 rfl rfl rfl rfl) ?_
 simp only [zP, po]
 refine wK k6 (cF rfl ?_)
 refine kS (tK k5 ?_)
 refine sK fun _ k7 => rL (xM (.pointer (some ⟨m, 0, none⟩)) rfl ?_)
 refine xM (.int .i64 now) rfl (xC v6callable34 rfl ((txnTick0 B _ _ m s sv now h0 h1 hv).mono ?_) rfl)
 rintro e w8 ⟨r9, rfl, hv⟩
 refine ⟨_, rfl, ?_⟩
 simp only [zP, po]
 refine wK k7 (sK fun _ k9 => ?_)
 refine rL (xM (.pointer (some ⟨m, 0, none⟩)) rfl ?_)
 replace hv := hv.front 2 rfl
 simp only [List.eraseIdx_cons_succ, List.eraseIdx_cons_zero] at hv
 replace hv := hv.front 2 rfl
 simp only [List.eraseIdx_cons_succ, List.eraseIdx_cons_zero] at hv
 replace hv := hv.front 2 rfl
 simp only [List.eraseIdx_cons_succ, List.eraseIdx_cons_zero] at hv
 refine xC v6callable23 rfl ((txnBegin B _ _ m s p sv now hv).mono ?_) rfl
 rintro e w10 ⟨t, wb, va, vc, rfl, hv⟩
 refine ⟨_, rfl, ?_⟩
 refine xM (.tuple #[.pointer (some ⟨t, 0, none⟩), .int .i64 0]) rfl ?_
 simp only [zP, po]
 refine xG (.pointer (some ⟨t, 0, none⟩)) rfl (ex_extract rfl rfl rfl) (xG (.int .i64 0) rfl (ex_extract rfl rfl rfl) ?_)
 refine xA (.pointer (some ⟨t, 0, none⟩)) rfl ?_
 simp only [zP, po]
 refine xA (.int .i64 0) rfl ?_
 simp only [zP, po]
 refine wK k9 (sK fun _ k11 => ?_)
 refine sK fun _ k12 => rL (xM (.pointer (some ⟨t, 0, none⟩)) rfl ?_)
 refine xG (.bool false) rfl (ex_pisnil Tryz.underlying25 rfl rfl rfl rfl) ?_
 simp only [zP, po]
 refine wK k12 (cF rfl ?_)
 refine kS (tK k11 ?_)
 refine sK fun _ k13 => rL (xM (.pointer (some ⟨t, 0, none⟩)) rfl ?_)
 refine xG (.iface 25 (.pointer (some ⟨t, 0, none⟩))) rfl (ex_iface Tryz.underlying25 (fun _ h => by cases h) rfl rfl) (xC v6callable17 rfl ((viewNew B _ _ t hv).mono ?_) rfl)
 rintro e w14 ⟨v, rfl, hv⟩
 refine ⟨_, rfl, ?_⟩
 simp only [zP, po]
 refine xM (.tuple #[.pointer (some ⟨v, 0, none⟩), .int .i64 0]) rfl (xG (.pointer (some ⟨v, 0, none⟩)) rfl (ex_extract rfl rfl rfl) ?_)
 refine xG (.int .i64 0) rfl (ex_extract rfl rfl rfl) ?_
 simp only [zP, po]
 refine xA (.pointer (some ⟨v, 0, none⟩)) rfl (xA (.int .i64 0) rfl ?_)
 simp only [zP, po]
 refine wK k13 (sK fun _ k15 => ?_)
 refine rL (xM (.pointer (some ⟨v, 0, none⟩)) rfl ?_)
 refine xM (.pointer (some ⟨t, 0, none⟩)) rfl (xA (.pointer (some ⟨v, 0, none⟩)) rfl ?_)
 simp only [zP, po]
 refine xA (.pointer (some ⟨t, 0, none⟩)) rfl ?_
 simp only [zP, po]
 refine wK k15 (rR ?_)
 refine bodyPost_ret (results_tmp2 rfl _ _ _) rfl (⟨v, t, m, s, p, wb, va, vc, sv, rfl, hv⟩)
theorem v6al45 (w : World) : (Instr.alloc 45 true (.tuple #[])).run Tryz.prog w = .ok (.pointer (some ⟨w.heap.size, 0, none⟩)) (w.alloc (.cells ([.int .i64 0, .bool false, .int .i64 0, .int .i64 0, .string ⟨([] : List UInt8).toArray⟩, .slice none 0 0, .slice none 0 0, .slice none 0 0] : List Value).toArray 45)) := by kernel_rfl
theorem v6callable13 : Callable Tryz.prog 13 := ⟨_, Tryz.func13, by kernel_rfl, by kernel_rfl⟩
set_option maxHeartbeats 2000000 in
theorem viewText (B : Base) (H : List Res) (w : World) (v t m s p wb : Nat) (va : Option Addr) (vc : Nat) (sv : Value) (clk : Int) (es : List (List UInt8 × Value)) (M : List (List UInt8 × Ver)) (key : List UInt8) (hM : VM B es M) (hv : Inv B (Res.cell v [.iface 25 (.pointer (some ⟨t, 0, none⟩))] 61 :: txR t m s p wb va vc sv clk es :: H) w) :
  Calls Tryz.prog 32 #[.pointer (some ⟨v, 0, none⟩), .string ⟨key.toArray⟩] w fun e w' => ∃ C y p' t' z' ec, B.Le C ∧ e = .returned (.tuple #[.agg (verCells y p' t' z').toArray, .int .i64 ec]) ∧ ValAt C y.val p' t' z' ∧ OfI M clk key 1 y ec ∧ Inv C (Res.cell v [.iface 25 (.pointer (some ⟨t, 0, none⟩))] 61 :: txR t m s p wb va vc sv clk es :: H) w' := by
 refine cW Tryz.func32 rfl Tryz.ntmps32 ?_
 simp only [al]
 refine sK fun _ k1 => rL (sl_alloc tV (wn rfl) rfl hv v6al45 (fun b2 w3 hv => ?_))
 refine xA (.int .i64 0) rfl ?_
 simp only [zP, po]
 refine wK k1 (sK fun _ k4 => ?_)
 refine rL (xM (.pointer (some ⟨v, 0, none⟩)) rfl ?_)
 refine xM (.string ⟨key.toArray⟩) rfl ?_
 replace hv := hv.front 2 rfl
 simp only [List.eraseIdx_cons_succ, List.eraseIdx_cons_zero] at hv
 replace hv := hv.front 2 rfl
 simp only [List.eraseIdx_cons_succ, List.eraseIdx_cons_zero] at hv
 refine xC v6callable13 rfl ((viewOf B _ _ v t m s p wb va vc sv clk es M key 1 hM hv).mono ?_) rfl
 rintro e w5 ⟨C, y, yp, yt, yz, ec, hC, rfl, hyv, hof, hv⟩
 refine ⟨_, rfl, ?_⟩
 simp only [zP, po]
 refine xG (.agg #[.int .i64 y.stamp, .bool y.gone, .int .i64 y.expire, .int .i64 y.val.kind, .string ⟨y.val.text.toArray⟩, yp, yt, yz]) rfl (ex_extract rfl rfl rfl) (xG (.int .i64 ec) rfl (ex_extract rfl rfl rfl) ?_)
 refine xS 2 rfl hv x0sz45 rfl (by exact ⟨rfl, rfl, rfl, rfl, rfl, hyv.p.one, hyv.t.one, hyv.z.one, trivial⟩) (fun w6 hv => ?_)
 simp only [zS, zO, sp] at hv
 simp only [zP, po]
 refine xA (.int .i64 ec) rfl ?_
 simp only [zP, po]
 refine wK k4 (rR ?_)
 refine bodyPost_ret (res_cell2 rfl rfl (run_load_mid (pre := []) (mid := [.int .i64 y.stamp, .bool y.gone, .int .i64 y.expire, .int .i64 y.val.kind, .string ⟨y.val.text.toArray⟩, yp, yt, yz]) (post := []) x0wd45 (show Blk _ b2 ([] ++ [.int .i64 y.stamp, .bool y.gone, .int .i64 y.expire, .int .i64 y.val.kind, .string ⟨y.val.text.toArray⟩, yp, yt, yz] ++ []) _ from hv.get 2 rfl) rfl)) rfl (⟨C, y, _, _, _, ec, hC, rfl, hyv, hof, (((hv.front 1 rfl).front 1 rfl).sub (List.Sublist.cons_cons _ (List.Sublist.cons_cons _ (List.Sublist.cons _ (List.Sublist.refl _)))))⟩)
end Go.Proofs.YtkoghbmjbobfjaaGreat
/- Law 20: awake. -/
namespace Go.Proofs.YtkoghbmjbobfjaaGreat
open Go.RowKit Go.Pm
theorem sameC_of {x arg : List UInt8} (h : (x.map fun c => lowZ (c.toNat : Int)) = arg.map fun c => lowZ (c.toNat : Int)) : SameC x arg := by
 refine ⟨by simpa using congrArg List.length h, fun k a b ha hb => ?_⟩
 have h2 := congrArg (fun l => l[k]?) h
 simpa [ha, hb] using h2
theorem isI_one {r : Int} (h : IsI [119, 73, 116, 72, 115, 67, 111, 82, 101, 83] [[76, 73, 77, 73, 84], [87, 73, 84, 72, 83, 67, 79, 82, 69, 83]] r) : r = 1 := by
 have hs : SameC ([87, 73, 84, 72, 83, 67, 79, 82, 69, 83] : List UInt8) [119, 73, 116, 72, 115, 67, 111, 82, 101, 83] := sameC_of (by decide)
 have hn : ¬ SameC ([76, 73, 77, 73, 84] : List UInt8) [119, 73, 116, 72, 115, 67, 111, 82, 101, 83] := fun h => by have := h.1; simp at this
 rcases h with ⟨-, h⟩ | ⟨i, x, rfl, hx, h1, h2⟩
 ·exact absurd hs (h _ (by simp))
 match i, hx with
 | 0, hx => simp at hx; subst hx; exact absurd h1 hn
 | 1, _ => rfl
 | i + 2, hx => simp at hx
def lval : Val := ⟨3, [], [], [[120]], []⟩
theorem lput_ok : PutOk [108] lval 0 := ⟨by decide, .inr (.inr (.inl (by unfold lval; simp [listRight]))), by omega, by omega⟩
theorem v7callable6 : Callable Tryz.prog 6 := ⟨_, Tryz.func6, by kernel_rfl, by kernel_rfl⟩
theorem v7mk9 : (Tryz.prog.info? 9).map (fun i => (i.zero, i.size, i.bytes)) = some (some (.string ⟨([] : List UInt8).toArray⟩), 1, 16) := by kernel_rfl
theorem v7el29 : Elem Tryz.prog 29 9 (.string ⟨([] : List UInt8).toArray⟩) 1 16 := elem_of Tryz.underlying29 v7mk9 (by rfl) (by decide)
theorem v7callable32 : Callable Tryz.prog 32 := ⟨_, Tryz.func32, by kernel_rfl, by kernel_rfl⟩
theorem v7al45 (w : World) : (Instr.alloc 45 true (.tuple #[])).run Tryz.prog w = .ok (.pointer (some ⟨w.heap.size, 0, none⟩)) (w.alloc (.cells ([.int .i64 0, .bool false, .int .i64 0, .int .i64 0, .string ⟨([] : List UInt8).toArray⟩, .slice none 0 0, .slice none 0 0, .slice none 0 0] : List Value).toArray 45)) := by kernel_rfl
theorem v7callable33 : Callable Tryz.prog 33 := ⟨_, Tryz.func33, by kernel_rfl, by kernel_rfl⟩
set_option maxHeartbeats 2000000 in
theorem lawAwake20 (B : Base) (H : List Res) (w : World) (hv : Inv B H w) :
  Calls Tryz.prog 5 #[] w fun e w' => e = .returned (.bool true) ∧ Inv B H w' := by
 refine cW Tryz.func5 rfl Tryz.ntmps5 ?_
 simp only [al]
 refine sK fun _ k1 => rL (xA (.bool false) rfl ?_)
 simp only [zP, po]
 refine wK k1 (sK fun _ k2 => ?_)
 refine rL (xC v7callable6 rfl ((lawOpened20 B _ _ 0 (by omega) (by omega) hv).mono ?_) rfl)
 rintro e w3 ⟨v, t, m, s, p, wb, va, vc, sv, rfl, hv⟩
 refine ⟨_, rfl, ?_⟩
 refine xM (.tuple #[.pointer (some ⟨v, 0, none⟩), .pointer (some ⟨t, 0, none⟩)]) rfl (xG (.pointer (some ⟨v, 0, none⟩)) rfl (ex_extract rfl rfl rfl) ?_)
 simp only [zP, po]
 refine xG (.pointer (some ⟨t, 0, none⟩)) rfl (ex_extract rfl rfl rfl) (xA (.pointer (some ⟨v, 0, none⟩)) rfl ?_)
 refine xA (.pointer (some ⟨t, 0, none⟩)) rfl ?_
 simp only [zP, po]
 refine wK k2 (sK fun _ k4 => ?_)
 refine sK fun _ k5 => rL (xM (.pointer (some ⟨v, 0, none⟩)) rfl ?_)
 refine xG (.bool false) rfl (ex_pisnil Tryz.underlying24 rfl rfl rfl rfl) (xM (.bool false) rfl ?_)
 simp only [zP, po]
 refine xM (.pointer (some ⟨t, 0, none⟩)) rfl (sl_rowOne (v := .string ⟨([120] : List UInt8).toArray⟩) tV (wanted_of (j := 2) (d := 11) (b := false) rfl rfl rfl) rfl rfl hv v7el29 rfl (fun b6 w7 hv => ?_))
 refine xG (.agg #[.int .i64 3, .string ⟨([] : List UInt8).toArray⟩, .slice none 0 0, .slice (some ⟨b6, 0, none⟩) 1 1, .slice none 0 0]) rfl (ex_buildN (vs := #[(0, .int .i64 3), (3, .slice (some ⟨b6, 0, none⟩) 1 1)]) rfl (by simp only [List.map_toArray, List.map_cons, List.map_nil]; rfl) (by kernel_rfl)) ?_
 simp only [zP, po]
 obtain ⟨C, hC, hv, hrk, hok, -⟩ := (hv.cellRow (n := 1) (c := 1) (size := 1) rfl (by decide) (by decide)).rowBy
 have hval : ValAt C lval (.slice none 0 0) (.slice (some ⟨b6, 0, none⟩) 1 1) (.slice none 0 0) := ⟨row_nil0 C, ⟨_, _, rfl, hok, hrk⟩, row_nil0 C, by decide, by decide, by decide⟩
 replace hv := hv.front 1 rfl
 simp only [List.eraseIdx_cons_succ, List.eraseIdx_cons_zero] at hv
 refine xC v1callable25 rfl ((txnPut C _ _ t m s p wb va vc sv 0 [] [] [108] lval _ _ _ 0 trivial hval hv).mono ?_) rfl
 rintro e w8 ⟨D, es2, ec, hD, rfl, hput, hv⟩
 refine ⟨_, rfl, ?_⟩
 obtain ⟨rfl, hM2⟩ : ec = 0 ∧ VM D es2 (updA [] [108] ⟨0, false, 0, lval⟩) := by
  rcases hput with ⟨h1, -, h2⟩ | ⟨-, h1, -⟩
  ·exact ⟨h1, h2⟩
  exact absurd lput_ok h1
 refine xG (.bool false) rfl (ex_neq rfl rfl rfl (by decide)) (xK false (.bool false) rfl ?_)
 simp only [zP, po]
 refine wK k5 (cF rfl ?_)
 refine kS (tK k4 ?_)
 refine sK fun _ k9 => rL (xM (.pointer (some ⟨v, 0, none⟩)) rfl ?_)
 replace hv := hv.front 1 rfl
 simp only [List.eraseIdx_cons_succ, List.eraseIdx_cons_zero] at hv
 refine xC v7callable32 rfl ((viewText D _ _ v t m s p wb va vc sv 0 es2 _ [108] hM2 hv).mono ?_) rfl
 rintro e w10 ⟨E, y, yp, yt, yz, ec2, hE, rfl, hyv, hof, hv⟩
 refine ⟨_, rfl, ?_⟩
 obtain rfl : ec2 = 40 := by
  have hl : lookA (updA [] [108] (⟨0, false, 0, lval⟩ : Ver)) [108] = some ⟨0, false, 0, lval⟩ := by rw [look_upd, if_pos rfl]
  rcases hof with ⟨-, -, h⟩ | ⟨h, -⟩ | ⟨-, h, -, h2⟩
  ·have := h _ hl; cases this
  ·exact h
  rw [hl] at h; cases h; exact absurd h2 (by decide)
 refine xM (.tuple #[.agg #[.int .i64 y.stamp, .bool y.gone, .int .i64 y.expire, .int .i64 y.val.kind, .string ⟨y.val.text.toArray⟩, yp, yt, yz], .int .i64 40]) rfl ?_
 simp only [zP, po]
 refine xG (.agg #[.int .i64 y.stamp, .bool y.gone, .int .i64 y.expire, .int .i64 y.val.kind, .string ⟨y.val.text.toArray⟩, yp, yt, yz]) rfl (ex_extract rfl rfl rfl) (xG (.int .i64 40) rfl (ex_extract rfl rfl rfl) ?_)
 refine sl_alloc tV (wn rfl) rfl hv v7al45 (fun b11 w12 hv => ?_)
 simp only [zP, po]
 refine xS 0 rfl hv x0sz45 rfl (by exact ⟨rfl, rfl, rfl, rfl, rfl, hyv.p.one, hyv.t.one, hyv.z.one, trivial⟩) (fun w13 hv => ?_)
 simp only [zO, sp] at hv
 refine xA (.int .i64 40) rfl ?_
 simp only [zP, po]
 refine wK k9 (sK fun _ k14 => ?_)
 refine rL (xM (.int .i64 40) rfl ?_)
 refine xG (.bool true) rfl (ex_eql rfl rfl rfl (by decide)) (xM (.bool true) rfl ?_)
 simp only [zP, po]
 refine sl_rowN (pv := #[(0, .string ⟨([76, 73, 77, 73, 84] : List UInt8).toArray⟩), (1, .string ⟨([87, 73, 84, 72, 83, 67, 79, 82, 69, 83] : List UInt8).toArray⟩)]) (L := [.string ⟨([76, 73, 77, 73, 84] : List UInt8).toArray⟩, .string ⟨([87, 73, 84, 72, 83, 67, 79, 82, 69, 83] : List UInt8).toArray⟩]) (e := 9) tV (wanted_of (j := 2) (d := 25) (b := true) rfl rfl rfl) rfl (by simp only [List.map_toArray, List.map_cons, List.map_nil]; rfl) hv (fun w => by kernel_rfl) (fun b15 w16 hv => ?_)
 obtain ⟨G, hG, hv, hrk2, -, -⟩ := (hv.cellRow (n := 2) (c := 2) (size := 1) rfl (by decide) (by decide)).rowBy
 refine xC v7callable33 rfl ((viewIs G _ _ [119, 73, 116, 72, 115, 67, 111, 82, 101, 83] _ 2 [[76, 73, 77, 73, 84], [87, 73, 84, 72, 83, 67, 79, 82, 69, 83]] hrk2 (by simp) (by simp) hv).mono ?_) rfl
 rintro e w17 ⟨r, rfl, his, hv⟩
 refine ⟨_, rfl, ?_⟩
 obtain rfl := isI_one his
 refine xG (.bool true) rfl (ex_eql rfl rfl rfl (by decide)) ?_
 simp only [zP, po]
 refine xK true (.bool true) rfl (xA (.bool true) rfl ?_)
 simp only [zP, po]
 refine wK k14 (rR ?_)
 refine bR rfl rfl (⟨rfl, ((hv.sub (List.Sublist.cons _ (List.Sublist.cons _ (List.Sublist.cons _ (List.Sublist.refl _)))))).weak (((hC.trans hD).trans hE).trans hG)⟩)
end Go.Proofs.YtkoghbmjbobfjaaGreat
/- Keys of the reference's view: a name, a value, a clock; rows of them in memory that stays. -/
namespace Go.Pm
open Go.RowKit
structure KeyR where
 name : List UInt8
 val : Val
 exp : Int
abbrev krCells (v : KeyR) (p t z : Value) : List Value := [strV v.name, .int .i64 v.val.kind, strV v.val.text, p, t, z, .int .i64 v.exp]
theorem krCells_one {B : Base} {v : KeyR} {p t z : Value} (h : ValAt B v.val p t z) : ∀ u ∈ krCells v p t z, u.oneCell' = true := by
 intro u hu
 simp only [List.mem_cons, List.not_mem_nil, or_false] at hu
 rcases hu with rfl | rfl | rfl | rfl | rfl | rfl | rfl
 ·rfl
 ·rfl
 ·rfl
 ·exact h.p.one
 ·exact h.t.one
 ·exact h.z.one
 rfl
def KeysAt (B : Base) : List KeyR → List Value → Prop
 | [], xs => xs = []
 | v :: l, xs => ∃ p t z r, xs = krCells v p t z ++ r ∧ ValAt B v.val p t z ∧ KeysAt B l r
theorem KeysAt.more {B C : Base} (hB : B.Le C) : ∀ {l : List KeyR} {xs : List Value}, KeysAt B l xs → KeysAt C l xs
 | [], _, h => h
 | _ :: _, _, ⟨p, t, z, r, h1, h2, h3⟩ => ⟨p, t, z, r, h1, h2.more hB, KeysAt.more hB h3⟩
theorem KeysAt.append {B : Base} {k : List KeyR} {ys : List Value} (hk : KeysAt B k ys) : ∀ {l : List KeyR} {xs : List Value}, KeysAt B l xs → KeysAt B (l ++ k) (xs ++ ys)
 | [], xs, h => by
  cases (show xs = [] from h)
  exact hk
 | v :: l, xs, ⟨p, t, z, r, h1, h2, h3⟩ => by
  subst h1
  exact ⟨p, t, z, r ++ ys, by rw [List.append_assoc], h2, KeysAt.append hk h3⟩
theorem KeysAt.single {B : Base} {v : KeyR} {p t z : Value} (h : ValAt B v.val p t z) : KeysAt B [v] (krCells v p t z) := ⟨p, t, z, [], by simp, h, rfl⟩
theorem KeysAt.len {B : Base} : ∀ {l : List KeyR} {xs : List Value}, KeysAt B l xs → xs.length = l.length * 7
 | [], xs, h => by cases (show xs = [] from h); rfl
 | v :: l, xs, ⟨p, t, z, r, h1, h2, h3⟩ => by
  subst h1
  rw [List.length_append, KeysAt.len h3]
  show 7 + l.length * 7 = (l.length + 1) * 7
  omega
theorem KeysAt.one {B : Base} : ∀ {l : List KeyR} {xs : List Value}, KeysAt B l xs → ∀ u ∈ xs, u.oneCell' = true
 | [], xs, h, u, hu => by cases (show xs = [] from h); cases hu
 | v :: l, xs, ⟨p, t, z, r, h1, h2, h3⟩, u, hu => by
  subst h1
  rcases List.mem_append.1 hu with h | h
  ·exact krCells_one h2 u h
  exact KeysAt.one h3 u h
theorem KeysAt.get {B : Base} : ∀ {l : List KeyR} {xs : List Value}, KeysAt B l xs → ∀ i (hi : i < l.length), ∃ p t z, ValAt B l[i].val p t z ∧ ∀ j, j < 7 → (krCells l[i] p t z)[j]? = (xs.drop (i * 7))[j]?
 | [], xs, h, i, hi => by simp at hi
 | v :: l, xs, ⟨p, t, z, r, h1, h2, h3⟩, i, hi => by
  subst h1
  cases i with
  | zero => exact ⟨p, t, z, h2, fun j hj => by rw [Nat.zero_mul, List.drop_zero, List.getElem?_append_left hj]; rfl⟩
  | succ i =>
   obtain ⟨p', t', z', e1, e2⟩ := KeysAt.get h3 i (by simpa using hi)
   refine ⟨p', t', z', e1, fun j hj => (e2 j hj).trans ?_⟩
   rw [show (i + 1) * 7 = i * 7 + 7 by rw [Nat.succ_mul], Nat.add_comm, ← List.drop_drop]
   rfl
theorem KeysAt.take {B : Base} : ∀ {l : List KeyR} {xs : List Value}, KeysAt B l xs → ∀ i, KeysAt B (l.take i) (xs.take (i * 7))
 | [], xs, h, i => by cases (show xs = [] from h); simp [KeysAt]
 | v :: l, xs, ⟨p, t, z, r, h1, h2, h3⟩, i => by
  subst h1
  cases i with
  | zero => simp [KeysAt]
  | succ i =>
   refine ⟨p, t, z, r.take (i * 7), ?_, h2, KeysAt.take h3 i⟩
   rw [show (i + 1) * 7 = i * 7 + 7 by rw [Nat.succ_mul], List.take_append]
   show List.take (i * 7 + 7) (krCells v p t z) ++ List.take (i * 7 + 7- 7) r = _
   rw [List.take_of_length_le (by show 7 ≤ _; omega), Nat.add_sub_cancel]
theorem KeysAt.drop {B : Base} : ∀ {l : List KeyR} {xs : List Value}, KeysAt B l xs → ∀ i, KeysAt B (l.drop i) (xs.drop (i * 7))
 | [], xs, h, i => by cases (show xs = [] from h); simp [KeysAt]
 | v :: l, xs, ⟨p, t, z, r, h1, h2, h3⟩, i => by
  subst h1
  cases i with
  | zero => exact ⟨p, t, z, r, by simp, h2, h3⟩
  | succ i =>
   rw [show (i + 1) * 7 = i * 7 + 7 by rw [Nat.succ_mul], Nat.add_comm, ← List.drop_drop]
   exact KeysAt.drop h3 i
theorem KeysAt.reads {B : Base} {l : List KeyR} {xs : List Value} {ad : Option Addr} {i : Nat} {x : KeyR} (h : KeysAt B l xs) (hr : RdV B [] ad xs) (hx : l[i]? = some x) : ∃ b off p t z, ad = some ⟨b, off, none⟩ ∧ ValAt B x.val p t z ∧ Reads B [] b (off + i * 7) (krCells x p t z) := by
 obtain ⟨hi, rfl⟩ := List.getElem?_eq_some_iff.1 hx
 obtain ⟨p, t, z, h1, h2⟩ := h.get i hi
 have hl := h.len
 have hle : i * 7 + 7 ≤ xs.length := by rw [hl]; have := Nat.mul_le_mul_right 7 (show i + 1 ≤ l.length by omega); rw [Nat.succ_mul] at this; exact this
 obtain ⟨b, off, h3, h4⟩ := rdW_reads (cs := krCells l[i] p t z) (k := i * 7) (m := 7) (hr.rdW []) hle (by decide) rfl (fun j hj => by
  rw [h2 j hj, List.getElem?_drop])
 exact ⟨b, off, p, t, z, h3, h1, h4⟩
theorem KeysAt.reads2 {B : Base} {l : List KeyR} {xs : List Value} {ad : Option Addr} {i : Nat} {x : KeyR} (h : KeysAt B l xs) (hr : RdV B [] ad xs) (hx : l[i]? = some x) : ∃ b off p t z, ad = some ⟨b, off, none⟩ ∧ ValAt B x.val p t z ∧ Reads B [] b (off + i * 7) (krCells x p t z) ∧ (xs.drop (i * 7)).take 7 = krCells x p t z := by
 obtain ⟨hi, rfl⟩ := List.getElem?_eq_some_iff.1 hx
 obtain ⟨p, t, z, h1, h2⟩ := h.get i hi
 have hl := h.len
 have hle : i * 7 + 7 ≤ xs.length := by rw [hl]; have := Nat.mul_le_mul_right 7 (show i + 1 ≤ l.length by omega); rw [Nat.succ_mul] at this; exact this
 obtain ⟨b, off, h3, h4⟩ := rdW_reads (cs := krCells l[i] p t z) (k := i * 7) (m := 7) (hr.rdW []) hle (by decide) rfl (fun j hj => by
  rw [h2 j hj, List.getElem?_drop])
 refine ⟨b, off, p, t, z, h3, h1, h4, List.ext_getElem? fun j => ?_⟩
 rcases Nat.lt_or_ge j 7 with hj | hj
 ·rw [List.getElem?_take_of_lt hj, h2 j hj]
 rw [List.getElem?_eq_none (by rw [List.length_take, List.length_drop]; omega), List.getElem?_eq_none (by show 7 ≤ j; omega)]
theorem KeysAt.next {B : Base} {l : List KeyR} {i : Nat} {x : KeyR} {ys : List Value} {p t z : Value} (h : KeysAt B (l.take i) ys) (hx : l[i]? = some x) (hv : ValAt B x.val p t z) : KeysAt B (l.take (i + 1)) (ys ++ krCells x p t z) := by
 rw [take_next hx]
 exact KeysAt.append (KeysAt.single hv) h
end Go.Pm
