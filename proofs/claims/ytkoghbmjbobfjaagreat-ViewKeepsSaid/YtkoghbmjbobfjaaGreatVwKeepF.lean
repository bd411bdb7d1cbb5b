/- The reference's view: Get, without, wrote, Del, Put, Names. -/
import Derived.Test.YtkoghbmjbobfjaaGreatVwKeepB
import Derived.Test.YtkoghbmjbobfjaaGreatVwKeepE
import Derived.Test.YtkoghbmjbobfjaaGreatRows
import Derived.Test.YtkoghbmjbobfjaaGreatVwKeepD
import Derived.Laws.StructEq
set_option maxRecDepth 100000
namespace Go.Proofs.YtkoghbmjbobfjaaGreat
open Go.RowKit Go.Pm
def liveK (clk : Int) (x : KeyR) : Bool := decide (x.exp = 0) || decide (x.exp > clk)
def getK (K : List KeyR) (clk : Int) (name : List UInt8) : Option KeyR := K.find? fun x => decide (x.name = name) && liveK clk x
def zkey : KeyR := ⟨[], ⟨0, [], [], [], []⟩, 0⟩
theorem zkey_at (B : Base) : ValAt B zkey.val (.slice none 0 0) (.slice none 0 0) (.slice none 0 0) := zver0_at B
theorem getK_some {K : List KeyR} {clk : Int} {name : List UInt8} {i : Nat} {x : KeyR} (hx : K[i]? = some x) (hn : x.name = name) (hl : liveK clk x = true) (hno : ∀ j y, j < i → K[j]? = some y → ¬ (y.name = name ∧ liveK clk y = true)) : getK K clk name = some x := by
 unfold getK
 rw [List.find?_eq_some_iff_getElem]
 obtain ⟨hi, rfl⟩ := List.getElem?_eq_some_iff.1 hx
 refine ⟨by simp [hn, hl], i, hi, rfl, fun j hj => ?_⟩
 have h7 := hno j _ hj (List.getElem?_eq_getElem (by omega))
 cases h8 : (decide (K[j].name = name) && liveK clk K[j]) with
 | false => rfl
 | true => exact absurd (by simpa using h8) h7
theorem getK_none {K : List KeyR} {clk : Int} {name : List UInt8} (hno : ∀ (j : Nat) (y : KeyR), K[j]? = some y → ¬ (y.name = name ∧ liveK clk y = true)) : getK K clk name = none := by
 unfold getK
 rw [List.find?_eq_none]
 intro y hy
 obtain ⟨j, hj⟩ := List.mem_iff_getElem?.1 hy
 cases h8 : (decide (y.name = name) && liveK clk y) with
 | false => simp
 | true => exact absurd (by simpa using h8) (hno j y hj)
structure RefV (B : Base) (K : List KeyR) (wl : List (List UInt8)) (ka wa : Option Addr) (kc wc : Nat) (xs : List Value) : Prop where
 ok1 : SliceOk ka K.length kc
 keys : RdV B [] ka xs
 at_ : KeysAt B K xs
 ok2 : SliceOk wa wl.length wc
 wr : RdV B [] wa (textCells wl)
theorem RefV.more {B C : Base} {K : List KeyR} {wl : List (List UInt8)} {ka wa : Option Addr} {kc wc : Nat} {xs : List Value} (h : RefV B K wl ka wa kc wc xs) (hB : B.Le C) : RefV C K wl ka wa kc wc xs := ⟨h.ok1, h.keys.more hB (fun _ h => h), h.at_.more hB, h.ok2, h.wr.more hB (fun _ h => h)⟩
theorem v2al49 (w : World) : (Instr.alloc 49 true (.tuple #[])).run Tryz.prog w = .ok (.pointer (some ⟨w.heap.size, 0, none⟩)) (w.alloc (.cells ([.string ⟨([] : List UInt8).toArray⟩, .int .i64 0, .string ⟨([] : List UInt8).toArray⟩, .slice none 0 0, .slice none 0 0, .slice none 0 0, .int .i64 0] : List Value).toArray 49)) := by kernel_rfl
theorem v2fa31_0 (w : World) (b o : Nat) : (Instr.fieldAt 31 (.pointer (some ⟨b, o, none⟩)) 0).run Tryz.prog w = .ok (.pointer (some ⟨b, o + 0, none⟩)) w := by kernel_rfl
theorem v2na28 (w : World) : (isAgg 28).run Tryz.prog w = .ok false w := by kernel_rfl
theorem v2es28 (w : World) : (sizeOf (Tryz.prog.elem 28)).run Tryz.prog w = .ok 7 w := by kernel_rfl
theorem v2wd49 : Wide Tryz.prog 49 7 := wide_of (fun w => by kernel_rfl) (by kernel_rfl)
theorem v2sz49 : (Tryz.prog.info? 49).map (·.size) = some 7 := by kernel_rfl
theorem v2fa49_0 (w : World) (b o : Nat) : (Instr.fieldAt 49 (.pointer (some ⟨b, o, none⟩)) 0).run Tryz.prog w = .ok (.pointer (some ⟨b, o + 0, none⟩)) w := by kernel_rfl
theorem v2fa49_2 (w : World) (b o : Nat) : (Instr.fieldAt 49 (.pointer (some ⟨b, o, none⟩)) 2).run Tryz.prog w = .ok (.pointer (some ⟨b, o + 6, none⟩)) w := by kernel_rfl
theorem v2fa31_1 (w : World) (b o : Nat) : (Instr.fieldAt 31 (.pointer (some ⟨b, o, none⟩)) 1).run Tryz.prog w = .ok (.pointer (some ⟨b, o + 1, none⟩)) w := by kernel_rfl
set_option maxHeartbeats 2000000 in
theorem refGet20 (B : Base) (H : List Res) (w : World) (K : List KeyR) (wl : List (List UInt8)) (ka wa : Option Addr) (kc wc : Nat) (xs : List Value) (clk : Int) (hR : RefV B K wl ka wa kc wc xs) (hm : K.length ≤ 10000) (_ : wl.length ≤ 10000) (name : List UInt8) (hv : Inv B H w) :
  Calls Tryz.prog 14 #[.agg #[.slice ka K.length kc, .int .i64 clk, .slice wa wl.length wc], .string ⟨name.toArray⟩] w fun e w' => ∃ x p' t' z' ok, e = .returned (.tuple #[.agg (krCells x p' t' z').toArray, .bool ok]) ∧ ((ok = true ∧ getK K clk name = some x ∧ ∃ i, K[i]? = some x ∧ (xs.drop (i * 7)).take 7 = krCells x p' t' z') ∨ (ok = false ∧ x = zkey ∧ getK K clk name = none ∧ p' = .slice none 0 0 ∧ t' = .slice none 0 0 ∧ z' = .slice none 0 0)) ∧ ValAt B x.val p' t' z' ∧ Inv B H w' := by
 refine cW Tryz.func14 rfl Tryz.ntmps14 ?_
 simp only [al]
 refine sK fun _ k1 => rL (sl_box (L := [.slice ka K.length kc, .int .i64 clk, .slice wa wl.length wc]) tV (wn rfl) rfl rfl hv (fun w => by kernel_rfl) (fun b2 w3 hv => ?_))
 refine sl_alloc tV (wn rfl) rfl hv v2al49 (fun b4 w5 hv => ?_)
 refine xA (.bool false) rfl ?_
 simp only [zP, po]
 refine wK k1 (sK fun _ k6 => ?_)
 refine sK fun _ k7 => rL (xA (.int .i64 0) rfl ?_)
 simp only [zP, po]
 refine wK k7 (bB ?_)
 gi_loopw [6] (fun x6 wr => ∃ (i : Nat), x6 = .int .i64 (i : Int) ∧ i ≤ K.length ∧ (∀ j y, j < i → K[j]? = some y → ¬ (y.name = name ∧ liveK clk y = true)) ∧ Inv B (Res.cell b4 [.string ⟨([] : List UInt8).toArray⟩, .int .i64 0, .string ⟨([] : List UInt8).toArray⟩, .slice none 0 0, .slice none 0 0, .slice none 0 0, .int .i64 0] 49 :: Res.cell b2 [.slice ka K.length kc, .int .i64 clk, .slice wa wl.length wc] 31 :: H) wr) (fun x6 _ => K.length - (intOf x6).toNat)
 case atStart => exact ⟨0, rfl, Nat.zero_le _, fun j y h => by omega, hv⟩
 case round =>
  obtain ⟨i, rfl, hi, hno, hv⟩ := hrel
  refine sK fun _ k9 => sK fun _ k10 => rL (xM (.int .i64 (i : Int)) rfl ?_)
  refine xF (.pointer (some ⟨b2, 0, none⟩)) rfl (v2fa31_0 _ _ _) (xL _ rfl (run_load1 v2na28 (hv.load 1 0 rfl rfl)) ?_)
  simp only [zP, po]
  refine xG (.int .i64 (K.length : Int)) rfl (ex_len0 Tryz.underlying28 rfl rfl) ?_
  by_cases hb11 : (i : Int) < (K.length : Int)
  ·refine xG (.bool true) rfl (ex_lss rfl rfl rfl (decide_eq_true hb11)) ?_
   simp only [zP, po]
   refine wK k10 (cT rfl ?_)
   refine kS (tK k9 ?_)
   refine sK fun _ k12 => bB (sK fun _ k13 => ?_)
   obtain ⟨x, hx⟩ : ∃ x, K[i]? = some x := ⟨_, List.getElem?_eq_getElem (show i < K.length by omega)⟩
   obtain ⟨bb, bo, xp, xt, xz, had, hvalx, hrdx, hcsx⟩ := KeysAt.reads2 hR.at_ hR.keys hx
   subst had
   refine rL (xF (.pointer (some ⟨b2, 0, none⟩)) rfl (v2fa31_0 _ _ _) ?_)
   refine xL _ rfl (run_load1 v2na28 (hv.load 1 0 rfl rfl)) (xM (.int .i64 (i : Int)) rfl ?_)
   simp only [zP, po]
   refine xG (.pointer (some ⟨bb, bo + i * 7, none⟩)) rfl (ex_index rfl rfl rfl (run_idx (k := i) Tryz.underlying28 v2es28 (by omega))) (xL (.agg #[.string ⟨x.name.toArray⟩, .int .i64 x.val.kind, .string ⟨x.val.text.toArray⟩, xp, xt, xz, .int .i64 x.exp]) rfl (run_loadR (cs := [.string ⟨x.name.toArray⟩, .int .i64 x.val.kind, .string ⟨x.val.text.toArray⟩, xp, xt, xz, .int .i64 x.exp]) v2wd49 (Reads.mid (pre := []) (mid := [.string ⟨x.name.toArray⟩, .int .i64 x.val.kind, .string ⟨x.val.text.toArray⟩, xp, xt, xz, .int .i64 x.exp]) (post := []) hrdx _ _ _ (Base.Le.refl _) no_res hv)) ?_)
   refine sl_alloc tV (wn rfl) rfl hv v2al49 (fun b14 w15 hv => ?_)
   simp only [zP, po]
   refine xS 0 rfl hv v2sz49 rfl (by exact ⟨rfl, rfl, rfl, hvalx.p.one, hvalx.t.one, hvalx.z.one, rfl, trivial⟩) (fun w16 hv => ?_)
   simp only [zO, sp] at hv
   simp only [zP, po]
   refine wK k13 (sK fun _ k17 => ?_)
   refine rL (xF (.pointer (some ⟨b14, 0, none⟩)) rfl (v2fa49_0 _ _ _) ?_)
   refine xL _ rfl (run_load1 s9na9 (hv.load 0 0 rfl rfl)) (xM (.string ⟨name.toArray⟩) rfl ?_)
   simp only [zP, po]
   by_cases hb18 : x.name = name
   ·refine xG (.bool true) rfl (ex_seql rfl rfl rfl (decide_eq_true hb18)) (xM (.bool true) rfl ?_)
    refine xF (.pointer (some ⟨b14, 6, none⟩)) rfl (v2fa49_2 _ _ _) ?_
    simp only [zP, po]
    refine xL _ rfl (run_load1 s2na3 (hv.load 0 6 rfl rfl)) ?_
    by_cases hb19 : x.exp = 0
    ·refine xG (.bool true) rfl (ex_eql rfl rfl rfl (decide_eq_true hb19)) (xM (.bool true) rfl ?_)
     simp only [zP, po]
     refine yP rfl (yP rfl ?_)
     refine yP rfl ?_
     simp only [zP, po]
     refine yP rfl (yP rfl ?_)
     refine xK true (.bool true) rfl ?_
     simp only [zP, po]
     refine xK true (.bool true) rfl ?_
     simp only [zP, po]
     refine wK k17 (cT rfl ?_)
     refine sK fun _ k20 => rL (xL (.agg #[.string ⟨x.name.toArray⟩, .int .i64 x.val.kind, .string ⟨x.val.text.toArray⟩, xp, xt, xz, .int .i64 x.exp]) rfl (run_load_mid (pre := []) (mid := [.string ⟨x.name.toArray⟩, .int .i64 x.val.kind, .string ⟨x.val.text.toArray⟩, xp, xt, xz, .int .i64 x.exp]) (post := []) v2wd49 (show Blk _ b14 ([] ++ [.string ⟨x.name.toArray⟩, .int .i64 x.val.kind, .string ⟨x.val.text.toArray⟩, xp, xt, xz, .int .i64 x.exp] ++ []) _ from hv.get 0 rfl) rfl) ?_)
     refine xS 1 rfl hv v2sz49 rfl (by exact ⟨rfl, rfl, rfl, hvalx.p.one, hvalx.t.one, hvalx.z.one, rfl, trivial⟩) (fun w21 hv => ?_)
     simp only [zS, zO, sp] at hv
     refine xA (.bool true) rfl ?_
     simp only [zP, po]
     refine wK k20 (rR ?_)
     refine bE (tR ?_)
     refine tR (bE ?_)
     refine tR (bodyPost_ret (res_cell2 rfl rfl (run_load_mid (pre := []) (mid := [.string ⟨x.name.toArray⟩, .int .i64 x.val.kind, .string ⟨x.val.text.toArray⟩, xp, xt, xz, .int .i64 x.exp]) (post := []) v2wd49 (show Blk _ b4 ([] ++ [.string ⟨x.name.toArray⟩, .int .i64 x.val.kind, .string ⟨x.val.text.toArray⟩, xp, xt, xz, .int .i64 x.exp] ++ []) _ from hv.get 1 rfl) rfl)) rfl ?_)
     exact ⟨x, _, _, _, true, rfl, .inl ⟨rfl, getK_some hx hb18 (by simp only [liveK, Bool.or_eq_true, decide_eq_true_eq]; omega) hno, i, hx, hcsx⟩, hvalx, (hv.sub (List.Sublist.cons _ (List.Sublist.cons _ (List.Sublist.cons _ (List.Sublist.refl _)))))⟩
    refine xG (.bool false) rfl (ex_eql rfl rfl rfl (decide_eq_false hb19)) (xM (.bool false) rfl ?_)
    simp only [zP, po]
    refine xF (.pointer (some ⟨b14, 6, none⟩)) rfl (v2fa49_2 _ _ _) (xL _ rfl (run_load1 s2na3 (hv.load 0 6 rfl rfl)) ?_)
    refine xF (.pointer (some ⟨b2, 1, none⟩)) rfl (v2fa31_1 _ _ _) ?_
    simp only [zP, po]
    refine xL _ rfl (run_load1 s2na3 (hv.load 2 1 rfl rfl)) ?_
    by_cases hb22 : x.exp > clk
    ·refine xG (.bool true) rfl (ex_gtr rfl rfl rfl (decide_eq_true hb22)) (xK false (.bool true) rfl ?_)
     simp only [zP, po]
     refine xK true (.bool true) rfl ?_
     simp only [zP, po]
     refine wK k17 (cT rfl ?_)
     refine sK fun _ k23 => rL (xL (.agg #[.string ⟨x.name.toArray⟩, .int .i64 x.val.kind, .string ⟨x.val.text.toArray⟩, xp, xt, xz, .int .i64 x.exp]) rfl (run_load_mid (pre := []) (mid := [.string ⟨x.name.toArray⟩, .int .i64 x.val.kind, .string ⟨x.val.text.toArray⟩, xp, xt, xz, .int .i64 x.exp]) (post := []) v2wd49 (show Blk _ b14 ([] ++ [.string ⟨x.name.toArray⟩, .int .i64 x.val.kind, .string ⟨x.val.text.toArray⟩, xp, xt, xz, .int .i64 x.exp] ++ []) _ from hv.get 0 rfl) rfl) ?_)
     refine xS 1 rfl hv v2sz49 rfl (by exact ⟨rfl, rfl, rfl, hvalx.p.one, hvalx.t.one, hvalx.z.one, rfl, trivial⟩) (fun w24 hv => ?_)
     simp only [zS, zO, sp] at hv
     refine xA (.bool true) rfl ?_
     simp only [zP, po]
     refine wK k23 (rR ?_)
     refine bE (tR ?_)
     refine tR (bE ?_)
     refine tR (bodyPost_ret (res_cell2 rfl rfl (run_load_mid (pre := []) (mid := [.string ⟨x.name.toArray⟩, .int .i64 x.val.kind, .string ⟨x.val.text.toArray⟩, xp, xt, xz, .int .i64 x.exp]) (post := []) v2wd49 (show Blk _ b4 ([] ++ [.string ⟨x.name.toArray⟩, .int .i64 x.val.kind, .string ⟨x.val.text.toArray⟩, xp, xt, xz, .int .i64 x.exp] ++ []) _ from hv.get 1 rfl) rfl)) rfl ?_)
     exact ⟨x, _, _, _, true, rfl, .inl ⟨rfl, getK_some hx hb18 (by simp only [liveK, Bool.or_eq_true, decide_eq_true_eq]; omega) hno, i, hx, hcsx⟩, hvalx, (hv.sub (List.Sublist.cons _ (List.Sublist.cons _ (List.Sublist.cons _ (List.Sublist.refl _)))))⟩
    refine xG (.bool false) rfl (ex_gtr rfl rfl rfl (decide_eq_false hb22)) (xK false (.bool false) rfl ?_)
    simp only [zP, po]
    refine xK true (.bool false) rfl ?_
    simp only [zP, po]
    refine wK k17 (cF rfl ?_)
    refine kS (bN ?_)
    refine tK k12 (rL ?_)
    refine xM (.int .i64 (i : Int)) rfl (xG (.int .i64 ((i + 1 : Nat) : Int)) rfl (ex_add rfl rfl rfl (by rw [i64_in (by omega)]; omega)) ?_)
    refine xA (.int .i64 ((i + 1 : Nat) : Int)) rfl (wL ?_)
    simp only [zP, po]
    refine then_normal ?_
    go_roundw
    case rel => exact ⟨i + 1, rfl, by omega, fun j y hj hy => (by
       rcases Nat.lt_or_ge j i with h | h
       ·exact hno j y h hy
       obtain rfl : j = i := by omega
       rw [hx] at hy; cases hy
       rintro ⟨h1, h2⟩
       simp only [liveK, Bool.or_eq_true, decide_eq_true_eq] at h2
       first | exact absurd rfl h1 | (rcases h2 with h2 | h2 <;> omega)), (((hv.front 2 rfl).front 2 rfl).sub (List.Sublist.cons_cons _ (List.Sublist.cons_cons _ (List.Sublist.cons _ (List.Sublist.refl _)))))⟩
    case measure => show K.length - (((i + 1 : Nat) : Int)).toNat < K.length - ((i : Int)).toNat; omega
   refine xG (.bool false) rfl (ex_seql rfl rfl rfl (decide_eq_false hb18)) (xM (.bool false) rfl ?_)
   refine yP rfl ?_
   simp only [zP, po]
   refine yP rfl (yP rfl ?_)
   refine yP rfl ?_
   simp only [zP, po]
   refine yP rfl (yP rfl ?_)
   refine yP rfl ?_
   simp only [zP, po]
   refine yP rfl (yP rfl ?_)
   refine yP rfl ?_
   simp only [zP, po]
   refine xK false (.bool false) rfl ?_
   simp only [zP, po]
   refine wK k17 (cF rfl ?_)
   refine kS (bN ?_)
   refine tK k12 (rL ?_)
   refine xM (.int .i64 (i : Int)) rfl (xG (.int .i64 ((i + 1 : Nat) : Int)) rfl (ex_add rfl rfl rfl (by rw [i64_in (by omega)]; omega)) ?_)
   refine xA (.int .i64 ((i + 1 : Nat) : Int)) rfl (wL ?_)
   simp only [zP, po]
   refine then_normal ?_
   go_roundw
   case rel => exact ⟨i + 1, rfl, by omega, fun j y hj hy => (by
      rcases Nat.lt_or_ge j i with h | h
      ·exact hno j y h hy
      obtain rfl : j = i := by omega
      rw [hx] at hy; cases hy
      rintro ⟨h1, h2⟩
      simp only [liveK, Bool.or_eq_true, decide_eq_true_eq] at h2
      first | exact hb18 h1 | (rcases h2 with h2 | h2 <;> omega)), (((hv.front 2 rfl).front 2 rfl).sub (List.Sublist.cons_cons _ (List.Sublist.cons_cons _ (List.Sublist.cons _ (List.Sublist.refl _)))))⟩
   case measure => show K.length - (((i + 1 : Nat) : Int)).toNat < K.length - ((i : Int)).toNat; omega
  refine xG (.bool false) rfl (ex_lss rfl rfl rfl (decide_eq_false hb11)) ?_
  simp only [zP, po]
  refine wK k10 (cF rfl ?_)
  refine xE (tX ?_)
  refine tX (bH ?_)
  refine tK k6 (sK fun _ k25 => ?_)
  refine rL (xG (.agg #[.string ⟨([] : List UInt8).toArray⟩, .int .i64 0, .string ⟨([] : List UInt8).toArray⟩, .slice none 0 0, .slice none 0 0, .slice none 0 0, .int .i64 0]) rfl (ex_buildN (vs := #[]) rfl (by simp only [List.map_toArray, List.map_nil]) (by kernel_rfl)) ?_)
  refine xS 0 rfl hv v2sz49 rfl (by exact ⟨rfl, rfl, rfl, rfl, rfl, rfl, rfl, trivial⟩) (fun w26 hv => ?_)
  simp only [zO, sp] at hv
  refine xA (.bool false) rfl ?_
  simp only [zP, po]
  refine wK k25 (rR ?_)
  refine bodyPost_ret (res_cell2 rfl rfl (run_load_mid (pre := []) (mid := [.string ⟨([] : List UInt8).toArray⟩, .int .i64 0, .string ⟨([] : List UInt8).toArray⟩, .slice none 0 0, .slice none 0 0, .slice none 0 0, .int .i64 0]) (post := []) v2wd49 (show Blk _ b4 ([] ++ [.string ⟨([] : List UInt8).toArray⟩, .int .i64 0, .string ⟨([] : List UInt8).toArray⟩, .slice none 0 0, .slice none 0 0, .slice none 0 0, .int .i64 0] ++ []) _ from hv.get 0 rfl) rfl)) rfl ?_
  obtain rfl : i = K.length := by omega
  exact ⟨zkey, _, _, _, false, rfl, .inr ⟨rfl, rfl, getK_none fun j y hy => hno j y (List.getElem?_eq_some_iff.1 hy).1 hy, rfl, rfl, rfl⟩, zkey_at _, (hv.sub (List.Sublist.cons _ (List.Sublist.cons _ (List.Sublist.refl _))))⟩
theorem v2fa31_2 (w : World) (b o : Nat) : (Instr.fieldAt 31 (.pointer (some ⟨b, o, none⟩)) 2).run Tryz.prog w = .ok (.pointer (some ⟨b, o + 2, none⟩)) w := by kernel_rfl
theorem v2mk9 : (Tryz.prog.info? 9).map (fun i => (i.zero, i.size, i.bytes)) = some (some (.string ⟨([] : List UInt8).toArray⟩), 1, 16) := by kernel_rfl
theorem v2el29 : Elem Tryz.prog 29 9 (.string ⟨([] : List UInt8).toArray⟩) 1 16 := elem_of Tryz.underlying29 v2mk9 (by rfl) (by decide)
set_option maxHeartbeats 2000000 in
theorem refWrote20 (B : Base) (H : List Res) (w : World) (K : List KeyR) (wl : List (List UInt8)) (ka wa : Option Addr) (kc wc : Nat) (xs : List Value) (clk : Int) (hR : RefV B K wl ka wa kc wc xs) (_ : K.length ≤ 10000) (hmw : wl.length ≤ 10000) (name : List UInt8) (hv : Inv B H w) :
  Calls Tryz.prog 44 #[.agg #[.slice ka K.length kc, .int .i64 clk, .slice wa wl.length wc], .string ⟨name.toArray⟩] w fun e w' => ∃ C a c, B.Le C ∧ e = .returned (.slice a (wl.length + 1) c) ∧ SliceOk a (wl.length + 1) c ∧ RdV C [] a (textCells (wl ++ [name])) ∧ Inv C H w' := by
 refine cW Tryz.func44 rfl Tryz.ntmps44 ?_
 simp only [al]
 refine sK fun _ k1 => rL (sl_box (L := [.slice ka K.length kc, .int .i64 clk, .slice wa wl.length wc]) tV (wn rfl) rfl rfl hv (fun w => by kernel_rfl) (fun b2 w3 hv => ?_))
 refine xA (.slice none 0 0) rfl ?_
 simp only [zP, po]
 refine wK k1 (sK fun _ k4 => ?_)
 refine rL (xA (.slice none 0 0) rfl ?_)
 simp only [zP, po]
 refine wK k4 (sK fun _ k5 => ?_)
 replace hv := hv.rowNil 9 1
 refine rL (xM (.slice none 0 0) rfl ?_)
 refine xF (.pointer (some ⟨b2, 2, none⟩)) rfl (v2fa31_2 _ _ _) (xL _ rfl (run_load1 s1na29 (hv.load 1 2 rfl rfl)) ?_)
 simp only [zP, po]
 refine sl_append (news := textCells wl) tV (wn rfl) rfl rfl rfl v2el29 hv hR.ok2 (by rw [textCells_len]) ((hR.wr.more (Base.Le.refl _) (fun _ h => by cases h)).src hv) ((textCells_one _)) (by unfold maxLen; omega) (by omega) (fun rv6 w9 hv => ?_)
 obtain ⟨ra7, rc8, rfl⟩ := row_slice hv.head
 refine xA (.slice ra7 (0 + wl.length) rc8) rfl ?_
 simp only [zP, po]
 refine wK k5 (sK fun _ k10 => ?_)
 refine rL (xM (.slice ra7 (0 + wl.length) rc8) rfl ?_)
 refine xM (.string ⟨name.toArray⟩) rfl (sl_rowOne (v := .string ⟨name.toArray⟩) tV (wn rfl) rfl rfl hv v2el29 rfl (fun b11 w12 hv => ?_))
 simp only [zP, po]
 replace hv := hv.front 1 rfl
 simp only [List.eraseIdx_cons_succ, List.eraseIdx_cons_zero] at hv
 refine sl_append (news := [.string ⟨name.toArray⟩]) tV (wn rfl) rfl rfl rfl v2el29 hv (ok_full (by omega)) rfl (rd_all (hv.get 1 rfl)) (by intro u hu; simp only [List.mem_cons, List.not_mem_nil, or_false] at hu; rcases hu with rfl <;> rfl) (by unfold maxLen; omega) (by omega) (fun rv13 w16 hv => ?_)
 obtain ⟨ra14, rc15, rfl⟩ := row_slice hv.head
 refine xA (.slice ra14 ((0 + wl.length) + 1) rc15) rfl ?_
 simp only [zP, po]
 refine wK k10 (rR ?_)
 refine bR rfl rfl ?_
 obtain ⟨C, hB, hv2, hr2, hok2, -⟩ := ((hv.sub (List.Sublist.cons_cons _ (List.Sublist.cons _ (List.Sublist.cons _ (List.Sublist.refl _)))))).rowBy
 exact ⟨C, _, _, hB, congrArg (fun n => Ending.returned (Value.slice ra14 n rc15)) (show 0 + wl.length + 1 = wl.length + 1 by omega), by simpa using hok2, by simpa [textCells] using hr2, hv2⟩
def others (K : List KeyR) (name : List UInt8) : List KeyR := K.filter fun x => !decide (x.name = name)
theorem others_yes {K : List KeyR} {name : List UInt8} {i : Nat} {x : KeyR} (hx : K[i]? = some x) (h : x.name ≠ name) : others (K.take (i + 1)) name = others (K.take i) name ++ [x] := by
 unfold others; rw [take_next hx, List.filter_append]; simp [h]
theorem others_no {K : List KeyR} {name : List UInt8} {i : Nat} {x : KeyR} (hx : K[i]? = some x) (h : ¬ x.name ≠ name) : others (K.take (i + 1)) name = others (K.take i) name := by
 unfold others; rw [take_next hx, List.filter_append]; simp [h]
theorem others_le (K : List KeyR) (name : List UInt8) : (others K name).length ≤ K.length := List.length_filter_le _ _
theorem v2mk49 : (Tryz.prog.info? 49).map (fun i => (i.zero, i.size, i.bytes)) = some (some (.agg #[.string ⟨([] : List UInt8).toArray⟩, .int .i64 0, .string ⟨([] : List UInt8).toArray⟩, .slice none 0 0, .slice none 0 0, .slice none 0 0, .int .i64 0]), 7, 120) := by kernel_rfl
theorem v2el28 : Elem Tryz.prog 28 49 (.agg #[.string ⟨([] : List UInt8).toArray⟩, .int .i64 0, .string ⟨([] : List UInt8).toArray⟩, .slice none 0 0, .slice none 0 0, .slice none 0 0, .int .i64 0]) 7 120 := elem_of Tryz.underlying28 v2mk49 (by rfl) (by decide)
set_option maxHeartbeats 4000000 in
theorem refWithout20 (B : Base) (H : List Res) (w : World) (K : List KeyR) (wl : List (List UInt8)) (ka wa : Option Addr) (kc wc : Nat) (xs : List Value) (clk : Int) (hR : RefV B K wl ka wa kc wc xs) (hm : K.length ≤ 10000) (_ : wl.length ≤ 10000) (name : List UInt8) (hv : Inv B H w) :
  Calls Tryz.prog 42 #[.agg #[.slice ka K.length kc, .int .i64 clk, .slice wa wl.length wc], .string ⟨name.toArray⟩] w fun e w' => ∃ C a c ys, B.Le C ∧ e = .returned (.slice a (others K name).length c) ∧ SliceOk a (others K name).length c ∧ RdV C [] a ys ∧ KeysAt C (others K name) ys ∧ Inv C H w' := by
 refine cW Tryz.func42 rfl Tryz.ntmps42 ?_
 simp only [al]
 refine sK fun _ k1 => rL (sl_box (L := [.slice ka K.length kc, .int .i64 clk, .slice wa wl.length wc]) tV (wn rfl) rfl rfl hv (fun w => by kernel_rfl) (fun b2 w3 hv => ?_))
 refine xA (.slice none 0 0) rfl ?_
 simp only [zP, po]
 refine wK k1 (sK fun _ k4 => ?_)
 refine rL (xA (.slice none 0 0) rfl ?_)
 simp only [zP, po]
 refine wK k4 (sK fun _ k5 => ?_)
 refine sK fun _ k6 => rL (xA (.int .i64 0) rfl ?_)
 simp only [zP, po]
 refine wK k6 (bB ?_)
 gi_loopw [5, 6] (fun x5 x6 wr => ∃ (i n1 : Nat) (ra : Option Addr) (rc : Nat) (ys : List Value), x5 = .slice ra n1 rc ∧ x6 = .int .i64 (i : Int) ∧ i ≤ K.length ∧ n1 = (others (K.take i) name).length ∧ KeysAt B (others (K.take i) name) ys ∧ Inv B (Res.row 49 7 (.slice ra n1 rc) n1 ys :: Res.cell b2 [.slice ka K.length kc, .int .i64 clk, .slice wa wl.length wc] 31 :: H) wr) (fun x5 x6 _ => K.length - (intOf x6).toNat)
 case atStart => exact ⟨0, 0, none, 0, [], rfl, rfl, Nat.zero_le _, rfl, rfl, (hv).rowNil 49 7⟩
 case round =>
  obtain ⟨i, n1, ra, rc, ys, rfl, rfl, hi, hn1, hys, hv⟩ := hrel
  have hn1b := others_le (K.take i) name
  rw [List.length_take] at hn1b
  refine sK fun _ k8 => sK fun _ k9 => rL (xM (.int .i64 (i : Int)) rfl ?_)
  refine xF (.pointer (some ⟨b2, 0, none⟩)) rfl (v2fa31_0 _ _ _) (xL _ rfl (run_load1 v2na28 (hv.load 1 0 rfl rfl)) ?_)
  simp only [zP, po]
  refine xG (.int .i64 (K.length : Int)) rfl (ex_len0 Tryz.underlying28 rfl rfl) ?_
  by_cases hb10 : (i : Int) < (K.length : Int)
  ·refine xG (.bool true) rfl (ex_lss rfl rfl rfl (decide_eq_true hb10)) ?_
   simp only [zP, po]
   refine wK k9 (cT rfl ?_)
   refine kS (tK k8 ?_)
   refine sK fun _ k11 => bB (sK fun _ k12 => ?_)
   obtain ⟨x, hx⟩ : ∃ x, K[i]? = some x := ⟨_, List.getElem?_eq_getElem (show i < K.length by omega)⟩
   obtain ⟨bb, bo, xp, xt, xz, had, hvalx, hrdx⟩ := KeysAt.reads hR.at_ hR.keys hx
   subst had
   refine rL (xF (.pointer (some ⟨b2, 0, none⟩)) rfl (v2fa31_0 _ _ _) ?_)
   refine xL _ rfl (run_load1 v2na28 (hv.load 1 0 rfl rfl)) (xM (.int .i64 (i : Int)) rfl ?_)
   simp only [zP, po]
   refine xG (.pointer (some ⟨bb, bo + i * 7, none⟩)) rfl (ex_index rfl rfl rfl (run_idx (k := i) Tryz.underlying28 v2es28 (by omega))) (xF (.pointer (some ⟨bb, bo + i * 7, none⟩)) rfl (v2fa49_0 _ _ _) ?_)
   refine xL _ rfl (run_load1 s9na9 (hrdx _ _ _ (Base.Le.refl _) no_res hv 0 _ rfl)) ?_
   simp only [zP, po]
   refine xM (.string ⟨name.toArray⟩) rfl ?_
   by_cases hb13 : x.name ≠ name
   ·refine xG (.bool true) rfl (ex_sneq rfl rfl rfl (decide_eq_true hb13)) ?_
    simp only [zP, po]
    refine wK k12 (cT rfl ?_)
    refine rL (xM (.slice ra n1 rc) rfl ?_)
    refine xF (.pointer (some ⟨b2, 0, none⟩)) rfl (v2fa31_0 _ _ _) (xL _ rfl (run_load1 v2na28 (hv.load 1 0 rfl rfl)) ?_)
    simp only [zP, po]
    refine xM (.int .i64 (i : Int)) rfl (xG (.pointer (some ⟨bb, bo + i * 7, none⟩)) rfl (ex_index rfl rfl rfl (run_idx (k := i) Tryz.underlying28 v2es28 (by omega))) ?_)
    refine xL (.agg #[.string ⟨x.name.toArray⟩, .int .i64 x.val.kind, .string ⟨x.val.text.toArray⟩, xp, xt, xz, .int .i64 x.exp]) rfl (run_loadR (cs := [.string ⟨x.name.toArray⟩, .int .i64 x.val.kind, .string ⟨x.val.text.toArray⟩, xp, xt, xz, .int .i64 x.exp]) v2wd49 (Reads.mid (pre := []) (mid := [.string ⟨x.name.toArray⟩, .int .i64 x.val.kind, .string ⟨x.val.text.toArray⟩, xp, xt, xz, .int .i64 x.exp]) (post := []) hrdx _ _ _ (Base.Le.refl _) no_res hv)) ?_
    simp only [zP, po]
    refine sl_rowAgg (L := [.string ⟨x.name.toArray⟩, .int .i64 x.val.kind, .string ⟨x.val.text.toArray⟩, xp, xt, xz, .int .i64 x.exp]) tV (wn rfl) rfl rfl hv v2el28 rfl (by decide) (fun b14 w15 hv => ?_)
    replace hv := hv.front 1 rfl
    simp only [List.eraseIdx_cons_succ, List.eraseIdx_cons_zero] at hv
    refine sl_append (news := [.string ⟨x.name.toArray⟩, .int .i64 x.val.kind, .string ⟨x.val.text.toArray⟩, xp, xt, xz, .int .i64 x.exp]) tV (wn rfl) rfl rfl rfl v2el28 hv (ok_full (by omega)) rfl (rd_all (hv.get 1 rfl)) (krCells_one (v := x) hvalx) (by unfold maxLen; omega) (by omega) (fun rv16 w19 hv => ?_)
    obtain ⟨ra17, rc18, rfl⟩ := row_slice hv.head
    refine xA (.slice ra17 (n1 + 1) rc18) rfl (wL ?_)
    simp only [zP, po]
    refine bN (tK k11 ?_)
    refine rL (xM (.int .i64 (i : Int)) rfl ?_)
    refine xG (.int .i64 ((i + 1 : Nat) : Int)) rfl (ex_add rfl rfl rfl (by rw [i64_in (by omega)]; omega)) (xA (.int .i64 ((i + 1 : Nat) : Int)) rfl ?_)
    refine wL ?_
    simp only [zP, po]
    refine then_normal ?_
    go_roundw
    case rel => exact ⟨i + 1, n1 + 1, _, _, _, rfl, rfl, by omega, by rw [others_yes hx hb13, List.length_append, ← hn1]; rfl, by rw [others_yes hx hb13]; exact KeysAt.append (KeysAt.single hvalx) hys, (((hv.front 2 rfl).front 1 rfl).sub (List.Sublist.cons_cons _ (List.Sublist.cons_cons _ (List.Sublist.cons _ (List.Sublist.refl _)))))⟩
    case measure => show K.length - (((i + 1 : Nat) : Int)).toNat < K.length - ((i : Int)).toNat; omega
   refine xG (.bool false) rfl (ex_sneq rfl rfl rfl (decide_eq_false hb13)) ?_
   simp only [zP, po]
   refine wK k12 (cF rfl ?_)
   refine kS (bN ?_)
   refine tK k11 (rL ?_)
   refine xM (.int .i64 (i : Int)) rfl (xG (.int .i64 ((i + 1 : Nat) : Int)) rfl (ex_add rfl rfl rfl (by rw [i64_in (by omega)]; omega)) ?_)
   refine xA (.int .i64 ((i + 1 : Nat) : Int)) rfl (wL ?_)
   simp only [zP, po]
   refine then_normal ?_
   go_roundw
   case rel => exact ⟨i + 1, n1, _, _, _, rfl, rfl, by omega, by rw [others_no hx hb13, ← hn1], by rw [others_no hx hb13]; exact hys, ((hv.front 1 rfl).front 1 rfl)⟩
   case measure => show K.length - (((i + 1 : Nat) : Int)).toNat < K.length - ((i : Int)).toNat; omega
  refine xG (.bool false) rfl (ex_lss rfl rfl rfl (decide_eq_false hb10)) ?_
  simp only [zP, po]
  refine wK k9 (cF rfl ?_)
  refine xE (tX ?_)
  refine tX (bH ?_)
  refine tK k5 (sK fun _ k20 => ?_)
  refine rL (xM (.slice ra n1 rc) rfl ?_)
  refine xA (.slice ra n1 rc) rfl ?_
  simp only [zP, po]
  refine wK k20 (rR ?_)
  refine bR rfl rfl ?_
  obtain rfl : i = K.length := by omega
  rw [List.take_length] at hys hn1
  subst hn1
  obtain ⟨C, hB, hv2, hr2, hok2, -⟩ := ((hv.sub (List.Sublist.cons_cons _ (List.Sublist.cons _ (List.Sublist.refl _))))).rowBy
  exact ⟨C, _, _, _, hB, rfl, hok2, hr2, hys.more hB, hv2⟩
def delK (K : List KeyR) (clk : Int) (name : List UInt8) : List KeyR := if (getK K clk name).isSome then others K name else K
theorem v2al31 (w : World) : (Instr.alloc 31 true (.tuple #[])).run Tryz.prog w = .ok (.pointer (some ⟨w.heap.size, 0, none⟩)) (w.alloc (.cells ([.slice none 0 0, .int .i64 0, .slice none 0 0] : List Value).toArray 31)) := by kernel_rfl
theorem v2wd31 : Wide Tryz.prog 31 3 := wide_of (fun w => by kernel_rfl) (by kernel_rfl)
theorem v2callable14 : Callable Tryz.prog 14 := ⟨_, Tryz.func14, by kernel_rfl, by kernel_rfl⟩
theorem v2callable42 : Callable Tryz.prog 42 := ⟨_, Tryz.func42, by kernel_rfl, by kernel_rfl⟩
theorem v2callable44 : Callable Tryz.prog 44 := ⟨_, Tryz.func44, by kernel_rfl, by kernel_rfl⟩
theorem v2sz31 : (Tryz.prog.info? 31).map (·.size) = some 3 := by kernel_rfl
set_option maxHeartbeats 4000000 in
theorem refDel20 (B : Base) (H : List Res) (w : World) (K : List KeyR) (wl : List (List UInt8)) (ka wa : Option Addr) (kc wc : Nat) (xs : List Value) (clk : Int) (hR : RefV B K wl ka wa kc wc xs) (hm : K.length ≤ 10000) (hmw : wl.length ≤ 10000) (name : List UInt8) (hv : Inv B H w) :
  Calls Tryz.prog 41 #[.agg #[.slice ka K.length kc, .int .i64 clk, .slice wa wl.length wc], .string ⟨name.toArray⟩] w fun e w' => ∃ C K' wl' ka' kc' wa' wc' xs', B.Le C ∧ e = .returned (.agg #[.slice ka' K'.length kc', .int .i64 clk, .slice wa' wl'.length wc']) ∧ RefV C K' wl' ka' wa' kc' wc' xs' ∧ K' = delK K clk name ∧ wl'.length ≤ wl.length + 1 ∧ Inv C H w' := by
 refine cW Tryz.func41 rfl Tryz.ntmps41 ?_
 simp only [al]
 refine sK fun _ k1 => rL (sl_box (L := [.slice ka K.length kc, .int .i64 clk, .slice wa wl.length wc]) tV (wn rfl) rfl rfl hv (fun w => by kernel_rfl) (fun b2 w3 hv => ?_))
 refine sl_alloc tV (wn rfl) rfl hv v2al31 (fun b4 w5 hv => ?_)
 simp only [zP, po]
 refine wK k1 (sK fun _ k6 => ?_)
 refine rL (xL (.agg #[.slice ka K.length kc, .int .i64 clk, .slice wa wl.length wc]) rfl (run_load_mid (pre := []) (mid := [.slice ka K.length kc, .int .i64 clk, .slice wa wl.length wc]) (post := []) v2wd31 (show Blk _ b2 ([] ++ [.slice ka K.length kc, .int .i64 clk, .slice wa wl.length wc] ++ []) _ from hv.get 1 rfl) rfl) ?_)
 refine xM (.string ⟨name.toArray⟩) rfl (xC v2callable14 rfl ((refGet20 B _ _ K wl ka wa kc wc xs clk hR hm hmw name hv).mono ?_) rfl)
 rintro e w7 ⟨x, xp, xt, xz, ok, rfl, hget, hxv, hv⟩
 refine ⟨_, rfl, ?_⟩
 rcases hget with ⟨rfl, hget, -⟩ | ⟨rfl, -, hget, -⟩
 ·simp only [zP, po]
  refine xM (.tuple #[.agg #[.string ⟨x.name.toArray⟩, .int .i64 x.val.kind, .string ⟨x.val.text.toArray⟩, xp, xt, xz, .int .i64 x.exp], .bool true]) rfl (xG (.agg #[.string ⟨x.name.toArray⟩, .int .i64 x.val.kind, .string ⟨x.val.text.toArray⟩, xp, xt, xz, .int .i64 x.exp]) rfl (ex_extract rfl rfl rfl) ?_)
  refine xG (.bool true) rfl (ex_extract rfl rfl rfl) ?_
  simp only [zP, po]
  refine sl_alloc tV (wn rfl) rfl hv v2al49 (fun b8 w9 hv => ?_)
  refine xS 0 rfl hv v2sz49 rfl (by exact ⟨rfl, rfl, rfl, hxv.p.one, hxv.t.one, hxv.z.one, rfl, trivial⟩) (fun w10 hv => ?_)
  simp only [zO, sp] at hv
  refine xA (.bool true) rfl ?_
  simp only [zP, po]
  refine wK k6 (sK fun _ k11 => ?_)
  refine sK fun _ k12 => rL (xM (.bool true) rfl ?_)
  refine xG (.bool false) rfl (ex_not rfl rfl rfl) ?_
  simp only [zP, po]
  refine wK k12 (cF rfl ?_)
  refine kS (tK k11 ?_)
  refine sK fun _ k13 => rW mixed [2, 7, 9] [0,1,3,4,5,6,2,7,8,9] 25 rfl (by kernel_rfl) hv ?_
  simp only [qm, opAt]
  refine dL (.agg #[.slice ka K.length kc, .int .i64 clk, .slice wa wl.length wc]) rfl (fun hv => ex_load rfl rfl (run_load_mid (pre := []) (mid := [.slice ka K.length kc, .int .i64 clk, .slice wa wl.length wc]) (post := []) v2wd31 (show Blk _ b2 ([] ++ [.slice ka K.length kc, .int .i64 clk, .slice wa wl.length wc] ++ []) _ from hv.get 2 rfl) rfl)) (dM (.string ⟨name.toArray⟩) rfl ?_)
  refine dG (.pointer (some ⟨b2, 1, none⟩)) rfl (ex_field rfl rfl (v2fa31_1 _ _ _)) ?_
  simp only [zP, po]
  refine dF _ rfl (fun hv => ex_load rfl rfl (run_load1 s2na3 (hv.load 2 1 rfl rfl))) fun f14 hf14 => dF (.agg #[.slice ka K.length kc, .int .i64 clk, .slice wa wl.length wc]) rfl (fun hv => ex_load rfl rfl (run_load_mid (pre := []) (mid := [.slice ka K.length kc, .int .i64 clk, .slice wa wl.length wc]) (post := []) v2wd31 (show Blk _ b2 ([] ++ [.slice ka K.length kc, .int .i64 clk, .slice wa wl.length wc] ++ []) _ from hv.get 2 rfl) rfl)) fun f15 hf15 => dM (.string ⟨name.toArray⟩) rfl ?_
  simp only [zP, po]
  refine dS rfl fun w16 hv => mC v2callable42 rfl ((refWithout20 B _ _ K wl ka wa kc wc xs clk hR hm hmw name hv).mono ?_) rfl
  rintro e w17 ⟨C, la, lc, lys, hC, rfl, hlok, hlr, hlys, hv⟩
  refine ⟨_, rfl, dV hv (fC (fun ww hv => hf15 ww (ex_load rfl rfl (run_load_mid (pre := []) (mid := [.slice ka K.length kc, .int .i64 clk, .slice wa wl.length wc]) (post := []) v2wd31 (show Blk _ b2 ([] ++ [.slice ka K.length kc, .int .i64 clk, .slice wa wl.length wc] ++ []) _ from hv.get 2 rfl) rfl))) (fC (fun ww hv => hf14 ww (ex_load rfl rfl (run_load1 s2na3 (hv.load 2 1 rfl rfl)))) fN)) ?_⟩
  refine dS rfl fun w18 hv => mC v2callable44 rfl ((refWrote20 C _ _ K wl ka wa kc wc xs clk (hR.more hC) hm hmw name hv).mono ?_) rfl
  rintro e w19 ⟨D, ya, yc, hD, rfl, hyok, hyr, hv⟩
  refine ⟨_, rfl, dV hv (fK rfl (fC (fun ww hv => hf14 ww (ex_load rfl rfl (run_load1 s2na3 (hv.load 2 1 rfl rfl)))) fN)) ?_⟩
  refine dG (.agg #[.slice la ((others K name).length) lc, .int .i64 clk, .slice ya (wl.length + 1) yc]) rfl (ex_buildN (vs := #[(0, .slice la ((others K name).length) lc), (1, .int .i64 clk), (2, .slice ya (wl.length + 1) yc)]) rfl (by simp only [List.map_toArray, List.map_cons, List.map_nil]; rfl) (by kernel_rfl)) ?_
  simp only [zP, po]
  refine dS rfl fun w20 hv => mS 1 rfl hv v2sz31 rfl (by exact ⟨rfl, rfl, rfl, trivial⟩) (fun w21 hv => ?_)
  simp only [zS, zO, sp] at hv
  refine dV hv (fK rfl (fK rfl fN)) (dE fun w22 hv => ?_)
  simp only [zP, po]
  refine tK k13 (rR ?_)
  refine bodyPost_ret (res_cell1 rfl rfl (run_load_mid (pre := []) (mid := [.slice la ((others K name).length) lc, .int .i64 clk, .slice ya (wl.length + 1) yc]) (post := []) v2wd31 (show Blk _ b4 ([] ++ [.slice la ((others K name).length) lc, .int .i64 clk, .slice ya (wl.length + 1) yc] ++ []) _ from hv.get 1 rfl) rfl)) rfl (⟨_, others K name, wl ++ [name], _, _, _, _, _, (hC.trans hD), by rw [List.length_append]; rfl, ⟨hlok, hlr.more hD (fun _ h => h), hlys.more hD, by rw [List.length_append]; exact hyok, hyr⟩, by unfold delK; rw [hget]; rfl, by rw [List.length_append]; exact Nat.le_refl _, (hv.sub (List.Sublist.cons _ (List.Sublist.cons _ (List.Sublist.cons _ (List.Sublist.refl _)))))⟩)
 simp only [zP, po]
 refine xM (.tuple #[.agg #[.string ⟨x.name.toArray⟩, .int .i64 x.val.kind, .string ⟨x.val.text.toArray⟩, xp, xt, xz, .int .i64 x.exp], .bool false]) rfl (xG (.agg #[.string ⟨x.name.toArray⟩, .int .i64 x.val.kind, .string ⟨x.val.text.toArray⟩, xp, xt, xz, .int .i64 x.exp]) rfl (ex_extract rfl rfl rfl) ?_)
 refine xG (.bool false) rfl (ex_extract rfl rfl rfl) ?_
 simp only [zP, po]
 refine sl_alloc tV (wn rfl) rfl hv v2al49 (fun b23 w24 hv => ?_)
 refine xS 0 rfl hv v2sz49 rfl (by exact ⟨rfl, rfl, rfl, hxv.p.one, hxv.t.one, hxv.z.one, rfl, trivial⟩) (fun w25 hv => ?_)
 simp only [zO, sp] at hv
 refine xA (.bool false) rfl ?_
 simp only [zP, po]
 refine wK k6 (sK fun _ k26 => ?_)
 refine sK fun _ k27 => rL (xM (.bool false) rfl ?_)
 refine xG (.bool true) rfl (ex_not rfl rfl rfl) ?_
 simp only [zP, po]
 refine wK k27 (cT rfl ?_)
 refine sK fun _ k28 => rL (xL (.agg #[.slice ka K.length kc, .int .i64 clk, .slice wa wl.length wc]) rfl (run_load_mid (pre := []) (mid := [.slice ka K.length kc, .int .i64 clk, .slice wa wl.length wc]) (post := []) v2wd31 (show Blk _ b2 ([] ++ [.slice ka K.length kc, .int .i64 clk, .slice wa wl.length wc] ++ []) _ from hv.get 2 rfl) rfl) ?_)
 refine xS 1 rfl hv v2sz31 rfl (by exact ⟨rfl, rfl, rfl, trivial⟩) (fun w29 hv => ?_)
 simp only [zS, zO, sp] at hv
 simp only [zP, po]
 refine wK k28 (rR ?_)
 refine tR (bodyPost_ret (res_cell1 rfl rfl (run_load_mid (pre := []) (mid := [.slice ka K.length kc, .int .i64 clk, .slice wa wl.length wc]) (post := []) v2wd31 (show Blk _ b4 ([] ++ [.slice ka K.length kc, .int .i64 clk, .slice wa wl.length wc] ++ []) _ from hv.get 1 rfl) rfl)) rfl ?_)
 exact ⟨B, K, wl, _, _, _, _, _, Base.Le.refl _, rfl, hR, by unfold delK; rw [hget]; rfl, by omega, (hv.sub (List.Sublist.cons _ (List.Sublist.cons _ (List.Sublist.cons _ (List.Sublist.refl _)))))⟩
end Go.Proofs.YtkoghbmjbobfjaaGreat
/- The index's model, a key taken out; a model is what its keys have. -/
namespace Go.Pm
open Go.RowKit
section
variable {B : Base} {X X' : List (List Ent)} {M : Model} {key : List UInt8} {i j : Nat}
end
section
variable {ti tb te : TypeId} {p : Nat} {n : Int} {X : List (List Ent)} {bvs : List Value} {B : Base} {H : List Res} {w : World}
end
theorem sorted_ext : ∀ {l1 l2 : List (List UInt8)}, l1.Pairwise (fun a b => Op.bytesLess a b = true) → l2.Pairwise (fun a b => Op.bytesLess a b = true) → (∀ k, k ∈ l1 ↔ k ∈ l2) → l1 = l2
 | [], [], _, _, _ => rfl
 | [], b :: l2, _, _, h => by have := (h b).2 List.mem_cons_self; cases this
 | a :: l1, [], _, _, h => by have := (h a).1 List.mem_cons_self; cases this
 | a :: l1, b :: l2, h1, h2, h => by
  obtain ⟨h1a, h1b⟩ := List.pairwise_cons.1 h1
  obtain ⟨h2a, h2b⟩ := List.pairwise_cons.1 h2
  have e : a = b := by
   rcases List.mem_cons.1 ((h a).1 List.mem_cons_self) with h3 | h3
   ·exact h3
   rcases List.mem_cons.1 ((h b).2 List.mem_cons_self) with h4 | h4
   ·exact h4.symm
   have h5 := h2a a h3
   rw [lt_asymm (h1a b h4)] at h5
   cases h5
  subst e
  rw [sorted_ext h1b h2b (fun k => ?_)]
  constructor
  ·intro hk
   rcases List.mem_cons.1 ((h k).1 (List.mem_cons_of_mem _ hk)) with h3 | h3
   ·exact absurd h3.symm (lt_ne (h1a k hk))
   exact h3
  intro hk
  rcases List.mem_cons.1 ((h k).2 (List.mem_cons_of_mem _ hk)) with h3 | h3
  ·exact absurd h3.symm (lt_ne (h2a k hk))
  exact h3
def SortedT (l : List (List UInt8)) : Prop := l.Pairwise (fun a b => Op.bytesLess a b = true)
end Go.Pm
/- A part of a row that stays. -/
namespace Go.Pm
open Go.RowKit
theorem RdV.shift {B : Base} {H : List Res} {b off : Nat} {xs : List Value} (h : RdV B H (some ⟨b, off, none⟩) xs) (k : Nat) : RdV B H (some ⟨b, off + k, none⟩) (xs.drop k) := fun i hi => by
 rw [List.length_drop] at hi
 obtain ⟨b', off', h1, h2⟩ := h (k + i) (by omega)
 cases h1
 refine ⟨b, off + k, rfl, ?_⟩
 rw [List.getElem_drop, Nat.add_assoc]
 exact h2
theorem rdV_nil_any (B : Base) (ad : Option Addr) : RdV B [] ad [] := fun i hi => by simp at hi
theorem sliced_rdV {B : Base} {ad : Option Addr} {n c k : Nat} {xs : List Value} (size : Nat) (hr : RdV B [] ad xs) (hl : xs.length = n * size) (hn : n ≤ c) (hk : k ≤ n) (hz : 0 < size) : ∃ a2, sliced ad k n c size = .slice a2 (n - k) (c - k) ∧ RdV B [] a2 (xs.drop (k * size)) := by
 rcases Nat.lt_or_ge k n with h | h
 ·have h1 : 0 < xs.length := by rw [hl]; exact Nat.mul_pos (by omega) hz
  obtain ⟨b, off, rfl, -⟩ := hr 0 h1
  refine ⟨some ⟨b, off + k * size, none⟩, ?_, hr.shift _⟩
  unfold sliced
  rw [if_neg (by omega), Option.map_some, addr_add]
 obtain rfl : k = n := by omega
 have hd : xs.drop (k * size) = [] := List.drop_of_length_le (by omega)
 refine ⟨_, rfl, ?_⟩
 rw [hd]
 exact rdV_nil_any _ _
end Go.Pm
/- The reference's index: keys and chains that stay; what a search finds, what is set. -/
namespace Go.Pm
open Go.RowKit
theorem le_of {B : Base} {H : List Res} {w : World} (hv : Inv B H w) : B.Le (Base.of w) := ⟨hv.base.blk, hv.base.lo, hv.base.os, hv.base.tape, hv.base.output⟩
section
variable {M : Model} {key : List UInt8} {l : List Ver} {k : Nat} {ok : Bool}
end
theorem sliced_fromV {B : Base} {ad : Option Addr} {n c k : Nat} {xs : List Value} (size : Nat) (hok : SliceOk ad n c) (hr : RdV B [] ad xs) (hl : xs.length = n * size) (hk : k ≤ n) (hz : 0 < size) : ∃ a2 c2, sliced ad k n c size = .slice a2 (n - k) c2 ∧ SliceOk a2 (n - k) c2 ∧ RdV B [] a2 (xs.drop (k * size)) := by
 have hle := hok.le
 have hmx := hok.max
 rcases Nat.lt_or_ge k n with h | h
 ·obtain ⟨a2, h1, h2⟩ := sliced_rdV size hr hl hle hk hz
  refine ⟨a2, c - k, h1, ⟨by omega, by unfold maxLen at hmx ⊢; omega, fun e => ?_⟩, h2⟩
  subst e
  have hlt : 0 < (xs.drop (k * size)).length := by
   rw [List.length_drop, hl]
   have := Nat.mul_lt_mul_of_pos_right h hz
   omega
  obtain ⟨b, off, h3, -⟩ := h2 0 hlt
  cases h3
 obtain rfl : k = n := by omega
 have hd : xs.drop (k * size) = [] := List.drop_of_length_le (by omega)
 rw [hd]
 unfold sliced
 by_cases hc : c = k
 ·rw [if_pos hc]
  exact ⟨ad, c - k, rfl, ⟨by omega, by unfold maxLen at hmx ⊢; omega, fun _ => by omega⟩, rdV_nil_any _ _⟩
 rw [if_neg hc]
 refine ⟨_, c - k, rfl, ⟨by omega, by unfold maxLen at hmx ⊢; omega, fun e => ?_⟩, rdV_nil_any _ _⟩
 cases ad with
 | none => have := hok.nil rfl; omega
 | some a => cases e
section
variable {P : Program} {t : TypeId} {w : World}
end
end Go.Pm
/- Which versions and chains are right. -/
namespace Go.Proofs.YtkoghbmjbobfjaaGreat
open Go.RowKit Go.Pm
end Go.Proofs.YtkoghbmjbobfjaaGreat
/- chain.Put; store.valid, store.all. -/
namespace Go.Proofs.YtkoghbmjbobfjaaGreat
open Go.RowKit Go.Pm
end Go.Proofs.YtkoghbmjbobfjaaGreat
/- store.New, Last, Read. -/
namespace Go.Proofs.YtkoghbmjbobfjaaGreat
open Go.RowKit Go.Pm
end Go.Proofs.YtkoghbmjbobfjaaGreat
/- store.chains. -/
namespace Go.Proofs.YtkoghbmjbobfjaaGreat
open Go.RowKit Go.Pm
def news (M : Model) (ws : List Wr) : Nat := (ws.filter fun x => (getM M x.key).length == 0).length
end Go.Proofs.YtkoghbmjbobfjaaGreat
/- store.Apply. -/
namespace Go.Proofs.YtkoghbmjbobfjaaGreat
open Go.RowKit Go.Pm
end Go.Proofs.YtkoghbmjbobfjaaGreat
/- Writes as the law's arguments hold them: how long the rows are is not yet known. -/
namespace Go.Pm
open Go.RowKit
structure ValRd (B : Base) (v : Val) (p t z : Value) : Prop where
 p : RowB B p v.pairs.length (pairCells v.pairs)
 t : RowB B t v.texts.length (textCells v.texts)
 z : RowB B z v.zset.length (memCells v.zset)
theorem ValRd.more {B C : Base} {v : Val} {p t z : Value} (h : ValRd B v p t z) (hB : B.Le C) : ValRd C v p t z := ⟨h.p.more hB, h.t.more hB, h.z.more hB⟩
theorem ValAt.rd {B : Base} {v : Val} {p t z : Value} (h : ValAt B v p t z) : ValRd B v p t z := ⟨h.p, h.t, h.z⟩
def ValSm (v : Val) : Prop := v.pairs.length ≤ 60 ∧ v.texts.length ≤ 600 ∧ v.zset.length ≤ 60
section
variable {P : Program} {a : Act} {w : World} {o : Oper} {t u : TypeId} {x y : Operand}
theorem ex_neqSame {L : List Value} (ho : o.op = .binOp .neq t x y u) (hx : a.eval x = .agg L.toArray) (hy : a.eval y = .agg L.toArray) (hg : P.eqGuardType P.depth t = false) (he : ∀ w, (Op.equalIn 10000 t (.agg L.toArray) (.agg L.toArray)).run P w = .ok true w) : Ex P a o w (.bool false) w := by
 unfold Ex
 simp [execOp, ho, hx, hy, run_eqGuard_agg w .neq t x y _ _ hg, run_neq_struct, he]
theorem ex_bneq {p q b : Bool} (ht : P.underlying t = some .bool) (ho : o.op = .binOp .neq t x y u) (hx : a.eval x = .bool p) (hy : a.eval y = .bool q) (hb : (p != q) = b) : Ex P a o w (.bool b) w := by
 subst hb
 have he := run_neq_bool (P := P) w t p q ht
 unfold Ex
 simp only [execOp, ho, hx, hy]
 simp [eqGuard, he]
 cases p <;> cases q <;> rfl
end
end Go.Pm
/- The reference's Same of texts, pairs, members, values; Small; small. -/
namespace Go.Proofs.YtkoghbmjbobfjaaGreat
open Go.RowKit Go.Pm
theorem pairEq (d : Nat) (w : World) (a b : List UInt8) : (Op.equalIn (d + 2) 97 (.agg #[strV a, strV b]) (.agg #[strV a, strV b])).run Tryz.prog w = .ok true w := by
 have hf : Tryz.prog.stoodInHeld 97 = false := by kernel_rfl
 have hfs : (Tryz.prog.fieldsOf 97).toList = [{ name := "Field", type := 9, offset := 0, embedded := false, tag := "", pkgPath := "", byteOffset := 0 }, { name := "Text", type := 9, offset := 1, embedded := false, tag := "", pkgPath := "", byteOffset := 16 }] := by kernel_rfl
 have hag : ∀ w, (isAgg 9).run Tryz.prog w = .ok false w := fun w => by kernel_rfl
 have hs : ∀ w, (sizeOf 9).run Tryz.prog w = .ok 1 w := fun w => by kernel_rfl
 have h9 : Tryz.prog.underlying 9 = some .string := Tryz.underlying9
 rw [run_equalIn_struct w (d + 1) 97 _ _ (by kernel_rfl) hf, hfs]
 simp [Op.eqFields, part, hag, hs, run_equalIn_string w d 9 _ _ h9]
theorem memEq (d : Nat) (w : World) (a : Int) (b : List UInt8) : (Op.equalIn (d + 2) 99 (.agg #[.int .i64 a, strV b]) (.agg #[.int .i64 a, strV b])).run Tryz.prog w = .ok true w := by
 have hf : Tryz.prog.stoodInHeld 99 = false := by kernel_rfl
 have hfs : (Tryz.prog.fieldsOf 99).toList = [{ name := "Score", type := 3, offset := 0, embedded := false, tag := "", pkgPath := "", byteOffset := 0 }, { name := "Name", type := 9, offset := 1, embedded := false, tag := "", pkgPath := "", byteOffset := 8 }] := by kernel_rfl
 have hag : ∀ w, (isAgg 9).run Tryz.prog w = .ok false w := fun w => by kernel_rfl
 have hs : ∀ w, (sizeOf 9).run Tryz.prog w = .ok 1 w := fun w => by kernel_rfl
 have h9 : Tryz.prog.underlying 9 = some .string := Tryz.underlying9
 have hag3 : ∀ w, (isAgg 3).run Tryz.prog w = .ok false w := fun w => by kernel_rfl
 have hs3 : ∀ w, (sizeOf 3).run Tryz.prog w = .ok 1 w := fun w => by kernel_rfl
 have h3 : Tryz.prog.underlying 3 = some (.int .i64) := Tryz.underlying3
 rw [run_equalIn_struct w (d + 1) 99 _ _ (by kernel_rfl) hf, hfs]
 simp [Op.eqFields, part, hag, hs, hag3, hs3, run_equalIn_string w d 9 _ _ h9, run_equalIn_int w d 3 _ _ _ _ h3]
set_option maxHeartbeats 2000000 in
theorem refWords (B : Base) (H : List Res) (w : World) (ad ad' : Option Addr) (c c' : Nat) (l : List (List UInt8)) (hr : RdV B [] ad (textCells l)) (hr' : RdV B [] ad' (textCells l)) (hm : l.length ≤ 1000000) (hv : Inv B H w) :
  Calls Tryz.prog 18 #[.slice ad l.length c, .slice ad' l.length c'] w fun e w' => e = .returned (.bool true) ∧ Inv B H w' := by
 refine cW Tryz.func18 rfl Tryz.ntmps18 ?_
 simp only [al]
 refine sK fun _ k1 => rL (xA (.bool false) rfl ?_)
 simp only [zP, po]
 refine wK k1 (sK fun _ k2 => ?_)
 refine sK fun _ k3 => rL (xM (.slice ad l.length c) rfl ?_)
 refine xG (.int .i64 (l.length : Int)) rfl (ex_len0 Tryz.underlying29 rfl rfl) (xM (.slice ad' l.length c') rfl ?_)
 simp only [zP, po]
 refine xG (.int .i64 (l.length : Int)) rfl (ex_len0 Tryz.underlying29 rfl rfl) (xG (.bool false) rfl (ex_neq rfl rfl rfl (decide_eq_false (fun h => h rfl))) ?_)
 simp only [zP, po]
 refine wK k3 (cF rfl ?_)
 refine kS (tK k2 ?_)
 refine sK fun _ k4 => sK fun _ k5 => rL (xA (.int .i64 0) rfl ?_)
 simp only [zP, po]
 refine wK k5 (bB ?_)
 gi_loopw [5] (fun x5 wr => ∃ (i : Nat), x5 = .int .i64 (i : Int) ∧ i ≤ l.length ∧ Inv B H wr) (fun x5 _ => l.length - (intOf x5).toNat)
 case atStart => exact ⟨0, rfl, Nat.zero_le _, hv⟩
 case round =>
  obtain ⟨i, rfl, hi, hv⟩ := hrel
  refine sK fun _ k7 => sK fun _ k8 => rL (xM (.int .i64 (i : Int)) rfl ?_)
  refine xM (.slice ad l.length c) rfl (xG (.int .i64 (l.length : Int)) rfl (ex_len0 Tryz.underlying29 rfl rfl) ?_)
  simp only [zP, po]
  by_cases hb9 : (i : Int) < (l.length : Int)
  ·refine xG (.bool true) rfl (ex_lss rfl rfl rfl (decide_eq_true hb9)) ?_
   simp only [zP, po]
   refine wK k8 (cT rfl ?_)
   refine kS (tK k7 ?_)
   refine sK fun _ k10 => bB (sK fun _ k11 => ?_)
   obtain ⟨x, hx⟩ : ∃ x, l[i]? = some x := ⟨_, List.getElem?_eq_getElem (show i < l.length by omega)⟩
   obtain ⟨bb, bo, had, hrdx⟩ := text_reads hr hx
   subst had
   obtain ⟨b2, o2, hadb2, hrdb2⟩ := text_reads hr' hx
   subst hadb2
   refine rW mixed [] [0,1,2,3,4,5,6,7,8] 26 rfl (by kernel_rfl) hv ?_
   simp only [qm, opAt]
   refine dM (.slice (some ⟨bb, bo, none⟩) l.length c) rfl (dM (.int .i64 (i : Int)) rfl ?_)
   refine dG (.pointer (some ⟨bb, bo + i, none⟩)) rfl (ex_index rfl rfl rfl (run_idx1 (k := i) Tryz.underlying29 s9es29 (by omega))) ?_
   simp only [zP, po]
   refine dL _ rfl (fun hv => ex_load rfl rfl (run_load1 s9na9 (hrdx _ _ _ (Base.Le.refl _) no_res hv 0 _ rfl))) (dM (.slice (some ⟨b2, o2, none⟩) l.length c') rfl ?_)
   refine dM (.int .i64 (i : Int)) rfl ?_
   simp only [zP, po]
   refine dG (.pointer (some ⟨b2, o2 + i, none⟩)) rfl (ex_index rfl rfl rfl (run_idx1 (k := i) Tryz.underlying29 s9es29 (by omega))) (dL _ rfl (fun hv => ex_load rfl rfl (run_load1 s9na9 (hrdb2 _ _ _ (Base.Le.refl _) no_res hv 0 _ rfl))) ?_)
   refine dG (.bool false) rfl (ex_sneq rfl rfl rfl (decide_eq_false (fun h => h rfl))) (dE fun w12 hv => ?_)
   simp only [zP, po]
   refine tK k11 (cF rfl ?_)
   refine kS (bN ?_)
   refine tK k10 (rL ?_)
   refine xM (.int .i64 (i : Int)) rfl (xG (.int .i64 ((i + 1 : Nat) : Int)) rfl (ex_add rfl rfl rfl (by rw [i64_in (by omega)]; omega)) ?_)
   refine xA (.int .i64 ((i + 1 : Nat) : Int)) rfl (wL ?_)
   simp only [zP, po]
   refine then_normal ?_
   go_roundw
   case rel => exact ⟨i + 1, rfl, by omega, hv⟩
   case measure => show l.length - (((i + 1 : Nat) : Int)).toNat < l.length - ((i : Int)).toNat; omega
  refine xG (.bool false) rfl (ex_lss rfl rfl rfl (decide_eq_false hb9)) ?_
  simp only [zP, po]
  refine wK k8 (cF rfl ?_)
  refine xE (tX ?_)
  refine tX (bH ?_)
  refine tK k4 (sK fun _ k13 => ?_)
  refine rL (xA (.bool true) rfl ?_)
  simp only [zP, po]
  refine wK k13 (rR ?_)
  refine bR rfl rfl (⟨rfl, hv⟩)
set_option maxHeartbeats 2000000 in
theorem refPairs (B : Base) (H : List Res) (w : World) (ad ad' : Option Addr) (c c' : Nat) (l : List (List UInt8 × List UInt8)) (hr : RdV B [] ad (pairCells l)) (hr' : RdV B [] ad' (pairCells l)) (hm : l.length ≤ 1000000) (hv : Inv B H w) :
  Calls Tryz.prog 46 #[.slice ad l.length c, .slice ad' l.length c'] w fun e w' => e = .returned (.bool true) ∧ Inv B H w' := by
 refine cW Tryz.func46 rfl Tryz.ntmps46 ?_
 simp only [al]
 refine sK fun _ k1 => rL (xA (.bool false) rfl ?_)
 simp only [zP, po]
 refine wK k1 (sK fun _ k2 => ?_)
 refine sK fun _ k3 => rL (xM (.slice ad l.length c) rfl ?_)
 refine xG (.int .i64 (l.length : Int)) rfl (ex_len0 Tryz.underlying32 rfl rfl) (xM (.slice ad' l.length c') rfl ?_)
 simp only [zP, po]
 refine xG (.int .i64 (l.length : Int)) rfl (ex_len0 Tryz.underlying32 rfl rfl) (xG (.bool false) rfl (ex_neq rfl rfl rfl (decide_eq_false (fun h => h rfl))) ?_)
 simp only [zP, po]
 refine wK k3 (cF rfl ?_)
 refine kS (tK k2 ?_)
 refine sK fun _ k4 => sK fun _ k5 => rL (xA (.int .i64 0) rfl ?_)
 simp only [zP, po]
 refine wK k5 (bB ?_)
 gi_loopw [5] (fun x5 wr => ∃ (i : Nat), x5 = .int .i64 (i : Int) ∧ i ≤ l.length ∧ Inv B H wr) (fun x5 _ => l.length - (intOf x5).toNat)
 case atStart => exact ⟨0, rfl, Nat.zero_le _, hv⟩
 case round =>
  obtain ⟨i, rfl, hi, hv⟩ := hrel
  refine sK fun _ k7 => sK fun _ k8 => rL (xM (.int .i64 (i : Int)) rfl ?_)
  refine xM (.slice ad l.length c) rfl (xG (.int .i64 (l.length : Int)) rfl (ex_len0 Tryz.underlying32 rfl rfl) ?_)
  simp only [zP, po]
  by_cases hb9 : (i : Int) < (l.length : Int)
  ·refine xG (.bool true) rfl (ex_lss rfl rfl rfl (decide_eq_true hb9)) ?_
   simp only [zP, po]
   refine wK k8 (cT rfl ?_)
   refine kS (tK k7 ?_)
   refine sK fun _ k10 => bB (sK fun _ k11 => ?_)
   obtain ⟨x, hx⟩ : ∃ x, l[i]? = some x := ⟨_, List.getElem?_eq_getElem (show i < l.length by omega)⟩
   obtain ⟨bb, bo, had, hrdx⟩ := pair_reads hr hx
   subst had
   obtain ⟨b2, o2, hadb2, hrdb2⟩ := pair_reads hr' hx
   subst hadb2
   refine rW mixed [] [0,1,2,3,4,5,6,7,8] 26 rfl (by kernel_rfl) hv ?_
   simp only [qm, opAt]
   refine dM (.slice (some ⟨bb, bo, none⟩) l.length c) rfl (dM (.int .i64 (i : Int)) rfl ?_)
   refine dG (.pointer (some ⟨bb, bo + i * 2, none⟩)) rfl (ex_index rfl rfl rfl (run_idx (k := i) Tryz.underlying32 s10es32 (by omega))) ?_
   simp only [zP, po]
   refine dL (.agg #[.string ⟨x.1.toArray⟩, .string ⟨x.2.toArray⟩]) rfl (fun hv => ex_load rfl rfl (run_loadR (cs := [.string ⟨x.1.toArray⟩, .string ⟨x.2.toArray⟩]) s10wd97 (Reads.mid (pre := []) (mid := [.string ⟨x.1.toArray⟩, .string ⟨x.2.toArray⟩]) (post := []) hrdx _ _ _ (Base.Le.refl _) no_res hv))) (dM (.slice (some ⟨b2, o2, none⟩) l.length c') rfl ?_)
   refine dM (.int .i64 (i : Int)) rfl ?_
   simp only [zP, po]
   refine dG (.pointer (some ⟨b2, o2 + i * 2, none⟩)) rfl (ex_index rfl rfl rfl (run_idx (k := i) Tryz.underlying32 s10es32 (by omega))) (dL (.agg #[.string ⟨x.1.toArray⟩, .string ⟨x.2.toArray⟩]) rfl (fun hv => ex_load rfl rfl (run_loadR (cs := [.string ⟨x.1.toArray⟩, .string ⟨x.2.toArray⟩]) s10wd97 (Reads.mid (pre := []) (mid := [.string ⟨x.1.toArray⟩, .string ⟨x.2.toArray⟩]) (post := []) hrdb2 _ _ _ (Base.Le.refl _) no_res hv))) ?_)
   refine dG (.bool false) rfl (ex_neqSame (L := [.string ⟨x.1.toArray⟩, .string ⟨x.2.toArray⟩]) rfl rfl rfl (by kernel_rfl) (fun w => pairEq 9998 w x.1 x.2)) (dE fun w12 hv => ?_)
   simp only [zP, po]
   refine tK k11 (cF rfl ?_)
   refine kS (bN ?_)
   refine tK k10 (rL ?_)
   refine xM (.int .i64 (i : Int)) rfl (xG (.int .i64 ((i + 1 : Nat) : Int)) rfl (ex_add rfl rfl rfl (by rw [i64_in (by omega)]; omega)) ?_)
   refine xA (.int .i64 ((i + 1 : Nat) : Int)) rfl (wL ?_)
   simp only [zP, po]
   refine then_normal ?_
   go_roundw
   case rel => exact ⟨i + 1, rfl, by omega, hv⟩
   case measure => show l.length - (((i + 1 : Nat) : Int)).toNat < l.length - ((i : Int)).toNat; omega
  refine xG (.bool false) rfl (ex_lss rfl rfl rfl (decide_eq_false hb9)) ?_
  simp only [zP, po]
  refine wK k8 (cF rfl ?_)
  refine xE (tX ?_)
  refine tX (bH ?_)
  refine tK k4 (sK fun _ k13 => ?_)
  refine rL (xA (.bool true) rfl ?_)
  simp only [zP, po]
  refine wK k13 (rR ?_)
  refine bR rfl rfl (⟨rfl, hv⟩)
set_option maxHeartbeats 2000000 in
theorem refMems (B : Base) (H : List Res) (w : World) (ad ad' : Option Addr) (c c' : Nat) (l : List (Int × List UInt8)) (hr : RdV B [] ad (memCells l)) (hr' : RdV B [] ad' (memCells l)) (hm : l.length ≤ 1000000) (hv : Inv B H w) :
  Calls Tryz.prog 47 #[.slice ad l.length c, .slice ad' l.length c'] w fun e w' => e = .returned (.bool true) ∧ Inv B H w' := by
 refine cW Tryz.func47 rfl Tryz.ntmps47 ?_
 simp only [al]
 refine sK fun _ k1 => rL (xA (.bool false) rfl ?_)
 simp only [zP, po]
 refine wK k1 (sK fun _ k2 => ?_)
 refine sK fun _ k3 => rL (xM (.slice ad l.length c) rfl ?_)
 refine xG (.int .i64 (l.length : Int)) rfl (ex_len0 Tryz.underlying33 rfl rfl) (xM (.slice ad' l.length c') rfl ?_)
 simp only [zP, po]
 refine xG (.int .i64 (l.length : Int)) rfl (ex_len0 Tryz.underlying33 rfl rfl) (xG (.bool false) rfl (ex_neq rfl rfl rfl (decide_eq_false (fun h => h rfl))) ?_)
 simp only [zP, po]
 refine wK k3 (cF rfl ?_)
 refine kS (tK k2 ?_)
 refine sK fun _ k4 => sK fun _ k5 => rL (xA (.int .i64 0) rfl ?_)
 simp only [zP, po]
 refine wK k5 (bB ?_)
 gi_loopw [5] (fun x5 wr => ∃ (i : Nat), x5 = .int .i64 (i : Int) ∧ i ≤ l.length ∧ Inv B H wr) (fun x5 _ => l.length - (intOf x5).toNat)
 case atStart => exact ⟨0, rfl, Nat.zero_le _, hv⟩
 case round =>
  obtain ⟨i, rfl, hi, hv⟩ := hrel
  refine sK fun _ k7 => sK fun _ k8 => rL (xM (.int .i64 (i : Int)) rfl ?_)
  refine xM (.slice ad l.length c) rfl (xG (.int .i64 (l.length : Int)) rfl (ex_len0 Tryz.underlying33 rfl rfl) ?_)
  simp only [zP, po]
  by_cases hb9 : (i : Int) < (l.length : Int)
  ·refine xG (.bool true) rfl (ex_lss rfl rfl rfl (decide_eq_true hb9)) ?_
   simp only [zP, po]
   refine wK k8 (cT rfl ?_)
   refine kS (tK k7 ?_)
   refine sK fun _ k10 => bB (sK fun _ k11 => ?_)
   obtain ⟨x, hx⟩ : ∃ x, l[i]? = some x := ⟨_, List.getElem?_eq_getElem (show i < l.length by omega)⟩
   obtain ⟨bb, bo, had, hrdx⟩ := mem_reads hr hx
   subst had
   obtain ⟨b2, o2, hadb2, hrdb2⟩ := mem_reads hr' hx
   subst hadb2
   refine rW mixed [] [0,1,2,3,4,5,6,7,8] 26 rfl (by kernel_rfl) hv ?_
   simp only [qm, opAt]
   refine dM (.slice (some ⟨bb, bo, none⟩) l.length c) rfl (dM (.int .i64 (i : Int)) rfl ?_)
   refine dG (.pointer (some ⟨bb, bo + i * 2, none⟩)) rfl (ex_index rfl rfl rfl (run_idx (k := i) Tryz.underlying33 s9es33 (by omega))) ?_
   simp only [zP, po]
   refine dL (.agg #[.int .i64 x.1, .string ⟨x.2.toArray⟩]) rfl (fun hv => ex_load rfl rfl (run_loadR (cs := [.int .i64 x.1, .string ⟨x.2.toArray⟩]) s9wd99 (Reads.mid (pre := []) (mid := [.int .i64 x.1, .string ⟨x.2.toArray⟩]) (post := []) hrdx _ _ _ (Base.Le.refl _) no_res hv))) (dM (.slice (some ⟨b2, o2, none⟩) l.length c') rfl ?_)
   refine dM (.int .i64 (i : Int)) rfl ?_
   simp only [zP, po]
   refine dG (.pointer (some ⟨b2, o2 + i * 2, none⟩)) rfl (ex_index rfl rfl rfl (run_idx (k := i) Tryz.underlying33 s9es33 (by omega))) (dL (.agg #[.int .i64 x.1, .string ⟨x.2.toArray⟩]) rfl (fun hv => ex_load rfl rfl (run_loadR (cs := [.int .i64 x.1, .string ⟨x.2.toArray⟩]) s9wd99 (Reads.mid (pre := []) (mid := [.int .i64 x.1, .string ⟨x.2.toArray⟩]) (post := []) hrdb2 _ _ _ (Base.Le.refl _) no_res hv))) ?_)
   refine dG (.bool false) rfl (ex_neqSame (L := [.int .i64 x.1, .string ⟨x.2.toArray⟩]) rfl rfl rfl (by kernel_rfl) (fun w => memEq 9998 w x.1 x.2)) (dE fun w12 hv => ?_)
   simp only [zP, po]
   refine tK k11 (cF rfl ?_)
   refine kS (bN ?_)
   refine tK k10 (rL ?_)
   refine xM (.int .i64 (i : Int)) rfl (xG (.int .i64 ((i + 1 : Nat) : Int)) rfl (ex_add rfl rfl rfl (by rw [i64_in (by omega)]; omega)) ?_)
   refine xA (.int .i64 ((i + 1 : Nat) : Int)) rfl (wL ?_)
   simp only [zP, po]
   refine then_normal ?_
   go_roundw
   case rel => exact ⟨i + 1, rfl, by omega, hv⟩
   case measure => show l.length - (((i + 1 : Nat) : Int)).toNat < l.length - ((i : Int)).toNat; omega
  refine xG (.bool false) rfl (ex_lss rfl rfl rfl (decide_eq_false hb9)) ?_
  simp only [zP, po]
  refine wK k8 (cF rfl ?_)
  refine xE (tX ?_)
  refine tX (bH ?_)
  refine tK k4 (sK fun _ k13 => ?_)
  refine rL (xA (.bool true) rfl ?_)
  simp only [zP, po]
  refine wK k13 (rR ?_)
  refine bR rfl rfl (⟨rfl, hv⟩)
theorem s18callable46 : Callable Tryz.prog 46 := ⟨_, Tryz.func46, by kernel_rfl, by kernel_rfl⟩
theorem s18callable18 : Callable Tryz.prog 18 := ⟨_, Tryz.func18, by kernel_rfl, by kernel_rfl⟩
theorem s18callable47 : Callable Tryz.prog 47 := ⟨_, Tryz.func47, by kernel_rfl, by kernel_rfl⟩
set_option maxHeartbeats 2000000 in
theorem refSame0 (B : Base) (H : List Res) (w : World) (v : Val) (ap at2 az ap' at2' az' : Option Addr) (cp ct cz cp' ct' cz' : Nat) (hrp : RdV B [] ap (pairCells v.pairs)) (hrt : RdV B [] at2 (textCells v.texts)) (hrz : RdV B [] az (memCells v.zset)) (hrp' : RdV B [] ap' (pairCells v.pairs)) (hrt' : RdV B [] at2' (textCells v.texts)) (hrz' : RdV B [] az' (memCells v.zset)) (hpm : v.pairs.length ≤ 1000000) (htm : v.texts.length ≤ 1000000) (hzm : v.zset.length ≤ 1000000) (hv : Inv B H w) :
  Calls Tryz.prog 16 #[.agg #[.int .i64 v.kind, .string ⟨v.text.toArray⟩, .slice ap v.pairs.length cp, .slice at2 v.texts.length ct, .slice az v.zset.length cz], .agg #[.int .i64 v.kind, .string ⟨v.text.toArray⟩, .slice ap' v.pairs.length cp', .slice at2' v.texts.length ct', .slice az' v.zset.length cz']] w fun e w' => e = .returned (.bool true) ∧ Inv B H w' := by
 refine cW Tryz.func16 rfl Tryz.ntmps16 ?_
 simp only [al]
 refine sK fun _ k1 => rL (sl_box (L := [.int .i64 v.kind, .string ⟨v.text.toArray⟩, .slice ap v.pairs.length cp, .slice at2 v.texts.length ct, .slice az v.zset.length cz]) tV (wn rfl) rfl rfl hv (fun w => by kernel_rfl) (fun b2 w3 hv => ?_))
 refine sl_box (L := [.int .i64 v.kind, .string ⟨v.text.toArray⟩, .slice ap' v.pairs.length cp', .slice at2' v.texts.length ct', .slice az' v.zset.length cz']) tV (wn rfl) rfl rfl hv (fun w => by kernel_rfl) (fun b4 w5 hv => ?_)
 refine xA (.bool false) rfl ?_
 simp only [zP, po]
 refine wK k1 (sK fun _ k6 => ?_)
 refine rL (xF (.pointer (some ⟨b2, 0, none⟩)) rfl (s12fa35_0 _ _ _) ?_)
 refine xL _ rfl (run_load1 s2na3 (hv.load 1 0 rfl rfl)) (xF (.pointer (some ⟨b4, 0, none⟩)) rfl (s12fa35_0 _ _ _) ?_)
 simp only [zP, po]
 refine xL _ rfl (run_load1 s2na3 (hv.load 0 0 rfl rfl)) (xG (.bool true) rfl (ex_eql rfl rfl rfl (decide_eq_true (rfl))) ?_)
 refine xM (.bool true) rfl ?_
 simp only [zP, po]
 refine xF (.pointer (some ⟨b2, 1, none⟩)) rfl (s12fa35_1 _ _ _) (xL _ rfl (run_load1 s9na9 (hv.load 1 1 rfl rfl)) ?_)
 refine xF (.pointer (some ⟨b4, 1, none⟩)) rfl (s12fa35_1 _ _ _) ?_
 simp only [zP, po]
 refine xL _ rfl (run_load1 s9na9 (hv.load 0 1 rfl rfl)) (xG (.bool true) rfl (ex_seql rfl rfl rfl (decide_eq_true (rfl))) ?_)
 refine xK true (.bool true) rfl ?_
 simp only [zP, po]
 refine xM (.bool true) rfl (xF (.pointer (some ⟨b2, 2, none⟩)) rfl (s1fa35_2 _ _ _) ?_)
 refine xL _ rfl (run_load1 s1na32 (hv.load 1 2 rfl rfl)) ?_
 simp only [zP, po]
 refine xF (.pointer (some ⟨b4, 2, none⟩)) rfl (s1fa35_2 _ _ _) (xL _ rfl (run_load1 s1na32 (hv.load 0 2 rfl rfl)) ?_)
 refine xC s18callable46 rfl ((refPairs B _ _ _ _ _ _ _ hrp hrp' (by omega) hv).mono ?_) rfl
 rintro e w7 ⟨rfl, hv⟩
 refine ⟨_, rfl, ?_⟩
 simp only [zP, po]
 refine xK true (.bool true) rfl (xM (.bool true) rfl ?_)
 refine xF (.pointer (some ⟨b2, 3, none⟩)) rfl (s1fa35_3 _ _ _) ?_
 simp only [zP, po]
 refine xL _ rfl (run_load1 s1na29 (hv.load 1 3 rfl rfl)) (xF (.pointer (some ⟨b4, 3, none⟩)) rfl (s1fa35_3 _ _ _) ?_)
 refine xL _ rfl (run_load1 s1na29 (hv.load 0 3 rfl rfl)) ?_
 simp only [zP, po]
 refine xC s18callable18 rfl ((refWords B _ _ _ _ _ _ _ hrt hrt' (by omega) hv).mono ?_) rfl
 rintro e w8 ⟨rfl, hv⟩
 refine ⟨_, rfl, ?_⟩
 refine xK true (.bool true) rfl (xM (.bool true) rfl ?_)
 simp only [zP, po]
 refine xF (.pointer (some ⟨b2, 4, none⟩)) rfl (s1fa35_4 _ _ _) (xL _ rfl (run_load1 s1na33 (hv.load 1 4 rfl rfl)) ?_)
 refine xF (.pointer (some ⟨b4, 4, none⟩)) rfl (s1fa35_4 _ _ _) ?_
 simp only [zP, po]
 refine xL _ rfl (run_load1 s1na33 (hv.load 0 4 rfl rfl)) (xC s18callable47 rfl ((refMems B _ _ _ _ _ _ _ hrz hrz' (by omega) hv).mono ?_) rfl)
 rintro e w9 ⟨rfl, hv⟩
 refine ⟨_, rfl, ?_⟩
 refine xK true (.bool true) rfl ?_
 simp only [zP, po]
 refine xA (.bool true) rfl ?_
 simp only [zP, po]
 refine wK k6 (rR ?_)
 refine bR rfl rfl (⟨rfl, (hv.sub (List.Sublist.cons _ (List.Sublist.cons _ (List.Sublist.refl _))))⟩)
theorem refSameV (B : Base) (H : List Res) (w : World) (v : Val) (p t z p' t' z' : Value) (h : ValRd B v p t z) (h' : ValRd B v p' t' z') (hpm : v.pairs.length ≤ 1000000) (htm : v.texts.length ≤ 1000000) (hzm : v.zset.length ≤ 1000000) (hv : Inv B H w) : Calls Tryz.prog 16 #[.agg (valCells v p t z).toArray, .agg (valCells v p' t' z').toArray] w fun e w' => e = .returned (.bool true) ∧ Inv B H w' := by
 obtain ⟨⟨ap, cp, rfl, -, hrp⟩, ⟨at2, ct, rfl, -, hrt⟩, ⟨az, cz, rfl, -, hrz⟩⟩ := h
 obtain ⟨⟨ap', cp', rfl, -, hrp'⟩, ⟨at2', ct', rfl, -, hrt'⟩, ⟨az', cz', rfl, -, hrz'⟩⟩ := h'
 exact refSame0 B H w v ap at2 az ap' at2' az' cp ct cz cp' ct' cz' hrp hrt hrz hrp' hrt' hrz' hpm htm hzm hv
set_option maxHeartbeats 4000000 in
theorem refSmall0 (B : Base) (H : List Res) (w : World) (v : Val) (ap at2 az : Option Addr) (cp ct cz : Nat) (hrp : RdV B [] ap (pairCells v.pairs)) (hrt : RdV B [] at2 (textCells v.texts)) (hrz : RdV B [] az (memCells v.zset)) (hv : Inv B H w) :
  Calls Tryz.prog 8 #[.agg #[.int .i64 v.kind, .string ⟨v.text.toArray⟩, .slice ap v.pairs.length cp, .slice at2 v.texts.length ct, .slice az v.zset.length cz]] w fun e w' => ∃ b, e = .returned (.bool b) ∧ (b = true → ValSm v) ∧ Inv B H w' := by
 refine cW Tryz.func8 rfl Tryz.ntmps8 ?_
 simp only [al]
 refine sK fun _ k1 => rL (sl_box (L := [.int .i64 v.kind, .string ⟨v.text.toArray⟩, .slice ap v.pairs.length cp, .slice at2 v.texts.length ct, .slice az v.zset.length cz]) tV (wn rfl) rfl rfl hv (fun w => by kernel_rfl) (fun b2 w3 hv => ?_))
 refine xA (.bool false) rfl ?_
 simp only [zP, po]
 refine wK k1 (sK fun _ k4 => ?_)
 refine sK fun _ k5 => rL (xF (.pointer (some ⟨b2, 1, none⟩)) rfl (s12fa35_1 _ _ _) ?_)
 refine xL _ rfl (run_load1 s9na9 (hv.load 0 1 rfl rfl)) (xG (.int .i64 (v.text.length : Int)) rfl (ex_lenStr Tryz.underlying9 rfl rfl) ?_)
 simp only [zP, po]
 by_cases hb6 : (v.text.length : Int) > 5000
 ·refine xG (.bool true) rfl (ex_gtr rfl rfl rfl (decide_eq_true hb6)) (xM (.bool true) rfl ?_)
  iterate 4 refine yN rfl ?_
  refine xK true (.bool true) rfl ?_
  simp only [zP, po]
  refine xM (.bool true) rfl ?_
  iterate 4 refine yN rfl ?_
  refine xK true (.bool true) rfl (xM (.bool true) rfl ?_)
  simp only [zP, po]
  iterate 4 refine yN rfl ?_
  refine xK true (.bool true) rfl ?_
  simp only [zP, po]
  refine wK k5 (cT rfl ?_)
  refine sK fun _ k7 => rL (xA (.bool false) rfl ?_)
  simp only [zP, po]
  refine wK k7 (rR ?_)
  refine tR (bR rfl rfl ?_)
  exact ⟨false, rfl, fun h => (by cases h), (hv.sub (List.Sublist.cons _ (List.Sublist.refl _)))⟩
 refine xG (.bool false) rfl (ex_gtr rfl rfl rfl (decide_eq_false hb6)) (xM (.bool false) rfl ?_)
 refine xF (.pointer (some ⟨b2, 2, none⟩)) rfl (s1fa35_2 _ _ _) ?_
 simp only [zP, po]
 refine xL _ rfl (run_load1 s1na32 (hv.load 0 2 rfl rfl)) (xG (.int .i64 (v.pairs.length : Int)) rfl (ex_len0 Tryz.underlying32 rfl rfl) ?_)
 by_cases hb8 : (v.pairs.length : Int) > 60
 ·refine xG (.bool true) rfl (ex_gtr rfl rfl rfl (decide_eq_true hb8)) ?_
  simp only [zP, po]
  refine xK false (.bool true) rfl (xM (.bool true) rfl ?_)
  iterate 4 refine yN rfl ?_
  refine xK true (.bool true) rfl ?_
  simp only [zP, po]
  refine xM (.bool true) rfl ?_
  iterate 4 refine yN rfl ?_
  refine xK true (.bool true) rfl ?_
  simp only [zP, po]
  refine wK k5 (cT rfl ?_)
  refine sK fun _ k9 => rL (xA (.bool false) rfl ?_)
  simp only [zP, po]
  refine wK k9 (rR ?_)
  refine tR (bR rfl rfl ?_)
  exact ⟨false, rfl, fun h => (by cases h), (hv.sub (List.Sublist.cons _ (List.Sublist.refl _)))⟩
 refine xG (.bool false) rfl (ex_gtr rfl rfl rfl (decide_eq_false hb8)) ?_
 simp only [zP, po]
 refine xK false (.bool false) rfl (xM (.bool false) rfl ?_)
 refine xF (.pointer (some ⟨b2, 3, none⟩)) rfl (s1fa35_3 _ _ _) ?_
 simp only [zP, po]
 refine xL _ rfl (run_load1 s1na29 (hv.load 0 3 rfl rfl)) (xG (.int .i64 (v.texts.length : Int)) rfl (ex_len0 Tryz.underlying29 rfl rfl) ?_)
 by_cases hb10 : (v.texts.length : Int) > 600
 ·refine xG (.bool true) rfl (ex_gtr rfl rfl rfl (decide_eq_true hb10)) ?_
  simp only [zP, po]
  refine xK false (.bool true) rfl (xM (.bool true) rfl ?_)
  iterate 4 refine yN rfl ?_
  refine xK true (.bool true) rfl ?_
  simp only [zP, po]
  refine wK k5 (cT rfl ?_)
  refine sK fun _ k11 => rL (xA (.bool false) rfl ?_)
  simp only [zP, po]
  refine wK k11 (rR ?_)
  refine tR (bR rfl rfl ?_)
  exact ⟨false, rfl, fun h => (by cases h), (hv.sub (List.Sublist.cons _ (List.Sublist.refl _)))⟩
 refine xG (.bool false) rfl (ex_gtr rfl rfl rfl (decide_eq_false hb10)) ?_
 simp only [zP, po]
 refine xK false (.bool false) rfl (xM (.bool false) rfl ?_)
 refine xF (.pointer (some ⟨b2, 4, none⟩)) rfl (s1fa35_4 _ _ _) ?_
 simp only [zP, po]
 refine xL _ rfl (run_load1 s1na33 (hv.load 0 4 rfl rfl)) (xG (.int .i64 (v.zset.length : Int)) rfl (ex_len0 Tryz.underlying33 rfl rfl) ?_)
 by_cases hb12 : (v.zset.length : Int) > 60
 ·refine xG (.bool true) rfl (ex_gtr rfl rfl rfl (decide_eq_true hb12)) ?_
  simp only [zP, po]
  refine xK false (.bool true) rfl ?_
  simp only [zP, po]
  refine wK k5 (cT rfl ?_)
  refine sK fun _ k13 => rL (xA (.bool false) rfl ?_)
  simp only [zP, po]
  refine wK k13 (rR ?_)
  refine tR (bR rfl rfl ?_)
  exact ⟨false, rfl, fun h => (by cases h), (hv.sub (List.Sublist.cons _ (List.Sublist.refl _)))⟩
 refine xG (.bool false) rfl (ex_gtr rfl rfl rfl (decide_eq_false hb12)) ?_
 simp only [zP, po]
 refine xK false (.bool false) rfl ?_
 simp only [zP, po]
 refine wK k5 (cF rfl ?_)
 refine kS (tK k4 ?_)
 refine sK fun _ k14 => sK fun _ k15 => rL (xA (.int .i64 0) rfl ?_)
 simp only [zP, po]
 refine wK k15 (bB ?_)
 gi_loopw [3] (fun x3 wr => ∃ (i : Nat), x3 = .int .i64 (i : Int) ∧ i ≤ v.pairs.length ∧ Inv B (Res.cell b2 [.int .i64 v.kind, .string ⟨v.text.toArray⟩, .slice ap v.pairs.length cp, .slice at2 v.texts.length ct, .slice az v.zset.length cz] 35 :: H) wr) (fun x3 _ => v.pairs.length - (intOf x3).toNat)
 case atStart => exact ⟨0, rfl, Nat.zero_le _, hv⟩
 case round =>
  obtain ⟨i, rfl, hi, hv⟩ := hrel
  refine sK fun _ k17 => sK fun _ k18 => rL (xM (.int .i64 (i : Int)) rfl ?_)
  refine xF (.pointer (some ⟨b2, 2, none⟩)) rfl (s1fa35_2 _ _ _) (xL _ rfl (run_load1 s1na32 (hv.load 0 2 rfl rfl)) ?_)
  simp only [zP, po]
  refine xG (.int .i64 (v.pairs.length : Int)) rfl (ex_len0 Tryz.underlying32 rfl rfl) ?_
  by_cases hb19 : (i : Int) < (v.pairs.length : Int)
  ·refine xG (.bool true) rfl (ex_lss rfl rfl rfl (decide_eq_true hb19)) ?_
   simp only [zP, po]
   refine wK k18 (cT rfl ?_)
   refine kS (tK k17 ?_)
   refine sK fun _ k20 => bB (sK fun _ k21 => ?_)
   obtain ⟨x, hx⟩ : ∃ x, v.pairs[i]? = some x := ⟨_, List.getElem?_eq_getElem (show i < v.pairs.length by omega)⟩
   obtain ⟨bb, bo, had, hrdx⟩ := pair_reads hrp hx
   subst had
   refine rL (xF (.pointer (some ⟨b2, 2, none⟩)) rfl (s1fa35_2 _ _ _) ?_)
   refine xL _ rfl (run_load1 s1na32 (hv.load 0 2 rfl rfl)) (xM (.int .i64 (i : Int)) rfl ?_)
   simp only [zP, po]
   refine xG (.pointer (some ⟨bb, bo + i * 2, none⟩)) rfl (ex_index rfl rfl rfl (run_idx (k := i) Tryz.underlying32 s10es32 (by omega))) (xF (.pointer (some ⟨bb, bo + i * 2, none⟩)) rfl (s10fa97_0 _ _ _) ?_)
   refine xL _ rfl (run_load1 s9na9 (hrdx _ _ _ (Base.Le.refl _) no_res hv 0 _ rfl)) ?_
   simp only [zP, po]
   refine xG (.int .i64 (x.1.length : Int)) rfl (ex_lenStr Tryz.underlying9 rfl rfl) ?_
   by_cases hb22 : (x.1.length : Int) > 200
   ·refine xG (.bool true) rfl (ex_gtr rfl rfl rfl (decide_eq_true hb22)) (xM (.bool true) rfl ?_)
    simp only [zP, po]
    refine yP rfl (yP rfl ?_)
    refine yP rfl ?_
    simp only [zP, po]
    refine yP rfl (yP rfl ?_)
    refine yP rfl ?_
    simp only [zP, po]
    refine yP rfl (yP rfl ?_)
    refine xK true (.bool true) rfl ?_
    simp only [zP, po]
    refine wK k21 (cT rfl ?_)
    refine sK fun _ k23 => rL (xA (.bool false) rfl ?_)
    simp only [zP, po]
    refine wK k23 (rR ?_)
    refine bE (tR ?_)
    refine tR (bE ?_)
    refine tR (bR rfl rfl ?_)
    exact ⟨false, rfl, fun h => (by cases h), (hv.sub (List.Sublist.cons _ (List.Sublist.refl _)))⟩
   refine xG (.bool false) rfl (ex_gtr rfl rfl rfl (decide_eq_false hb22)) (xM (.bool false) rfl ?_)
   simp only [zP, po]
   refine xF (.pointer (some ⟨b2, 2, none⟩)) rfl (s1fa35_2 _ _ _) (xL _ rfl (run_load1 s1na32 (hv.load 0 2 rfl rfl)) ?_)
   refine xM (.int .i64 (i : Int)) rfl ?_
   simp only [zP, po]
   refine xG (.pointer (some ⟨bb, bo + i * 2, none⟩)) rfl (ex_index rfl rfl rfl (run_idx (k := i) Tryz.underlying32 s10es32 (by omega))) (xF (.pointer (some ⟨bb, bo + i * 2 + 1, none⟩)) rfl (s10fa97_1 _ _ _) ?_)
   refine xL _ rfl (run_load1 s9na9 (hrdx _ _ _ (Base.Le.refl _) no_res hv 1 _ rfl)) ?_
   simp only [zP, po]
   refine xG (.int .i64 (x.2.length : Int)) rfl (ex_lenStr Tryz.underlying9 rfl rfl) ?_
   by_cases hb24 : (x.2.length : Int) > 5000
   ·refine xG (.bool true) rfl (ex_gtr rfl rfl rfl (decide_eq_true hb24)) (xK false (.bool true) rfl ?_)
    simp only [zP, po]
    refine wK k21 (cT rfl ?_)
    refine sK fun _ k25 => rL (xA (.bool false) rfl ?_)
    simp only [zP, po]
    refine wK k25 (rR ?_)
    refine bE (tR ?_)
    refine tR (bE ?_)
    refine tR (bR rfl rfl ?_)
    exact ⟨false, rfl, fun h => (by cases h), (hv.sub (List.Sublist.cons _ (List.Sublist.refl _)))⟩
   refine xG (.bool false) rfl (ex_gtr rfl rfl rfl (decide_eq_false hb24)) (xK false (.bool false) rfl ?_)
   simp only [zP, po]
   refine wK k21 (cF rfl ?_)
   refine kS (bN ?_)
   refine tK k20 (rL ?_)
   refine xM (.int .i64 (i : Int)) rfl (xG (.int .i64 ((i + 1 : Nat) : Int)) rfl (ex_add rfl rfl rfl (by rw [i64_in (by omega)]; omega)) ?_)
   refine xA (.int .i64 ((i + 1 : Nat) : Int)) rfl (wL ?_)
   simp only [zP, po]
   refine then_normal ?_
   go_roundw
   case rel => exact ⟨i + 1, rfl, by omega, hv⟩
   case measure => show v.pairs.length - (((i + 1 : Nat) : Int)).toNat < v.pairs.length - ((i : Int)).toNat; omega
  refine xG (.bool false) rfl (ex_lss rfl rfl rfl (decide_eq_false hb19)) ?_
  simp only [zP, po]
  refine wK k18 (cF rfl ?_)
  refine xE (tX ?_)
  refine tX (bH ?_)
  refine tK k14 (sK fun _ k26 => ?_)
  refine sK fun _ k27 => rL (xA (.int .i64 0) rfl ?_)
  simp only [zP, po]
  refine wK k27 (bB ?_)
  gi_loopw [4] (fun x4 wr => ∃ (i : Nat), x4 = .int .i64 (i : Int) ∧ i ≤ v.texts.length ∧ Inv B (Res.cell b2 [.int .i64 v.kind, .string ⟨v.text.toArray⟩, .slice ap v.pairs.length cp, .slice at2 v.texts.length ct, .slice az v.zset.length cz] 35 :: H) wr) (fun x4 _ => v.texts.length - (intOf x4).toNat)
  case atStart => exact ⟨0, rfl, Nat.zero_le _, hv⟩
  case round =>
   obtain ⟨i, rfl, hi, hv⟩ := hrel
   refine sK fun _ k29 => sK fun _ k30 => rL (xM (.int .i64 (i : Int)) rfl ?_)
   refine xF (.pointer (some ⟨b2, 3, none⟩)) rfl (s1fa35_3 _ _ _) (xL _ rfl (run_load1 s1na29 (hv.load 0 3 rfl rfl)) ?_)
   simp only [zP, po]
   refine xG (.int .i64 (v.texts.length : Int)) rfl (ex_len0 Tryz.underlying29 rfl rfl) ?_
   by_cases hb31 : (i : Int) < (v.texts.length : Int)
   ·refine xG (.bool true) rfl (ex_lss rfl rfl rfl (decide_eq_true hb31)) ?_
    simp only [zP, po]
    refine wK k30 (cT rfl ?_)
    refine kS (tK k29 ?_)
    refine sK fun _ k32 => bB (sK fun _ k33 => ?_)
    obtain ⟨x, hx⟩ : ∃ x, v.texts[i]? = some x := ⟨_, List.getElem?_eq_getElem (show i < v.texts.length by omega)⟩
    obtain ⟨b3, o3, had, hrdx⟩ := text_reads hrt hx
    subst had
    refine rL (xF (.pointer (some ⟨b2, 3, none⟩)) rfl (s1fa35_3 _ _ _) ?_)
    refine xL _ rfl (run_load1 s1na29 (hv.load 0 3 rfl rfl)) (xM (.int .i64 (i : Int)) rfl ?_)
    simp only [zP, po]
    refine xG (.pointer (some ⟨b3, o3 + i, none⟩)) rfl (ex_index rfl rfl rfl (run_idx1 (k := i) Tryz.underlying29 s9es29 (by omega))) (xL _ rfl (run_load1 s9na9 (hrdx _ _ _ (Base.Le.refl _) no_res hv 0 _ rfl)) ?_)
    refine xG (.int .i64 (x.length : Int)) rfl (ex_lenStr Tryz.underlying9 rfl rfl) ?_
    simp only [zP, po]
    by_cases hb34 : (x.length : Int) > 200
    ·refine xG (.bool true) rfl (ex_gtr rfl rfl rfl (decide_eq_true hb34)) ?_
     simp only [zP, po]
     refine wK k33 (cT rfl ?_)
     refine sK fun _ k35 => rL (xA (.bool false) rfl ?_)
     simp only [zP, po]
     refine wK k35 (rR ?_)
     refine bE (tR ?_)
     refine tR (bE ?_)
     refine tR (bR rfl rfl ?_)
     exact ⟨false, rfl, fun h => (by cases h), (hv.sub (List.Sublist.cons _ (List.Sublist.refl _)))⟩
    refine xG (.bool false) rfl (ex_gtr rfl rfl rfl (decide_eq_false hb34)) ?_
    simp only [zP, po]
    refine wK k33 (cF rfl ?_)
    refine kS (bN ?_)
    refine tK k32 (rL ?_)
    refine xM (.int .i64 (i : Int)) rfl (xG (.int .i64 ((i + 1 : Nat) : Int)) rfl (ex_add rfl rfl rfl (by rw [i64_in (by omega)]; omega)) ?_)
    refine xA (.int .i64 ((i + 1 : Nat) : Int)) rfl (wL ?_)
    simp only [zP, po]
    refine then_normal ?_
    go_roundw
    case rel => exact ⟨i + 1, rfl, by omega, hv⟩
    case measure => show v.texts.length - (((i + 1 : Nat) : Int)).toNat < v.texts.length - ((i : Int)).toNat; omega
   refine xG (.bool false) rfl (ex_lss rfl rfl rfl (decide_eq_false hb31)) ?_
   simp only [zP, po]
   refine wK k30 (cF rfl ?_)
   refine xE (tX ?_)
   refine tX (bH ?_)
   refine tK k26 (sK fun _ k36 => ?_)
   refine sK fun _ k37 => rL (xA (.int .i64 0) rfl ?_)
   simp only [zP, po]
   refine wK k37 (bB ?_)
   gi_loopw [5] (fun x5 wr => ∃ (i : Nat), x5 = .int .i64 (i : Int) ∧ i ≤ v.zset.length ∧ Inv B (Res.cell b2 [.int .i64 v.kind, .string ⟨v.text.toArray⟩, .slice ap v.pairs.length cp, .slice at2 v.texts.length ct, .slice az v.zset.length cz] 35 :: H) wr) (fun x5 _ => v.zset.length - (intOf x5).toNat)
   case atStart => exact ⟨0, rfl, Nat.zero_le _, hv⟩
   case round =>
    obtain ⟨i, rfl, hi, hv⟩ := hrel
    refine sK fun _ k39 => sK fun _ k40 => rL (xM (.int .i64 (i : Int)) rfl ?_)
    refine xF (.pointer (some ⟨b2, 4, none⟩)) rfl (s1fa35_4 _ _ _) (xL _ rfl (run_load1 s1na33 (hv.load 0 4 rfl rfl)) ?_)
    simp only [zP, po]
    refine xG (.int .i64 (v.zset.length : Int)) rfl (ex_len0 Tryz.underlying33 rfl rfl) ?_
    by_cases hb41 : (i : Int) < (v.zset.length : Int)
    ·refine xG (.bool true) rfl (ex_lss rfl rfl rfl (decide_eq_true hb41)) ?_
     simp only [zP, po]
     refine wK k40 (cT rfl ?_)
     refine kS (tK k39 ?_)
     refine sK fun _ k42 => bB (sK fun _ k43 => ?_)
     obtain ⟨x, hx⟩ : ∃ x, v.zset[i]? = some x := ⟨_, List.getElem?_eq_getElem (show i < v.zset.length by omega)⟩
     obtain ⟨b4, o4, had, hrdx⟩ := mem_reads hrz hx
     subst had
     refine rL (xF (.pointer (some ⟨b2, 4, none⟩)) rfl (s1fa35_4 _ _ _) ?_)
     refine xL _ rfl (run_load1 s1na33 (hv.load 0 4 rfl rfl)) (xM (.int .i64 (i : Int)) rfl ?_)
     simp only [zP, po]
     refine xG (.pointer (some ⟨b4, o4 + i * 2, none⟩)) rfl (ex_index rfl rfl rfl (run_idx (k := i) Tryz.underlying33 s9es33 (by omega))) (xF (.pointer (some ⟨b4, o4 + i * 2 + 1, none⟩)) rfl (s9fa99_1 _ _ _) ?_)
     refine xL _ rfl (run_load1 s9na9 (hrdx _ _ _ (Base.Le.refl _) no_res hv 1 _ rfl)) ?_
     simp only [zP, po]
     refine xG (.int .i64 (x.2.length : Int)) rfl (ex_lenStr Tryz.underlying9 rfl rfl) ?_
     by_cases hb44 : (x.2.length : Int) > 200
     ·refine xG (.bool true) rfl (ex_gtr rfl rfl rfl (decide_eq_true hb44)) ?_
      simp only [zP, po]
      refine wK k43 (cT rfl ?_)
      refine sK fun _ k45 => rL (xA (.bool false) rfl ?_)
      simp only [zP, po]
      refine wK k45 (rR ?_)
      refine bE (tR ?_)
      refine tR (bE ?_)
      refine tR (bR rfl rfl ?_)
      exact ⟨false, rfl, fun h => (by cases h), (hv.sub (List.Sublist.cons _ (List.Sublist.refl _)))⟩
     refine xG (.bool false) rfl (ex_gtr rfl rfl rfl (decide_eq_false hb44)) ?_
     simp only [zP, po]
     refine wK k43 (cF rfl ?_)
     refine kS (bN ?_)
     refine tK k42 (rL ?_)
     refine xM (.int .i64 (i : Int)) rfl (xG (.int .i64 ((i + 1 : Nat) : Int)) rfl (ex_add rfl rfl rfl (by rw [i64_in (by omega)]; omega)) ?_)
     refine xA (.int .i64 ((i + 1 : Nat) : Int)) rfl (wL ?_)
     simp only [zP, po]
     refine then_normal ?_
     go_roundw
     case rel => exact ⟨i + 1, rfl, by omega, hv⟩
     case measure => show v.zset.length - (((i + 1 : Nat) : Int)).toNat < v.zset.length - ((i : Int)).toNat; omega
    refine xG (.bool false) rfl (ex_lss rfl rfl rfl (decide_eq_false hb41)) ?_
    simp only [zP, po]
    refine wK k40 (cF rfl ?_)
    refine xE (tX ?_)
    refine tX (bH ?_)
    refine tK k36 (sK fun _ k46 => ?_)
    refine rL (xA (.bool true) rfl ?_)
    simp only [zP, po]
    refine wK k46 (rR ?_)
    refine bR rfl rfl (⟨true, rfl, fun _ => ⟨by omega, by omega, by omega⟩, (hv.sub (List.Sublist.cons _ (List.Sublist.refl _)))⟩)
theorem refSmall (B : Base) (H : List Res) (w : World) (v : Val) (p t z : Value) (h : ValRd B v p t z) (hv : Inv B H w) : Calls Tryz.prog 8 #[.agg (valCells v p t z).toArray] w fun e w' => ∃ b, e = .returned (.bool b) ∧ (b = true → ValSm v) ∧ Inv B H w' := by
 obtain ⟨⟨ap, cp, rfl, -, hrp⟩, ⟨at2, ct, rfl, -, hrt⟩, ⟨az, cz, rfl, -, hrz⟩⟩ := h
 exact refSmall0 B H w v ap at2 az cp ct cz hrp hrt hrz hv
end Go.Proofs.YtkoghbmjbobfjaaGreat
/- The reference's Less and Rises. -/
namespace Go.Proofs.YtkoghbmjbobfjaaGreat
open Go.RowKit Go.Pm
set_option maxHeartbeats 2000000 in
theorem refLess (B : Base) (H : List Res) (w : World) (a b : List UInt8) (hl : a.length ≤ 1000000000) (hv : Inv B H w) :
  Calls Tryz.prog 43 #[.string ⟨a.toArray⟩, .string ⟨b.toArray⟩] w fun e w' => e = .returned (.bool (Op.bytesLess a b)) ∧ Inv B H w' := by
 refine cW Tryz.func43 rfl Tryz.ntmps43 ?_
 simp only [al]
 refine sK fun _ k1 => rL (xA (.bool false) rfl ?_)
 simp only [zP, po]
 refine wK k1 (sK fun _ k2 => ?_)
 refine sK fun _ k3 => rL (xA (.int .i64 0) rfl ?_)
 simp only [zP, po]
 refine wK k3 (bB ?_)
 gi_loopw [5] (fun x5 wr => ∃ (i : Nat), x5 = .int .i64 (i : Int) ∧ i ≤ a.length ∧ i ≤ b.length ∧ a.take i = b.take i ∧ Inv B H wr) (fun x5 _ => a.length - (intOf x5).toNat)
 case atStart => exact ⟨0, rfl, Nat.zero_le _, Nat.zero_le _, rfl, hv⟩
 case round =>
  obtain ⟨i, rfl, hia, hib, hab, hv⟩ := hrel
  refine sK fun _ k5 => sK fun _ k6 => rL (xM (.int .i64 (i : Int)) rfl ?_)
  refine xM (.string ⟨a.toArray⟩) rfl (xG (.int .i64 (a.length : Int)) rfl (ex_lenStr Tryz.underlying9 rfl rfl) ?_)
  simp only [zP, po]
  by_cases hb7 : (i : Int) < (a.length : Int)
  ·refine xG (.bool true) rfl (ex_lss rfl rfl rfl (decide_eq_true hb7)) (xM (.bool true) rfl ?_)
   refine xM (.int .i64 (i : Int)) rfl ?_
   simp only [zP, po]
   refine xM (.string ⟨b.toArray⟩) rfl (xG (.int .i64 (b.length : Int)) rfl (ex_lenStr Tryz.underlying9 rfl rfl) ?_)
   by_cases hb8 : (i : Int) < (b.length : Int)
   ·refine xG (.bool true) rfl (ex_lss rfl rfl rfl (decide_eq_true hb8)) ?_
    simp only [zP, po]
    refine xK true (.bool true) rfl ?_
    simp only [zP, po]
    refine wK k6 (cT rfl ?_)
    refine kS (tK k5 ?_)
    refine sK fun _ k9 => bB (sK fun _ k10 => ?_)
    obtain ⟨x, hx⟩ : ∃ x, a[i]? = some x := ⟨_, List.getElem?_eq_getElem (show i < a.length by omega)⟩
    obtain ⟨y, hy⟩ : ∃ y, b[i]? = some y := ⟨_, List.getElem?_eq_getElem (show i < b.length by omega)⟩
    refine rW mixed [] [0,1,2,3,4,5,6] 37 rfl (by kernel_rfl) hv ?_
    simp only [qm, opAt]
    refine dM (.string ⟨a.toArray⟩) rfl (dM (.int .i64 (i : Int)) rfl ?_)
    refine dG (.int .u8 (x.toNat : Int)) rfl (ex_sidx0 Tryz.underlying9 rfl rfl rfl hx) ?_
    simp only [zP, po]
    refine dM (.string ⟨b.toArray⟩) rfl (dM (.int .i64 (i : Int)) rfl ?_)
    refine dG (.int .u8 (y.toNat : Int)) rfl (ex_sidx0 Tryz.underlying9 rfl rfl rfl hy) ?_
    simp only [zP, po]
    by_cases hb11 : (x.toNat : Int) ≠ (y.toNat : Int)
    ·refine dG (.bool true) rfl (ex_neq rfl rfl rfl (decide_eq_true hb11)) (dE fun w12 hv => ?_)
     simp only [zP, po]
     refine tK k10 (cT rfl ?_)
     refine sK fun _ k13 => rW mixed [] [0,1,2,3,4,5,6,7] 37 rfl (by kernel_rfl) hv ?_
     simp only [qm, opAt]
     refine dM (.string ⟨a.toArray⟩) rfl (dM (.int .i64 (i : Int)) rfl ?_)
     refine dG (.int .u8 (x.toNat : Int)) rfl (ex_sidx0 Tryz.underlying9 rfl rfl rfl hx) ?_
     simp only [zP, po]
     refine dM (.string ⟨b.toArray⟩) rfl (dM (.int .i64 (i : Int)) rfl ?_)
     refine dG (.int .u8 (y.toNat : Int)) rfl (ex_sidx0 Tryz.underlying9 rfl rfl rfl hy) ?_
     simp only [zP, po]
     refine dG (.bool (decide ((x.toNat : Int) < (y.toNat : Int)))) rfl (ex_lss rfl rfl rfl rfl) (dA (.bool (decide ((x.toNat : Int) < (y.toNat : Int)))) rfl ?_)
     refine dE fun w14 hv => ?_
     simp only [zP, po]
     refine tK k13 (rR ?_)
     refine bE (tR ?_)
     refine tR (bE ?_)
     refine tR (bR rfl rfl ?_)
     exact ⟨congrArg (fun b => Ending.returned (Value.bool b)) (by rw [less_at hab hx hy (fun e => by rw [e] at hb11; exact hb11 rfl)]; exact decide_eq_decide.2 (by omega)), hv⟩
    refine dG (.bool false) rfl (ex_neq rfl rfl rfl (decide_eq_false hb11)) (dE fun w15 hv => ?_)
    simp only [zP, po]
    refine tK k10 (cF rfl ?_)
    refine kS (bN ?_)
    refine tK k9 (rL ?_)
    refine xM (.int .i64 (i : Int)) rfl (xG (.int .i64 ((i + 1 : Nat) : Int)) rfl (ex_add rfl rfl rfl (by rw [i64_in (by omega)]; omega)) ?_)
    refine xA (.int .i64 ((i + 1 : Nat) : Int)) rfl (wL ?_)
    simp only [zP, po]
    refine then_normal ?_
    go_roundw
    case rel => exact ⟨i + 1, rfl, by omega, by omega, take_step hab hx (by rw [hy, UInt8.toNat_inj.1 (show x.toNat = y.toNat by omega)]), hv⟩
    case measure => show a.length - (((i + 1 : Nat) : Int)).toNat < a.length - ((i : Int)).toNat; omega
   refine xG (.bool false) rfl (ex_lss rfl rfl rfl (decide_eq_false hb8)) ?_
   simp only [zP, po]
   refine xK true (.bool false) rfl ?_
   simp only [zP, po]
   refine wK k6 (cF rfl ?_)
   refine xE (tX ?_)
   refine tX (bH ?_)
   refine tK k2 (sK fun _ k16 => ?_)
   refine rL (xM (.string ⟨a.toArray⟩) rfl ?_)
   refine xG (.int .i64 (a.length : Int)) rfl (ex_lenStr Tryz.underlying9 rfl rfl) (xM (.string ⟨b.toArray⟩) rfl ?_)
   simp only [zP, po]
   refine xG (.int .i64 (b.length : Int)) rfl (ex_lenStr Tryz.underlying9 rfl rfl) (xG (.bool (decide ((a.length : Int) < (b.length : Int)))) rfl (ex_lss rfl rfl rfl rfl) ?_)
   refine xA (.bool (decide ((a.length : Int) < (b.length : Int)))) rfl ?_
   simp only [zP, po]
   refine wK k16 (rR ?_)
   refine bR rfl rfl (⟨congrArg (fun b => Ending.returned (Value.bool b)) (by rw [less_end hab (by omega) hia hib]; exact decide_eq_decide.2 (by omega)), hv⟩)
  refine xG (.bool false) rfl (ex_lss rfl rfl rfl (decide_eq_false hb7)) (xM (.bool false) rfl ?_)
  refine yP rfl ?_
  simp only [zP, po]
  refine yP rfl (yP rfl ?_)
  refine yP rfl ?_
  simp only [zP, po]
  refine xK false (.bool false) rfl ?_
  simp only [zP, po]
  refine wK k6 (cF rfl ?_)
  refine xE (tX ?_)
  refine tX (bH ?_)
  refine tK k2 (sK fun _ k17 => ?_)
  refine rL (xM (.string ⟨a.toArray⟩) rfl ?_)
  refine xG (.int .i64 (a.length : Int)) rfl (ex_lenStr Tryz.underlying9 rfl rfl) (xM (.string ⟨b.toArray⟩) rfl ?_)
  simp only [zP, po]
  refine xG (.int .i64 (b.length : Int)) rfl (ex_lenStr Tryz.underlying9 rfl rfl) (xG (.bool (decide ((a.length : Int) < (b.length : Int)))) rfl (ex_lss rfl rfl rfl rfl) ?_)
  refine xA (.bool (decide ((a.length : Int) < (b.length : Int)))) rfl ?_
  simp only [zP, po]
  refine wK k17 (rR ?_)
  refine bR rfl rfl (⟨congrArg (fun b => Ending.returned (Value.bool b)) (by rw [less_end hab (by omega) hia hib]; exact decide_eq_decide.2 (by omega)), hv⟩)
end Go.Proofs.YtkoghbmjbobfjaaGreat
