/- Which values, versions and chains are right. -/
import Derived.Test.YtgbhdfpobgefgaaGreatDoorCzNamC
import Derived.Test.YtgbhdfpobgefgaaGreatDoorCzNamD
import Derived.Test.YtgbhdfpobgefgaaGreatDoorCzNamB
import Derived.Test.YtgbhdfpobgefgaaGreatDoorRows
import Derived.Laws.StructEq
import Derived.Scope
import Derived.RecoverIn
import Derived.RegionIn
import Derived.Laws.Pointers
import Derived.TacticsInMore
import Derived.Test.YtgbhdfpobgefgaaGreatDoorCzNamA
set_option maxRecDepth 100000
set_option maxHeartbeats 16000000
set_option synthInstance.maxSize 65536
set_option synthInstance.maxHeartbeats 4000000
namespace Go.Proofs.YtgbhdfpobgefgaaGreatDoor
open Go.RowKit Go.Pm
def ZeroVal (v : Val) : Prop := v.kind = 0 ∧ v.text = [] ∧ v.pairs.length = 0 ∧ v.texts.length = 0 ∧ v.zset.length = 0
instance (v : Val) : Decidable (ZeroVal v) := inferInstanceAs (Decidable (_ ∧ _))
def ValOk (v : Val) : Prop := (v.kind = 1 ∧ v.text.length ≤ 4096 ∧ v.pairs.length = 0 ∧ v.texts.length = 0 ∧ v.zset.length = 0) ∨ (v.kind = 2 ∧ 0 < v.pairs.length ∧ HashOk v.pairs ∧ v.text = [] ∧ v.texts.length = 0 ∧ v.zset.length = 0) ∨
 (v.kind = 3 ∧ 0 < v.texts.length ∧ listRight v.texts = true ∧ v.text = [] ∧ v.pairs.length = 0 ∧ v.zset.length = 0) ∨ (v.kind = 4 ∧ 0 < v.texts.length ∧ SetOk v.texts ∧ v.text = [] ∧ v.pairs.length = 0 ∧ v.zset.length = 0) ∨
 (v.kind = 5 ∧ 0 < v.zset.length ∧ ZsetOk v.zset ∧ v.text = [] ∧ v.pairs.length = 0 ∧ v.texts.length = 0)
theorem listRightX (B : Base) (H : List Res) (w : World) (ad : Option Addr) (c : Nat) (l : List (List UInt8)) (hr : RdV B [] ad (textCells l)) (hm : l.length ≤ 1000000) (hv : Inv B H w) : Calls Tryz.prog 247 #[.slice ad l.length c] w fun e w' => ∃ b, e = .returned (.bool b) ∧ (b = true ↔ listRight l = true) ∧ Inv B H w' :=
 (listRightC B H w ad c l hr hm hv).mono fun _ _ ⟨h1, h2⟩ => ⟨_, h1, Iff.rfl, h2⟩
theorem s12al84 : AL Tryz.prog 84 [vI 0, vS [], vN, vN, vN] := fun w => by kernel_rfl
theorem s12fa84_0 : FA Tryz.prog 84 0 0 := fun w b o => by kernel_rfl
theorem s12fa84_1 : FA Tryz.prog 84 1 1 := fun w b o => by kernel_rfl
theorem s12sz9 : (Tryz.prog.info? 9).map (·.size) = some 1 := by kernel_rfl
theorem s12callable246 : Callable Tryz.prog 246 := cb Tryz.func246 (by kernel_rfl)
theorem s12callable247 : Callable Tryz.prog 247 := cb Tryz.func247 (by kernel_rfl)
theorem s12callable248 : Callable Tryz.prog 248 := cb Tryz.func248 (by kernel_rfl)
theorem s12callable249 : Callable Tryz.prog 249 := cb Tryz.func249 (by kernel_rfl)
theorem valueRight0 (B : Base) (H : List Res) (w : World) (v : Val) (ap at2 az : Option Addr) (cp ct cz : Nat) (hrp : RdV B [] ap (pairCells v.pairs)) (hrt : RdV B [] at2 (textCells v.texts)) (hrz : RdV B [] az (memCells v.zset)) (hpm : v.pairs.length ≤ 1000000) (htm : v.texts.length ≤ 1000000) (hzm : v.zset.length ≤ 1000000) (hv : Inv B H w) :
  Calls Tryz.prog 240 #[.agg #[vI v.kind, vS v.text, .slice ap v.pairs.length cp, .slice at2 v.texts.length ct, .slice az v.zset.length cz]] w fun e w' => ∃ b, e = .returned (.bool b) ∧ (b = true ↔ ValOk v) ∧ Inv B H w' := by
 refine cW Tryz.func240 rfl Tryz.ntmps240 ?_;simp only [al];apply uN;intro _ _;refine sl_box (L := [vI v.kind, vS v.text, .slice ap v.pairs.length cp, .slice at2 v.texts.length ct, .slice az v.zset.length cz]) tV (wn rfl) rfl rfl hv (fun w => by kernel_rfl) (fun b2 w3 hv => ?_);apply uN;intro _ _;refine oL (.agg #[vI v.kind, vS v.text, .slice ap v.pairs.length cp, .slice at2 v.texts.length ct, .slice az v.zset.length cz]) rfl (lM 0 s1wd84 hv rfl rfl rfl rfl) ?_;refine sl_alloc tV (wn rfl) rfl hv s12al84 (fun b5 w6 hv => ?_);simp only [zP, po];refine zX 0 rfl hv s1sz84 rfl (fun w7 hv => ?_) (by exact ⟨rfl, rfl, rfl, rfl, rfl, trivial⟩);apply uN;intro _ _ _ _;refine oF (vP b2) rfl (s12fa84_0 _ _ _) ?_;refine oL _ rfl (run_load1 s2na3 (hv.load 1 0 rfl rfl)) ?_;intro _ _;refine uB (fun hb11 => ?_) fun hb11 => ?_
 ·refine rW mixed [5] [0,1,2,3,4,5,6] 83 rfl (by kernel_rfl) hv ?_;simp only [qm, opAt];refine dG (.pointer (some ⟨b2, 1, none⟩)) rfl (ex_field rfl rfl (s12fa84_1 _ _ _)) ?_;refine dF _ rfl (fun hv => ex_load rfl rfl (run_load1 s9na9 (hv.load 1 1 rfl rfl))) fun f12 hf12 => ?_
  refine dG (vI (v.text.length : Int)) rfl (ex_lenStr Tryz.underlying9 rfl rfl) ?_;simp only [zP, po];by_cases hb13 : (v.text.length : Int) ≤ 4096
  ·refine dG (.bool true) rfl (ex_leq rfl rfl rfl (qT hb13)) ?_;refine dG (.pointer (some ⟨b5, 1, none⟩)) rfl (ex_field rfl rfl (s12fa84_1 _ _ _)) ?_;refine dS rfl fun w14 hv => mV 0 (vS []) rfl hv s12sz9 rfl rfl (fun w15 hv => ?_)
   simp only [zO, sp] at hv;refine dV hv (fC (fun ww hv => hf12 ww (ex_load rfl rfl (run_load1 s9na9 (hv.load 1 1 rfl rfl)))) fN) ?_;apply uN;refine dE fun w16 hv => ?_
   apply uN;intro _ _;refine oF (.pointer (some ⟨b5, 1, none⟩)) rfl (s12fa84_1 _ _ _) ?_;refine oL _ rfl (run_load1 s9na9 (hv.load 0 1 rfl rfl)) ?_;refine uT (by decide) ?_;refine oF (.pointer (some ⟨b5, 2, none⟩)) rfl (s1fa84_2 _ _ _) ?_;refine oL _ rfl (run_load1 s1na81 (hv.load 0 2 rfl rfl)) ?_;refine oG (vI (v.pairs.length : Int)) rfl (ex_len0 Tryz.underlying81 rfl rfl) ?_;refine oF (.pointer (some ⟨b5, 3, none⟩)) rfl (s1fa84_3 _ _ _) ?_;refine oL _ rfl (run_load1 s1na22 (hv.load 0 3 rfl rfl)) ?_;refine oG (vI (v.texts.length : Int)) rfl (ex_len0 Tryz.underlying22 rfl rfl) ?_;refine oG (vI ((v.pairs.length : Int) + (v.texts.length : Int))) rfl (ex_add rfl rfl rfl (i64_in (by omega))) ?_;refine oF (.pointer (some ⟨b5, 4, none⟩)) rfl (s1fa84_4 _ _ _) ?_;refine oL _ rfl (run_load1 s1na82 (hv.load 0 4 rfl rfl)) ?_;refine oG (vI (v.zset.length : Int)) rfl (ex_len0 Tryz.underlying82 rfl rfl) ?_;refine oG (vI (((v.pairs.length : Int) + (v.texts.length : Int)) + (v.zset.length : Int))) rfl (ex_add rfl rfl rfl (i64_in (by omega))) ?_;refine uB (fun hb18 => ?_) fun hb18 => ?_
   ·refine bR rfl rfl ?_;exact ⟨true, rfl, ⟨fun _ => by first | exact .inl ⟨by omega, by omega, by omega, by omega, by omega⟩ | exact .inr (.inl ⟨by omega, by omega, hv.1 rfl, by assumption, by omega, by omega⟩) | exact .inr (.inr (.inl ⟨by omega, by omega, hv.1 rfl, by assumption, by omega, by omega⟩)) | exact .inr (.inr (.inr (.inl ⟨by omega, by omega, hv.1 rfl, by assumption, by omega, by omega⟩))) | exact .inr (.inr (.inr (.inr (⟨by omega, by omega, hv.1 rfl, by assumption, by omega, by omega⟩)))), fun _ => rfl⟩, (hv.kp [] 0 2)⟩
   refine bR rfl rfl ?_;exact ⟨false, rfl, ⟨fun h => (by cases h), fun h => by rcases h with ⟨h1, h2, h3, h4, h5⟩ | ⟨h1, h2, h3, h4, h5, h6⟩ | ⟨h1, h2, h3, h4, h5, h6⟩ | ⟨h1, h2, h3, h4, h5, h6⟩ | ⟨h1, h2, h3, h4, h5, h6⟩ <;> first | omega | contradiction⟩, (hv.kp [] 0 2)⟩
  refine dG (.bool false) rfl (ex_leq rfl rfl rfl (qF hb13)) ?_;refine dG (.pointer (some ⟨b5, 1, none⟩)) rfl (ex_field rfl rfl (s12fa84_1 _ _ _)) ?_;refine dS rfl fun w19 hv => mV 0 (vS []) rfl hv s12sz9 rfl rfl (fun w20 hv => ?_)
  simp only [zO, sp] at hv;refine dV hv (fC (fun ww hv => hf12 ww (ex_load rfl rfl (run_load1 s9na9 (hv.load 1 1 rfl rfl)))) fN) ?_;apply uN;refine dE fun w21 hv => ?_
  apply uN;intro _ _;apply uN;refine bR rfl rfl (⟨false, rfl, ⟨fun h => (by cases h), fun h => by rcases h with ⟨h1, h2, h3, h4, h5⟩ | ⟨h1, h2, h3, h4, h5, h6⟩ | ⟨h1, h2, h3, h4, h5, h6⟩ | ⟨h1, h2, h3, h4, h5, h6⟩ | ⟨h1, h2, h3, h4, h5, h6⟩ <;> first | omega | contradiction⟩, (hv.kp [] 0 2)⟩)
 intro _ _;refine uB (fun hb24 => ?_) fun hb24 => ?_
 ·refine oF (.pointer (some ⟨b2, 2, none⟩)) rfl (s1fa84_2 _ _ _) ?_;refine oL _ rfl (run_load1 s1na81 (hv.load 1 2 rfl rfl)) ?_;refine oG (vI (v.pairs.length : Int)) rfl (ex_len0 Tryz.underlying81 rfl rfl) ?_;refine uB (fun hb25 => ?_) fun hb25 => ?_
  ·refine oF (.pointer (some ⟨b2, 2, none⟩)) rfl (s1fa84_2 _ _ _) ?_;refine oL _ rfl (run_load1 s1na81 (hv.load 1 2 rfl rfl)) ?_;refine xC s12callable246 rfl ((hashRightC B _ _ _ _ _ hrp (by omega) hv).mono ?_) rfl;rintro e w27 ⟨bl26, rfl, hbl26, hv⟩;apply eR;cases bl26
   ·apply uN;refine oF (.pointer (some ⟨b5, 2, none⟩)) rfl (s1fa84_2 _ _ _) ?_;refine xV 0 (vN) rfl hv s1sz81 rfl rfl (fun w28 hv => ?_);simp only [zO, sp] at hv;apply uN;intro _ _;apply uN;refine bR rfl rfl (⟨false, rfl, ⟨fun h => (by cases h), fun h => by rcases h with ⟨h1, h2, h3, h4, h5⟩ | ⟨h1, h2, h3, h4, h5, h6⟩ | ⟨h1, h2, h3, h4, h5, h6⟩ | ⟨h1, h2, h3, h4, h5, h6⟩ | ⟨h1, h2, h3, h4, h5, h6⟩ <;> first | omega | contradiction | (have h9 := hbl26.2 h3; cases h9)⟩, (hv.kp [] 0 2)⟩)
   apply uN;refine oF (.pointer (some ⟨b5, 2, none⟩)) rfl (s1fa84_2 _ _ _) ?_;refine xV 0 (vN) rfl hv s1sz81 rfl rfl (fun w30 hv => ?_);simp only [zO, sp] at hv;apply uN;intro _ _;refine oF (.pointer (some ⟨b5, 1, none⟩)) rfl (s12fa84_1 _ _ _) ?_;refine oL _ rfl (run_load1 s9na9 (hv.load 0 1 rfl rfl)) ?_;refine uB (fun hb32 => ?_) fun hb32 => ?_
   ·refine oF (.pointer (some ⟨b5, 2, none⟩)) rfl (s1fa84_2 _ _ _) ?_;refine oL _ rfl (run_load1 s1na81 (hv.load 0 2 rfl rfl)) ?_;refine oG (vI 0) rfl (ex_len0 Tryz.underlying81 rfl rfl) ?_;refine oF (.pointer (some ⟨b5, 3, none⟩)) rfl (s1fa84_3 _ _ _) ?_;refine oL _ rfl (run_load1 s1na22 (hv.load 0 3 rfl rfl)) ?_;refine oG (vI (v.texts.length : Int)) rfl (ex_len0 Tryz.underlying22 rfl rfl) ?_;refine oG (vI (0 + (v.texts.length : Int))) rfl (ex_add rfl rfl rfl (i64_in (by omega))) ?_;refine oF (.pointer (some ⟨b5, 4, none⟩)) rfl (s1fa84_4 _ _ _) ?_;refine oL _ rfl (run_load1 s1na82 (hv.load 0 4 rfl rfl)) ?_;refine oG (vI (v.zset.length : Int)) rfl (ex_len0 Tryz.underlying82 rfl rfl) ?_;refine oG (vI ((0 + (v.texts.length : Int)) + (v.zset.length : Int))) rfl (ex_add rfl rfl rfl (i64_in (by omega))) ?_;refine uB (fun hb33 => ?_) fun hb33 => ?_
    ·refine bR rfl rfl ?_;exact ⟨true, rfl, ⟨fun _ => by first | exact .inl ⟨by omega, by omega, by omega, by omega, by omega⟩ | exact .inr (.inl ⟨by omega, by omega, hbl26.1 rfl, by assumption, by omega, by omega⟩) | exact .inr (.inr (.inl ⟨by omega, by omega, hbl26.1 rfl, by assumption, by omega, by omega⟩)) | exact .inr (.inr (.inr (.inl ⟨by omega, by omega, hbl26.1 rfl, by assumption, by omega, by omega⟩))) | exact .inr (.inr (.inr (.inr (⟨by omega, by omega, hbl26.1 rfl, by assumption, by omega, by omega⟩)))), fun _ => rfl⟩, (hv.kp [] 0 2)⟩
    refine bR rfl rfl ?_;exact ⟨false, rfl, ⟨fun h => (by cases h), fun h => by rcases h with ⟨h1, h2, h3, h4, h5⟩ | ⟨h1, h2, h3, h4, h5, h6⟩ | ⟨h1, h2, h3, h4, h5, h6⟩ | ⟨h1, h2, h3, h4, h5, h6⟩ | ⟨h1, h2, h3, h4, h5, h6⟩ <;> first | omega | contradiction | (have h9 := hbl26.2 h3; cases h9)⟩, (hv.kp [] 0 2)⟩
   refine bR rfl rfl (⟨false, rfl, ⟨fun h => (by cases h), fun h => by rcases h with ⟨h1, h2, h3, h4, h5⟩ | ⟨h1, h2, h3, h4, h5, h6⟩ | ⟨h1, h2, h3, h4, h5, h6⟩ | ⟨h1, h2, h3, h4, h5, h6⟩ | ⟨h1, h2, h3, h4, h5, h6⟩ <;> first | omega | contradiction | (have h9 := hbl26.2 h3; cases h9)⟩, (hv.kp [] 0 2)⟩)
  refine oF (.pointer (some ⟨b5, 2, none⟩)) rfl (s1fa84_2 _ _ _) ?_;refine xV 0 (vN) rfl hv s1sz81 rfl rfl (fun w34 hv => ?_);simp only [zO, sp] at hv;apply uN;intro _ _;apply uN;refine bR rfl rfl (⟨false, rfl, ⟨fun h => (by cases h), fun h => by rcases h with ⟨h1, h2, h3, h4, h5⟩ | ⟨h1, h2, h3, h4, h5, h6⟩ | ⟨h1, h2, h3, h4, h5, h6⟩ | ⟨h1, h2, h3, h4, h5, h6⟩ | ⟨h1, h2, h3, h4, h5, h6⟩ <;> first | omega | contradiction⟩, (hv.kp [] 0 2)⟩)
 intro _ _;refine uB (fun hb37 => ?_) fun hb37 => ?_
 ·refine oF (.pointer (some ⟨b2, 3, none⟩)) rfl (s1fa84_3 _ _ _) ?_;refine oL _ rfl (run_load1 s1na22 (hv.load 1 3 rfl rfl)) ?_;refine oG (vI (v.texts.length : Int)) rfl (ex_len0 Tryz.underlying22 rfl rfl) ?_;refine uB (fun hb38 => ?_) fun hb38 => ?_
  ·refine oF (.pointer (some ⟨b2, 3, none⟩)) rfl (s1fa84_3 _ _ _) ?_;refine oL _ rfl (run_load1 s1na22 (hv.load 1 3 rfl rfl)) ?_;refine xC s12callable247 rfl ((listRightX B _ _ _ _ _ hrt (by omega) hv).mono ?_) rfl;rintro e w40 ⟨bl39, rfl, hbl39, hv⟩;apply eR;cases bl39
   ·apply uN;refine oF (.pointer (some ⟨b5, 3, none⟩)) rfl (s1fa84_3 _ _ _) ?_;refine xV 0 (vN) rfl hv s1sz22 rfl rfl (fun w41 hv => ?_);simp only [zO, sp] at hv;apply uN;intro _ _;apply uN;refine bR rfl rfl (⟨false, rfl, ⟨fun h => (by cases h), fun h => by rcases h with ⟨h1, h2, h3, h4, h5⟩ | ⟨h1, h2, h3, h4, h5, h6⟩ | ⟨h1, h2, h3, h4, h5, h6⟩ | ⟨h1, h2, h3, h4, h5, h6⟩ | ⟨h1, h2, h3, h4, h5, h6⟩ <;> first | omega | contradiction | (have h9 := hbl39.2 h3; cases h9)⟩, (hv.kp [] 0 2)⟩)
   apply uN;refine oF (.pointer (some ⟨b5, 3, none⟩)) rfl (s1fa84_3 _ _ _) ?_;refine xV 0 (vN) rfl hv s1sz22 rfl rfl (fun w43 hv => ?_);simp only [zO, sp] at hv;apply uN;intro _ _;refine oF (.pointer (some ⟨b5, 1, none⟩)) rfl (s12fa84_1 _ _ _) ?_;refine oL _ rfl (run_load1 s9na9 (hv.load 0 1 rfl rfl)) ?_;refine uB (fun hb45 => ?_) fun hb45 => ?_
   ·refine oF (.pointer (some ⟨b5, 2, none⟩)) rfl (s1fa84_2 _ _ _) ?_;refine oL _ rfl (run_load1 s1na81 (hv.load 0 2 rfl rfl)) ?_;refine oG (vI (v.pairs.length : Int)) rfl (ex_len0 Tryz.underlying81 rfl rfl) ?_;refine oF (.pointer (some ⟨b5, 3, none⟩)) rfl (s1fa84_3 _ _ _) ?_;refine oL _ rfl (run_load1 s1na22 (hv.load 0 3 rfl rfl)) ?_;refine oG (vI 0) rfl (ex_len0 Tryz.underlying22 rfl rfl) ?_;refine oG (vI ((v.pairs.length : Int) + 0)) rfl (ex_add rfl rfl rfl (i64_in (by omega))) ?_;refine oF (.pointer (some ⟨b5, 4, none⟩)) rfl (s1fa84_4 _ _ _) ?_;refine oL _ rfl (run_load1 s1na82 (hv.load 0 4 rfl rfl)) ?_;refine oG (vI (v.zset.length : Int)) rfl (ex_len0 Tryz.underlying82 rfl rfl) ?_;refine oG (vI (((v.pairs.length : Int) + 0) + (v.zset.length : Int))) rfl (ex_add rfl rfl rfl (i64_in (by omega))) ?_;refine uB (fun hb46 => ?_) fun hb46 => ?_
    ·refine bR rfl rfl ?_;exact ⟨true, rfl, ⟨fun _ => by first | exact .inl ⟨by omega, by omega, by omega, by omega, by omega⟩ | exact .inr (.inl ⟨by omega, by omega, hbl39.1 rfl, by assumption, by omega, by omega⟩) | exact .inr (.inr (.inl ⟨by omega, by omega, hbl39.1 rfl, by assumption, by omega, by omega⟩)) | exact .inr (.inr (.inr (.inl ⟨by omega, by omega, hbl39.1 rfl, by assumption, by omega, by omega⟩))) | exact .inr (.inr (.inr (.inr (⟨by omega, by omega, hbl39.1 rfl, by assumption, by omega, by omega⟩)))), fun _ => rfl⟩, (hv.kp [] 0 2)⟩
    refine bR rfl rfl ?_;exact ⟨false, rfl, ⟨fun h => (by cases h), fun h => by rcases h with ⟨h1, h2, h3, h4, h5⟩ | ⟨h1, h2, h3, h4, h5, h6⟩ | ⟨h1, h2, h3, h4, h5, h6⟩ | ⟨h1, h2, h3, h4, h5, h6⟩ | ⟨h1, h2, h3, h4, h5, h6⟩ <;> first | omega | contradiction | (have h9 := hbl39.2 h3; cases h9)⟩, (hv.kp [] 0 2)⟩
   refine bR rfl rfl (⟨false, rfl, ⟨fun h => (by cases h), fun h => by rcases h with ⟨h1, h2, h3, h4, h5⟩ | ⟨h1, h2, h3, h4, h5, h6⟩ | ⟨h1, h2, h3, h4, h5, h6⟩ | ⟨h1, h2, h3, h4, h5, h6⟩ | ⟨h1, h2, h3, h4, h5, h6⟩ <;> first | omega | contradiction | (have h9 := hbl39.2 h3; cases h9)⟩, (hv.kp [] 0 2)⟩)
  refine oF (.pointer (some ⟨b5, 3, none⟩)) rfl (s1fa84_3 _ _ _) ?_;refine xV 0 (vN) rfl hv s1sz22 rfl rfl (fun w47 hv => ?_);simp only [zO, sp] at hv;apply uN;intro _ _;apply uN;refine bR rfl rfl (⟨false, rfl, ⟨fun h => (by cases h), fun h => by rcases h with ⟨h1, h2, h3, h4, h5⟩ | ⟨h1, h2, h3, h4, h5, h6⟩ | ⟨h1, h2, h3, h4, h5, h6⟩ | ⟨h1, h2, h3, h4, h5, h6⟩ | ⟨h1, h2, h3, h4, h5, h6⟩ <;> first | omega | contradiction⟩, (hv.kp [] 0 2)⟩)
 intro _ _;refine uB (fun hb50 => ?_) fun hb50 => ?_
 ·refine oF (.pointer (some ⟨b2, 3, none⟩)) rfl (s1fa84_3 _ _ _) ?_;refine oL _ rfl (run_load1 s1na22 (hv.load 1 3 rfl rfl)) ?_;refine oG (vI (v.texts.length : Int)) rfl (ex_len0 Tryz.underlying22 rfl rfl) ?_;refine uB (fun hb51 => ?_) fun hb51 => ?_
  ·refine oF (.pointer (some ⟨b2, 3, none⟩)) rfl (s1fa84_3 _ _ _) ?_;refine oL _ rfl (run_load1 s1na22 (hv.load 1 3 rfl rfl)) ?_;refine xC s12callable248 rfl ((setRightC B _ _ _ _ _ hrt (by omega) hv).mono ?_) rfl;rintro e w53 ⟨bl52, rfl, hbl52, hv⟩;apply eR;cases bl52
   ·apply uN;refine oF (.pointer (some ⟨b5, 3, none⟩)) rfl (s1fa84_3 _ _ _) ?_;refine xV 0 (vN) rfl hv s1sz22 rfl rfl (fun w54 hv => ?_);simp only [zO, sp] at hv;apply uN;intro _ _;apply uN;refine bR rfl rfl (⟨false, rfl, ⟨fun h => (by cases h), fun h => by rcases h with ⟨h1, h2, h3, h4, h5⟩ | ⟨h1, h2, h3, h4, h5, h6⟩ | ⟨h1, h2, h3, h4, h5, h6⟩ | ⟨h1, h2, h3, h4, h5, h6⟩ | ⟨h1, h2, h3, h4, h5, h6⟩ <;> first | omega | contradiction | (have h9 := hbl52.2 h3; cases h9)⟩, (hv.kp [] 0 2)⟩)
   apply uN;refine oF (.pointer (some ⟨b5, 3, none⟩)) rfl (s1fa84_3 _ _ _) ?_;refine xV 0 (vN) rfl hv s1sz22 rfl rfl (fun w56 hv => ?_);simp only [zO, sp] at hv;apply uN;intro _ _;refine oF (.pointer (some ⟨b5, 1, none⟩)) rfl (s12fa84_1 _ _ _) ?_;refine oL _ rfl (run_load1 s9na9 (hv.load 0 1 rfl rfl)) ?_;refine uB (fun hb58 => ?_) fun hb58 => ?_
   ·refine oF (.pointer (some ⟨b5, 2, none⟩)) rfl (s1fa84_2 _ _ _) ?_;refine oL _ rfl (run_load1 s1na81 (hv.load 0 2 rfl rfl)) ?_;refine oG (vI (v.pairs.length : Int)) rfl (ex_len0 Tryz.underlying81 rfl rfl) ?_;refine oF (.pointer (some ⟨b5, 3, none⟩)) rfl (s1fa84_3 _ _ _) ?_;refine oL _ rfl (run_load1 s1na22 (hv.load 0 3 rfl rfl)) ?_;refine oG (vI 0) rfl (ex_len0 Tryz.underlying22 rfl rfl) ?_;refine oG (vI ((v.pairs.length : Int) + 0)) rfl (ex_add rfl rfl rfl (i64_in (by omega))) ?_;refine oF (.pointer (some ⟨b5, 4, none⟩)) rfl (s1fa84_4 _ _ _) ?_;refine oL _ rfl (run_load1 s1na82 (hv.load 0 4 rfl rfl)) ?_;refine oG (vI (v.zset.length : Int)) rfl (ex_len0 Tryz.underlying82 rfl rfl) ?_;refine oG (vI (((v.pairs.length : Int) + 0) + (v.zset.length : Int))) rfl (ex_add rfl rfl rfl (i64_in (by omega))) ?_;refine uB (fun hb59 => ?_) fun hb59 => ?_
    ·refine bR rfl rfl ?_;exact ⟨true, rfl, ⟨fun _ => by first | exact .inl ⟨by omega, by omega, by omega, by omega, by omega⟩ | exact .inr (.inl ⟨by omega, by omega, hbl52.1 rfl, by assumption, by omega, by omega⟩) | exact .inr (.inr (.inl ⟨by omega, by omega, hbl52.1 rfl, by assumption, by omega, by omega⟩)) | exact .inr (.inr (.inr (.inl ⟨by omega, by omega, hbl52.1 rfl, by assumption, by omega, by omega⟩))) | exact .inr (.inr (.inr (.inr (⟨by omega, by omega, hbl52.1 rfl, by assumption, by omega, by omega⟩)))), fun _ => rfl⟩, (hv.kp [] 0 2)⟩
    refine bR rfl rfl ?_;exact ⟨false, rfl, ⟨fun h => (by cases h), fun h => by rcases h with ⟨h1, h2, h3, h4, h5⟩ | ⟨h1, h2, h3, h4, h5, h6⟩ | ⟨h1, h2, h3, h4, h5, h6⟩ | ⟨h1, h2, h3, h4, h5, h6⟩ | ⟨h1, h2, h3, h4, h5, h6⟩ <;> first | omega | contradiction | (have h9 := hbl52.2 h3; cases h9)⟩, (hv.kp [] 0 2)⟩
   refine bR rfl rfl (⟨false, rfl, ⟨fun h => (by cases h), fun h => by rcases h with ⟨h1, h2, h3, h4, h5⟩ | ⟨h1, h2, h3, h4, h5, h6⟩ | ⟨h1, h2, h3, h4, h5, h6⟩ | ⟨h1, h2, h3, h4, h5, h6⟩ | ⟨h1, h2, h3, h4, h5, h6⟩ <;> first | omega | contradiction | (have h9 := hbl52.2 h3; cases h9)⟩, (hv.kp [] 0 2)⟩)
  refine oF (.pointer (some ⟨b5, 3, none⟩)) rfl (s1fa84_3 _ _ _) ?_;refine xV 0 (vN) rfl hv s1sz22 rfl rfl (fun w60 hv => ?_);simp only [zO, sp] at hv;apply uN;intro _ _;apply uN;refine bR rfl rfl (⟨false, rfl, ⟨fun h => (by cases h), fun h => by rcases h with ⟨h1, h2, h3, h4, h5⟩ | ⟨h1, h2, h3, h4, h5, h6⟩ | ⟨h1, h2, h3, h4, h5, h6⟩ | ⟨h1, h2, h3, h4, h5, h6⟩ | ⟨h1, h2, h3, h4, h5, h6⟩ <;> first | omega | contradiction⟩, (hv.kp [] 0 2)⟩)
 intro _ _;refine uB (fun hb63 => ?_) fun hb63 => ?_
 ·refine oF (.pointer (some ⟨b2, 4, none⟩)) rfl (s1fa84_4 _ _ _) ?_;refine oL _ rfl (run_load1 s1na82 (hv.load 1 4 rfl rfl)) ?_;refine oG (vI (v.zset.length : Int)) rfl (ex_len0 Tryz.underlying82 rfl rfl) ?_;refine uB (fun hb64 => ?_) fun hb64 => ?_
  ·refine oF (.pointer (some ⟨b2, 4, none⟩)) rfl (s1fa84_4 _ _ _) ?_;refine oL _ rfl (run_load1 s1na82 (hv.load 1 4 rfl rfl)) ?_;refine xC s12callable249 rfl ((zsetRightC B _ _ _ _ _ hrz (by omega) hv).mono ?_) rfl;rintro e w66 ⟨bl65, rfl, hbl65, hv⟩;apply eR;cases bl65
   ·apply uN;refine oF (.pointer (some ⟨b5, 4, none⟩)) rfl (s1fa84_4 _ _ _) ?_;refine xV 0 (vN) rfl hv s1sz82 rfl rfl (fun w67 hv => ?_);simp only [zO, sp] at hv;apply uN;intro _ _;apply uN;refine bR rfl rfl (⟨false, rfl, ⟨fun h => (by cases h), fun h => by rcases h with ⟨h1, h2, h3, h4, h5⟩ | ⟨h1, h2, h3, h4, h5, h6⟩ | ⟨h1, h2, h3, h4, h5, h6⟩ | ⟨h1, h2, h3, h4, h5, h6⟩ | ⟨h1, h2, h3, h4, h5, h6⟩ <;> first | omega | contradiction | (have h9 := hbl65.2 h3; cases h9)⟩, (hv.kp [] 0 2)⟩)
   apply uN;refine oF (.pointer (some ⟨b5, 4, none⟩)) rfl (s1fa84_4 _ _ _) ?_;refine xV 0 (vN) rfl hv s1sz82 rfl rfl (fun w69 hv => ?_);simp only [zO, sp] at hv;apply uN;intro _ _;refine oF (.pointer (some ⟨b5, 1, none⟩)) rfl (s12fa84_1 _ _ _) ?_;refine oL _ rfl (run_load1 s9na9 (hv.load 0 1 rfl rfl)) ?_;refine uB (fun hb71 => ?_) fun hb71 => ?_
   ·refine oF (.pointer (some ⟨b5, 2, none⟩)) rfl (s1fa84_2 _ _ _) ?_;refine oL _ rfl (run_load1 s1na81 (hv.load 0 2 rfl rfl)) ?_;refine oG (vI (v.pairs.length : Int)) rfl (ex_len0 Tryz.underlying81 rfl rfl) ?_;refine oF (.pointer (some ⟨b5, 3, none⟩)) rfl (s1fa84_3 _ _ _) ?_;refine oL _ rfl (run_load1 s1na22 (hv.load 0 3 rfl rfl)) ?_;refine oG (vI (v.texts.length : Int)) rfl (ex_len0 Tryz.underlying22 rfl rfl) ?_;refine oG (vI ((v.pairs.length : Int) + (v.texts.length : Int))) rfl (ex_add rfl rfl rfl (i64_in (by omega))) ?_;refine oF (.pointer (some ⟨b5, 4, none⟩)) rfl (s1fa84_4 _ _ _) ?_;refine oL _ rfl (run_load1 s1na82 (hv.load 0 4 rfl rfl)) ?_;refine oG (vI 0) rfl (ex_len0 Tryz.underlying82 rfl rfl) ?_;refine oG (vI (((v.pairs.length : Int) + (v.texts.length : Int)) + 0)) rfl (ex_add rfl rfl rfl (i64_in (by omega))) ?_;refine uB (fun hb72 => ?_) fun hb72 => ?_
    ·refine bR rfl rfl ?_;exact ⟨true, rfl, ⟨fun _ => by first | exact .inl ⟨by omega, by omega, by omega, by omega, by omega⟩ | exact .inr (.inl ⟨by omega, by omega, hbl65.1 rfl, by assumption, by omega, by omega⟩) | exact .inr (.inr (.inl ⟨by omega, by omega, hbl65.1 rfl, by assumption, by omega, by omega⟩)) | exact .inr (.inr (.inr (.inl ⟨by omega, by omega, hbl65.1 rfl, by assumption, by omega, by omega⟩))) | exact .inr (.inr (.inr (.inr (⟨by omega, by omega, hbl65.1 rfl, by assumption, by omega, by omega⟩)))), fun _ => rfl⟩, (hv.kp [] 0 2)⟩
    refine bR rfl rfl ?_;exact ⟨false, rfl, ⟨fun h => (by cases h), fun h => by rcases h with ⟨h1, h2, h3, h4, h5⟩ | ⟨h1, h2, h3, h4, h5, h6⟩ | ⟨h1, h2, h3, h4, h5, h6⟩ | ⟨h1, h2, h3, h4, h5, h6⟩ | ⟨h1, h2, h3, h4, h5, h6⟩ <;> first | omega | contradiction | (have h9 := hbl65.2 h3; cases h9)⟩, (hv.kp [] 0 2)⟩
   refine bR rfl rfl (⟨false, rfl, ⟨fun h => (by cases h), fun h => by rcases h with ⟨h1, h2, h3, h4, h5⟩ | ⟨h1, h2, h3, h4, h5, h6⟩ | ⟨h1, h2, h3, h4, h5, h6⟩ | ⟨h1, h2, h3, h4, h5, h6⟩ | ⟨h1, h2, h3, h4, h5, h6⟩ <;> first | omega | contradiction | (have h9 := hbl65.2 h3; cases h9)⟩, (hv.kp [] 0 2)⟩)
  refine oF (.pointer (some ⟨b5, 4, none⟩)) rfl (s1fa84_4 _ _ _) ?_;refine xV 0 (vN) rfl hv s1sz82 rfl rfl (fun w73 hv => ?_);simp only [zO, sp] at hv;apply uN;intro _ _;apply uN;refine bR rfl rfl (⟨false, rfl, ⟨fun h => (by cases h), fun h => by rcases h with ⟨h1, h2, h3, h4, h5⟩ | ⟨h1, h2, h3, h4, h5, h6⟩ | ⟨h1, h2, h3, h4, h5, h6⟩ | ⟨h1, h2, h3, h4, h5, h6⟩ | ⟨h1, h2, h3, h4, h5, h6⟩ <;> first | omega | contradiction⟩, (hv.kp [] 0 2)⟩)
 intro _ _;apply uN;refine bR rfl rfl (⟨false, rfl, ⟨fun h => (by cases h), fun h => by rcases h with ⟨h1, h2, h3, h4, h5⟩ | ⟨h1, h2, h3, h4, h5, h6⟩ | ⟨h1, h2, h3, h4, h5, h6⟩ | ⟨h1, h2, h3, h4, h5, h6⟩ | ⟨h1, h2, h3, h4, h5, h6⟩ <;> first | omega | contradiction⟩, (hv.kp [] 0 2)⟩)
theorem valueRight (B : Base) (H : List Res) (w : World) (v : Val) (p t z : Value) (h : ValAt B v p t z) (hv : Inv B H w) : Calls Tryz.prog 240 #[.agg (valCells v p t z).toArray] w fun e w' => ∃ b, e = .returned (.bool b) ∧ (b = true ↔ ValOk v) ∧ Inv B H w' := by
 obtain ⟨⟨ap, cp, rfl, -, hrp⟩, ⟨at2, ct, rfl, -, hrt⟩, ⟨az, cz, rfl, -, hrz⟩, hpm, htm, hzm⟩ := h;exact valueRight0 B H w v ap at2 az cp ct cz hrp hrt hrz hpm htm hzm hv
end Go.Proofs.YtgbhdfpobgefgaaGreatDoor
namespace Go.Pm
open Go.RowKit
section
variable {P : Program} {a : Act} {w : World} {o : Oper} {t u : TypeId} {x y : Operand}
end
end Go.Pm
namespace Go.Proofs.YtgbhdfpobgefgaaGreatDoor
open Go.RowKit Go.Pm
theorem refWords (B : Base) (H : List Res) (w : World) (ad ad' : Option Addr) (c c' : Nat) (l : List (List UInt8)) (hr : RdV B [] ad (textCells l)) (hr' : RdV B [] ad' (textCells l)) (hm : l.length ≤ 1000000) (hv : Inv B H w) :
  Calls Tryz.prog 13 #[.slice ad l.length c, .slice ad' l.length c'] w fun e w' => e = .returned (.bool true) ∧ Inv B H w' := by
 refine cW Tryz.func13 rfl Tryz.ntmps13 ?_;simp only [al];apply uN;intro _ _;apply uN;intro _ _ _ _;refine oG (vI (l.length : Int)) rfl (ex_len0 Tryz.underlying22 rfl rfl) ?_;refine oG (vI (l.length : Int)) rfl (ex_len0 Tryz.underlying22 rfl rfl) ?_;refine uU (by exact fun h => h rfl) ?_;intro _ _ _ _;apply uN
 gi_loopw [5] (fun x5 wr => ∃ (i : Nat), x5 = vI i ∧ i ≤ l.length ∧ Inv B H wr) (fun x5 _ => l.length - (intOf x5).toNat)
 case atStart => exact ⟨0, rfl, Nat.zero_le _, hv⟩
 case round =>
  obtain ⟨i, rfl, hi, hv⟩ := hrel;apply uN;intro _ _ _ _;refine oG (vI (l.length : Int)) rfl (ex_len0 Tryz.underlying22 rfl rfl) ?_;refine uB (fun hb9 => ?_) fun hb9 => ?_
  ·intro _ _ _ _;obtain ⟨x, hx⟩ : ∃ x, l[i]? = some x := ⟨_, List.getElem?_eq_getElem (show i < l.length by omega)⟩;obtain ⟨bb, bo, had, hrdx⟩ := text_reads hr hx;subst had;obtain ⟨b2, o2, hadb2, hrdb2⟩ := text_reads hr' hx;subst hadb2;refine rW mixed [] [0,1,2,3,4,5,6,7,8] 26 rfl (by kernel_rfl) hv ?_;simp only [qm, opAt];apply uN;refine dG (.pointer (some ⟨bb, bo + i, none⟩)) rfl (ex_index rfl rfl rfl (run_idx1 (k := i) Tryz.underlying22 s9es22 (by omega))) ?_;simp only [zP, po];refine dL _ rfl (fun hv => ex_load rfl rfl (run_load1 s9na9 (hrdx _ _ _ (Base.Le.refl _) no_res hv 0 _ rfl))) ?_;apply uN;refine dG (.pointer (some ⟨b2, o2 + i, none⟩)) rfl (ex_index rfl rfl rfl (run_idx1 (k := i) Tryz.underlying22 s9es22 (by omega))) ?_;refine dL _ rfl (fun hv => ex_load rfl rfl (run_load1 s9na9 (hrdb2 _ _ _ (Base.Le.refl _) no_res hv 0 _ rfl))) ?_;refine dG (.bool false) rfl (ex_sneq rfl rfl rfl (qF (fun h => h rfl))) (dE fun w12 hv => ?_);apply uN;refine oG (vI ((i + 1 : Nat) : Int)) rfl (ex_add rfl rfl rfl (by rw [i64_in (by omega)]; omega)) ?_;refine then_normal ?_
   go_roundw
   case rel => exact ⟨i + 1, rfl, by omega, hv⟩
   case measure => show l.length - (((i + 1 : Nat) : Int)).toNat < l.length - ((i : Int)).toNat; omega
  intro _ _;apply uN;refine bR rfl rfl (⟨rfl, hv⟩)
theorem memEqD (d : Nat) (w : World) (a b : Int) (s u : List UInt8) : (Op.equalIn (d + 2) 123 (.agg #[vI a, strV s]) (.agg #[vI b, strV u])).run Tryz.prog w = .ok (decide ((a, s) = (b, u))) w := by
 have hf : Tryz.prog.stoodInHeld 123 = false := by kernel_rfl
 have hfs : (Tryz.prog.fieldsOf 123).toList = [{ name := "Score", type := 3, offset := 0, embedded := false, tag := "", pkgPath := "", byteOffset := 0 }, { name := "Name", type := 9, offset := 1, embedded := false, tag := "", pkgPath := "", byteOffset := 8 }] := by kernel_rfl
 have hag : ∀ w, (isAgg 9).run Tryz.prog w = .ok false w := fun w => by kernel_rfl
 have hs : ∀ w, (sizeOf 9).run Tryz.prog w = .ok 1 w := fun w => by kernel_rfl
 have h9 : Tryz.prog.underlying 9 = some .string := Tryz.underlying9;have hag3 : ∀ w, (isAgg 3).run Tryz.prog w = .ok false w := fun w => by kernel_rfl
 have hs3 : ∀ w, (sizeOf 3).run Tryz.prog w = .ok 1 w := fun w => by kernel_rfl
 have h3 : Tryz.prog.underlying 3 = some (.int .i64) := Tryz.underlying3;rw [run_equalIn_struct w (d + 1) 123 _ _ (by kernel_rfl) hf, hfs];by_cases h : a = b
 ·subst h
  simp [Op.eqFields, part, hag, hs, hag3, hs3, run_equalIn_string w d 9 _ _ h9, run_equalIn_int w d 3 _ _ _ _ h3, strV]
  by_cases h2 : s = u <;> simp [h2]
 simp [Op.eqFields, part, hag, hs, hag3, hs3, run_equalIn_int w d 3 _ _ _ _ h3, h]
theorem ex_neqMem {a : Act} {w : World} {o : Oper} {u : TypeId} {p q : Operand} {x y : Int × List UInt8} (ho : o.op = .binOp .neq 123 p q u) (hx : a.eval p = .agg #[vI x.1, strV x.2]) (hy : a.eval q = .agg #[vI y.1, strV y.2]) : Ex Tryz.prog a o w (.bool (decide (x ≠ y))) w := by
 have he : ∀ w, (Op.equalIn 10000 123 (.agg #[vI x.1, strV x.2]) (.agg #[vI y.1, strV y.2])).run Tryz.prog w = .ok (decide (x = y)) w := fun w => memEqD 9998 w x.1 y.1 x.2 y.2
 unfold Ex
 simp [execOp, ho, hx, hy, run_eqGuard_agg w .neq 123 p q _ _ (by kernel_rfl : Tryz.prog.eqGuardType Tryz.prog.depth 123 = false), run_neq_struct, he]
theorem equalMem (B : Base) (H : List Res) (w : World) (ad ad' : Option Addr) (c c' : Nat) (l z : Zs) (hr : RdV B [] ad (memCells l)) (hr' : RdV B [] ad' (memCells z)) (hm : l.length ≤ 1000000) (_ : z.length ≤ 1000000) (hv : Inv B H w) :
  Calls Tryz.prog 112 #[.slice ad l.length c, .slice ad' z.length c'] w fun e w' => e = .returned (.bool (decide (l = z))) ∧ Inv B H w' := by
 refine cW Tryz.func112 rfl Tryz.ntmps112 ?_;simp only [al];apply uN;intro _ _;apply uN;intro _ _ _ _;refine oG (vI (l.length : Int)) rfl (ex_len0 Tryz.underlying82 rfl rfl) ?_;refine oG (vI (z.length : Int)) rfl (ex_len0 Tryz.underlying82 rfl rfl) ?_;refine uB (fun hb4 => ?_) fun hb4 => ?_
 ·intro _ _;apply uN;refine bR rfl rfl ?_;exact ⟨congrArg (fun b => Ending.returned (Value.bool b)) (qF (fun h9 => by rw [h9] at hb4; exact absurd rfl hb4)).symm, hv⟩
 intro _ _ _ _;refine oG (vI (l.length : Int)) rfl (ex_len0 Tryz.underlying82 rfl rfl) ?_
 gi_loopw [13] (fun x13 wr => ∃ (i : Nat), x13 = vI i ∧ i ≤ l.length ∧ (∀ j, j < i → l[j]? = z[j]?) ∧ Inv B H wr) (fun x13 _ => l.length - (intOf x13).toNat)
 case atStart => exact ⟨0, rfl, Nat.zero_le _, fun j h => by omega, hv⟩
 case round =>
  obtain ⟨i, rfl, hi, hall, hv⟩ := hrel;apply uN;intro _ _;refine uB (fun hb10 => ?_) fun hb10 => ?_
  ·intro _ _;apply uN;intro _ _ _ _;apply uN;intro _ _;obtain ⟨x, hx⟩ : ∃ x, l[i]? = some x := ⟨_, List.getElem?_eq_getElem (show i < l.length by omega)⟩;obtain ⟨bb, bo, had, hrdx⟩ := mem_reads hr hx;subst had;obtain ⟨y, hy⟩ : ∃ y, z[i]? = some y := ⟨_, List.getElem?_eq_getElem (show i < z.length by omega)⟩;obtain ⟨b2, o2, had2, hrdy⟩ := mem_reads hr' hy;subst had2;refine rW mixed [] [0,1,2,3,4,5,6,7,8] 26 rfl (by kernel_rfl) hv ?_;simp only [qm, opAt];apply uN;refine dG (.pointer (some ⟨bb, bo + i * 2, none⟩)) rfl (ex_index rfl rfl rfl (run_idx (k := i) Tryz.underlying82 s9es82 (by omega))) ?_;simp only [zP, po];refine dL (.agg #[vI x.1, vS x.2]) rfl (fun hv => ex_load rfl rfl (run_loadR (cs := [vI x.1, vS x.2]) s9wd123 (Reads.mid (pre := []) (mid := [vI x.1, vS x.2]) (post := []) hrdx _ _ _ (Base.Le.refl _) no_res hv))) ?_;apply uN;refine dG (.pointer (some ⟨b2, o2 + i * 2, none⟩)) rfl (ex_index rfl rfl rfl (run_idx (k := i) Tryz.underlying82 s9es82 (by omega))) ?_;refine dL (.agg #[vI y.1, vS y.2]) rfl (fun hv => ex_load rfl rfl (run_loadR (cs := [vI y.1, vS y.2]) s9wd123 (Reads.mid (pre := []) (mid := [vI y.1, vS y.2]) (post := []) hrdy _ _ _ (Base.Le.refl _) no_res hv))) ?_;refine dG (.bool (decide (x ≠ y))) rfl (ex_neqMem (x := x) (y := y) rfl rfl rfl) (dE fun w15 hv => ?_);apply uN;refine wpIn_cond_split (t := decide (x ≠ y)) rfl (fun hc16 => ?_) (fun hc16 => ?_)
   ·apply uN;intro _ _;apply uN;refine bR rfl rfl ?_;exact ⟨congrArg (fun b => Ending.returned (Value.bool b)) (qF (fun h9 => by rw [h9, hy] at hx; cases hx; simp at hc16)).symm, hv⟩
   apply uN;refine oG (vI ((i + 1 : Nat) : Int)) rfl (ex_add rfl rfl rfl (by rw [i64_in (by omega)]; omega)) ?_;refine then_normal ?_
   go_roundw
   case rel => exact ⟨i + 1, rfl, by omega, fun j hj => (by
      rcases Nat.lt_or_ge j i with h | h
      ·exact hall j h
      obtain rfl : j = i := by omega
      have h9 : x = y := by simpa using hc16
      rw [hx, hy, h9]), hv⟩
   case measure => show l.length - (((i + 1 : Nat) : Int)).toNat < l.length - ((i : Int)).toNat; omega
  intro _ _ _ _;apply uN;refine bR rfl rfl ?_;exact ⟨congrArg (fun b => Ending.returned (Value.bool b)) (qT (by
    apply List.ext_getElem?;intro j;rcases Nat.lt_or_ge j i with h | h
    ·exact hall j h
    rw [List.getElem?_eq_none (by omega), List.getElem?_eq_none (by omega)])).symm, hv⟩
theorem zc2mk123 : (Tryz.prog.info? 123).map (fun i => (i.zero, i.size, i.bytes)) = some (some (.agg #[vI 0, vS []]), 2, 24) := by kernel_rfl
theorem zc2el82 : Elem Tryz.prog 82 123 (.agg #[vI 0, vS []]) 2 24 := elem_of Tryz.underlying82 zc2mk123 (by rfl) (by decide)
theorem cloneMo (B : Base) (H : List Res) (w : World) (a : Addr) (n c : Nat) (xs : List Value) (hok : SliceOk (some a) n c) (hl : xs.length = n * 2) (h1 : ∀ u ∈ xs, u.oneCell' = true) (hn : n ≤ 10000000) (hr : RdV B [] (some a) xs) (hv : Inv B H w) :
  Calls Tryz.prog 105 #[.slice (some a) n c] w fun e w' => ∃ ra rc, e = .returned (.slice ra n rc) ∧ Inv B (Res.row 123 2 (.slice ra n rc) n xs :: H) w' := by
 refine cW Tryz.func105 rfl Tryz.ntmps105 ?_;simp only [al];apply uN;intro _ _;apply uN;intro _ _ _ _;refine oG (.bool false) rfl (ex_slnil Tryz.underlying82 rfl rfl rfl rfl) ?_;intro _ _;refine sl_row0 (size := 2) tV (wn rfl) rfl hv (e := 123) (fun w => by kernel_rfl) (fun b5 w6 hv => ?_);apply uN;refine sl_append (news := xs) tV (wn rfl) rfl rfl rfl zc2el82 hv hok hl ((hr.more (Base.Le.refl _) (fun _ h => by cases h)).src hv) (h1) (by unfold maxLen; omega) (by omega) (fun rv7 w10 hv => ?_);obtain ⟨ra8, rc9, rfl⟩ := row_slice hv.head;apply uN;refine bR rfl rfl ?_;have h9 := hv;simp only [Nat.zero_add, List.nil_append] at h9 ⊢;exact ⟨_, _, rfl, h9⟩
theorem cloneMem (B : Base) (H : List Res) (w : World) (ad : Option Addr) (n c : Nat) (xs : List Value) (hok : SliceOk ad n c) (hl : xs.length = n * 2) (h1 : ∀ u ∈ xs, u.oneCell' = true) (hn : n ≤ 10000000) (hr : RdV B [] ad xs) (hv : Inv B H w) :
  Calls Tryz.prog 105 #[.slice ad n c] w fun e w' => ∃ ra rc, e = .returned (.slice ra n rc) ∧ Inv B (Res.row 123 2 (.slice ra n rc) n xs :: H) w' := by
 cases ad with
 | none =>
  have hc0 : c = 0 := hok.nil rfl;have hn0 : n = 0 := by have := hok.le; omega
  subst hc0 hn0;have hx : xs = [] := List.eq_nil_of_length_eq_zero (by simpa using hl);subst hx;refine (cloneMems0 B H w hv).mono ?_;rintro e w' ⟨rfl, hv⟩;exact ⟨_, _, rfl, hv.rowNil _ _⟩
 | some a => exact cloneMo B H w a n c xs hok hl h1 hn hr hv
def RevZ (l cur : Zs) (i : Nat) : Prop := cur.length = l.length ∧ ∀ k, k < l.length → cur[k]? = if k < i ∨ l.length - 1 - i < k then l[l.length - 1 - k]? else l[k]?
theorem RevZ.zero (l : Zs) : RevZ l l 0 := ⟨rfl, fun k hk => by rw [if_neg (by omega)]⟩
theorem RevZ.all {l cur : Zs} {i : Nat} (h : RevZ l cur i) (hi : l.length ≤ 2 * i + 1) : cur = l.reverse := by
 apply List.ext_getElem?;intro k;rcases Nat.lt_or_ge k l.length with hk | hk
 ·rw [h.2 k hk, List.getElem?_reverse hk]
  split
  ·rfl
  congr 1; omega
 rw [List.getElem?_eq_none (by rw [h.1]; exact hk), List.getElem?_eq_none (by rw [List.length_reverse]; exact hk)]
theorem RevZ.next {l cur : Zs} {i : Nat} {x y : Int × List UInt8} (h : RevZ l cur i) (hi : 2 * i + 1 < l.length) (hx : cur[i]? = some x) (hy : cur[l.length - 1 - i]? = some y) : RevZ l ((cur.set i y).set (l.length - 1 - i) x) (i + 1) := by
 have hx2 := h.2 i (by omega);have hy2 := h.2 (l.length - 1 - i) (by omega);rw [if_neg (by omega)] at hx2 hy2;refine ⟨by rw [List.length_set, List.length_set, h.1], fun k hk => ?_⟩;rw [List.getElem?_set, List.getElem?_set, List.length_set, h.1];by_cases e1 : l.length - 1 - i = k
 ·rw [if_pos e1, if_pos (by omega), if_pos (by omega), ← hx, hx2]
  congr 1; omega
 rw [if_neg e1];by_cases e2 : i = k
 ·rw [if_pos e2, if_pos (by omega), if_pos (by omega), ← hy, hy2]
  congr 1; omega
 rw [if_neg e2, h.2 k hk];by_cases e3 : k < i ∨ l.length - 1 - i < k
 ·rw [if_pos e3, if_pos (by omega)]
 rw [if_neg e3, if_neg (by omega)]
theorem revMems (B : Base) (H : List Res) (w : World) (va : Option Addr) (vc : Nat) (l : Zs) (hml : l.length ≤ 1000000) (hv : Inv B (Res.row 123 2 (.slice va l.length vc) l.length (memCells l) :: H) w) :
  Calls Tryz.prog 124 #[.slice va l.length vc] w fun e w' => e = .returned (.tuple #[]) ∧ Inv B (Res.row 123 2 (.slice va l.length vc) l.length (memCells l.reverse) :: H) w' := by
 refine cW Tryz.func124 rfl Tryz.ntmps124 ?_;simp only [al];apply uN;intro _ _;refine oG (vI (l.length : Int)) rfl (ex_len0 Tryz.underlying82 rfl rfl) ?_;refine oG (vI ((l.length : Int) - 1 - ((0 : Nat) : Int))) rfl (ex_sub rfl rfl rfl (by rw [i64_in (by omega)]; omega)) ?_
 gi_loopw [2, 3] (fun x2 x3 wr => ∃ (i : Nat) (cur : Zs), x2 = vI i ∧ x3 = vI ((l.length : Int) - 1 - i) ∧ 2 * i ≤ l.length + 1 ∧ RevZ l cur i ∧ Inv B (Res.row 123 2 (.slice va l.length vc) l.length (memCells cur) :: H) wr) (fun x2 x3 _ => l.length + 1 - (intOf x2).toNat)
 case atStart => exact ⟨0, l, rfl, by rw [Int.natCast_zero, Int.sub_zero], Nat.zero_le _, RevZ.zero l, hv⟩
 case round =>
  obtain ⟨i, cur, rfl, rfl, hi, hrv, hv⟩ := hrel;apply uN;intro _ _ _ _;refine uB (fun hb5 => ?_) fun hb5 => ?_
  ·intro _ _;have hcl := hrv.1;obtain ⟨x, hx⟩ : ∃ x, cur[i]? = some x := ⟨_, List.getElem?_eq_getElem (by omega)⟩;obtain ⟨y, hy⟩ : ∃ x, cur[l.length - 1 - i]? = some x := ⟨_, List.getElem?_eq_getElem (by omega)⟩;obtain ⟨rb, had9⟩ := row_some hv.head (by omega);subst had9;have hJ : ((l.length : Int) - 1 - i) = ((l.length - 1 - i : Nat) : Int) := by omega
   rw [hJ];have hyi : (cur.set i y)[l.length - 1 - i]? = some y := by rw [List.getElem?_set, if_neg (by omega)]; exact hy
   refine rW mixed [13, 15] [0,1,2,3,4,5,6,7,8,9,10,11,12,13,14,15] 28 rfl (by kernel_rfl) hv ?_;simp only [qm, opAt];apply uN;refine dG (.pointer (some ⟨rb, 0 + (l.length - 1 - i : Nat) * 2, none⟩)) rfl (ex_index rfl rfl rfl (run_idx (k := (l.length - 1 - i : Nat)) Tryz.underlying82 s9es82 (by omega))) ?_;refine dL (.agg #[vI y.1, vS y.2]) rfl (fun hv => ex_load rfl rfl (run_loadR (cs := [vI y.1, vS y.2]) s9wd123 (row_loads (hv.get 0 rfl) rfl (mem_get hy)))) ?_;apply uN;refine dG (.pointer (some ⟨rb, 0 + i * 2, none⟩)) rfl (ex_index rfl rfl rfl (run_idx (k := i) Tryz.underlying82 s9es82 (by omega))) ?_;refine dL (.agg #[vI x.1, vS x.2]) rfl (fun hv => ex_load rfl rfl (run_loadR (cs := [vI x.1, vS x.2]) s9wd123 (row_loads (hv.get 0 rfl) rfl (mem_get hx)))) ?_;simp only [zP, po];refine dG (.pointer (some ⟨rb, 0 + i * 2, none⟩)) rfl (ex_index rfl rfl rfl (run_idx (k := i) Tryz.underlying82 s9es82 (by omega))) (dS rfl fun w7 hv => ?_);rw [mem_split hx] at hv;refine mem_storeRowN (new := [vI y.1, strV y.2]) rfl rfl rfl rfl hv s11sz123 (by rw [memCells_len, List.length_take]; omega) rfl (one_cons rfl (one_cons rfl one_nil)) (fun w8 hv => ?_);rw [mem_set y (by first | omega | (rw [List.length_set]; omega))] at hv;refine dW hv (dG (.pointer (some ⟨rb, 0 + (l.length - 1 - i : Nat) * 2, none⟩)) rfl (ex_index rfl rfl rfl (run_idx (k := (l.length - 1 - i : Nat)) Tryz.underlying82 s9es82 (by omega))) ?_);simp only [zP, po];refine dS rfl fun w9 hv => ?_
   rw [mem_split hyi] at hv;refine mem_storeRowN (new := [vI x.1, strV x.2]) rfl rfl rfl rfl hv s11sz123 (by rw [memCells_len, List.length_take, List.length_set]; omega) rfl (one_cons rfl (one_cons rfl one_nil)) (fun w10 hv => ?_);rw [mem_set x (by first | omega | (rw [List.length_set]; omega))] at hv;refine dW hv (dE fun w11 hv => ?_);apply uN;refine oG (vI ((i + 1 : Nat) : Int)) rfl (ex_add rfl rfl rfl (by rw [i64_in (by omega)]; omega)) ?_;refine oG (vI ((l.length : Int) - 1 - ((i + 1 : Nat) : Int))) rfl (ex_sub rfl rfl rfl (by rw [i64_in (by omega)]; omega)) ?_;refine then_normal ?_
   go_roundw
   case rel => exact ⟨i + 1, _, rfl, rfl, by omega, hrv.next (by omega) hx hy, hv⟩
   case measure => show l.length + 1 - (((i + 1 : Nat) : Int)).toNat < l.length + 1 - ((i : Int)).toNat; omega
  go_end0
  obtain rfl : cur = l.reverse := hrv.all (by omega);exact ⟨rfl, hv⟩
def VM (B : Base) : List (List UInt8 × Value) → List (List UInt8 × Ver) → Prop
 | [], [] => True
 | e :: es, m :: M => (e.1 = m.1 ∧ ∃ p t z, e.2 = .agg (verCells m.2 p t z).toArray ∧ ValAt B m.2.val p t z) ∧ VM B es M
 | _, _ => False
theorem VM.more {B C : Base} (hB : B.Le C) : ∀ {es : List (List UInt8 × Value)} {M : List (List UInt8 × Ver)}, VM B es M → VM C es M
 | [], [], _ => trivial
 | e :: _, m :: _, ⟨⟨h1, p, t, z, h2, h3⟩, h4⟩ => ⟨⟨h1, p, t, z, h2, h3.more hB⟩, VM.more hB h4⟩
 | [], _ :: _, h => h.elim
 | _ :: _, [], h => h.elim
theorem VM.look {B : Base} (k : List UInt8) : ∀ {es : List (List UInt8 × Value)} {M : List (List UInt8 × Ver)}, VM B es M → (lookA es k = none ∧ lookA M k = none) ∨ ∃ x p t z, lookA es k = some (.agg (verCells x p t z).toArray) ∧ lookA M k = some x ∧ ValAt B x.val p t z
 | [], [], _ => .inl ⟨rfl, rfl⟩
 | e :: es, m :: M, ⟨⟨h1, p, t, z, h2, h3⟩, h4⟩ => by
  by_cases h : e.1 = k
  ·exact .inr ⟨m.2, p, t, z, by simp [lookA, h, h2], by simp [lookA, ← h1, h], h3⟩
  have h' : ¬ m.1 = k := by rw [← h1]; exact h
  simp only [lookA, h, h', if_false];exact VM.look k h4
 | [], _ :: _, h => h.elim
 | _ :: _, [], h => h.elim
theorem VM.upd {B : Base} {k : List UInt8} {x : Ver} {p t z : Value} (hx : ValAt B x.val p t z) : ∀ {es : List (List UInt8 × Value)} {M : List (List UInt8 × Ver)}, VM B es M → VM B (updA es k (.agg (verCells x p t z).toArray)) (updA M k x)
 | [], [], _ => ⟨⟨rfl, p, t, z, rfl, hx⟩, trivial⟩
 | e :: es, m :: M, ⟨⟨h1, h2⟩, h4⟩ => by
  by_cases h : e.1 = k
  ·have h' : m.1 = k := by rw [← h1]; exact h
   simp only [updA, h, h', if_true];exact ⟨⟨rfl, p, t, z, rfl, hx⟩, h4⟩
  have h' : ¬ m.1 = k := by rw [← h1]; exact h
  simp only [updA, h, h', if_false];exact ⟨⟨h1, h2⟩, VM.upd hx h4⟩
 | [], _ :: _, h => h.elim
 | _ :: _, [], h => h.elim
theorem VM.keys {B : Base} : ∀ {es : List (List UInt8 × Value)} {M : List (List UInt8 × Ver)}, VM B es M → es.map (·.1) = M.map (·.1)
 | [], [], _ => rfl
 | e :: es, m :: M, ⟨⟨h1, _⟩, h4⟩ => by simp [h1, VM.keys h4]
 | [], _ :: _, h => h.elim
 | _ :: _, [], h => h.elim
def txL (t m s p wb : Nat) (va : Option Addr) (vc : Nat) (sv : Value) (clk : Int) (es : List (List UInt8 × Value)) : List Res :=
  [Res.cell t [.pointer (some ⟨m, 0, none⟩), .int .i64 0, .int .i64 clk, .bool false, .map (some wb)] 141,
   Res.cell m [.pointer (some ⟨s, 0, none⟩), sv, .int .i64 clk, .slice va 1 vc] 102,
   Res.row 66 1 (.slice va 1 vc) 1 [.pointer (some ⟨t, 0, none⟩)],
   Res.vmap wb es,
   Res.cell s [.pointer (some ⟨p, 0, none⟩), .int .i64 0, .int .i64 0] 106,
   Res.cell p [.slice none 0 0, .int .i64 0] 138]
def txR (t m s p wb : Nat) (va : Option Addr) (vc : Nat) (sv : Value) (clk : Int) (es : List (List UInt8 × Value)) : Res := Res.star (txL t m s p wb va vc sv clk es)
def gver : Ver := ⟨0, true, 0, ⟨0, [], [], [], []⟩⟩
theorem x1es100 (w : World) : (sizeOf (Tryz.prog.elem 100)).run Tryz.prog w = .ok 1 w := by kernel_rfl
theorem x1na66 (w : World) : (isAgg 66).run Tryz.prog w = .ok false w := by kernel_rfl
theorem indexTx (B : Base) (H : List Res) (w : World) (t : Nat) (va : Option Addr) (vc : Nat) (hv : Inv B (Res.row 66 1 (.slice va 1 vc) 1 [vP t] :: H) w) :
  Calls Tryz.prog 250 #[.slice va 1 vc, vP t] w fun e w' => e = .returned (vI 0) ∧ Inv B (Res.row 66 1 (.slice va 1 vc) 1 [vP t] :: H) w' := by
 refine cW Tryz.func250 rfl Tryz.ntmps250 ?_;simp only [al];apply uN;intro _ _;apply uN;intro _ _ _ _;refine oG (vI 1) rfl (ex_len0 Tryz.underlying100 rfl rfl) ?_
 gi_loopw [8] (fun x8 wr => x8 = vI 0 ∧ Inv B (Res.row 66 1 (.slice va 1 vc) 1 [vP t] :: H) wr) (fun x8 _ => 0)
 case atStart => exact ⟨rfl, hv⟩
 case round =>
  obtain ⟨rfl, hv⟩ := hrel;apply uN;intro _ _;refine oG (.bool true) rfl (ex_lss rfl rfl rfl (by decide)) ?_;intro _ _;apply uN;intro _ _ _ _;apply uN;intro _ _;obtain ⟨b, rfl⟩ := row_some hv.head (by omega);apply uN;refine oG (.pointer (some ⟨b, 0 + 0, none⟩)) rfl (ex_index rfl rfl rfl (run_idx1 (k := 0) Tryz.underlying100 x1es100 (by first | omega | simp))) ?_;refine oL _ rfl (run_load1 x1na66 (row_load (hv.get 0 rfl) rfl)) ?_;refine oG (.bool true) rfl (ex_psame Tryz.underlying66 (by kernel_rfl) rfl rfl rfl) ?_;intro _ _;apply uN;refine bR rfl rfl (⟨rfl, hv⟩)
theorem x1callable250 : Callable Tryz.prog 250 := cb Tryz.func250 (by kernel_rfl)
theorem containsTx (B : Base) (H : List Res) (w : World) (t : Nat) (va : Option Addr) (vc : Nat) (hv : Inv B (Res.row 66 1 (.slice va 1 vc) 1 [vP t] :: H) w) :
  Calls Tryz.prog 242 #[.slice va 1 vc, vP t] w fun e w' => e = .returned (.bool true) ∧ Inv B (Res.row 66 1 (.slice va 1 vc) 1 [vP t] :: H) w' := by
 refine cW Tryz.func242 rfl Tryz.ntmps242 ?_;simp only [al];apply uN;intro _ _;apply uN;intro _ _;refine xC x1callable250 rfl ((indexTx B H _ t va vc hv).mono ?_) rfl;rintro e w3 ⟨rfl, hv⟩;apply eR;refine oG (.bool true) rfl (ex_geq rfl rfl rfl (by decide)) ?_;refine bR rfl rfl ?_;exact ⟨rfl, hv⟩
theorem mayLong (B : Base) (H : List Res) (w : World) (s : List UInt8) (hv : Inv B H w) :
  Calls Tryz.prog 241 #[vS s] w fun e w' => e = .returned (.bool (decide (s.length > 256))) ∧ Inv B H w' := by
 refine cW Tryz.func241 rfl Tryz.ntmps241 ?_;simp only [al];apply uN;intro _ _;apply uN;intro _ _;refine oG (vI (s.length : Int)) rfl (ex_lenStr Tryz.underlying9 rfl rfl) ?_;refine oG (.bool (decide ((s.length : Int) > 256))) rfl (ex_gtr rfl rfl rfl rfl) ?_;refine bR rfl rfl (⟨congrArg (fun b => Ending.returned (Value.bool b)) (decide_eq_decide.2 (by omega)), hv⟩)
theorem x1fa141_3 : FA Tryz.prog 141 3 3 := fun w b o => by kernel_rfl
theorem x1fa141_0 : FA Tryz.prog 141 0 0 := fun w b o => by kernel_rfl
theorem x1na57 (w : World) : (isAgg 57).run Tryz.prog w = .ok false w := by kernel_rfl
theorem x1fa102_3 : FA Tryz.prog 102 3 3 := fun w b o => by kernel_rfl
theorem x1na100 (w : World) : (isAgg 100).run Tryz.prog w = .ok false w := by kernel_rfl
theorem x1callable242 : Callable Tryz.prog 242 := cb Tryz.func242 (by kernel_rfl)
theorem x1callable241 : Callable Tryz.prog 241 := cb Tryz.func241 (by kernel_rfl)
theorem txnMay (B : Base) (H : List Res) (w : World) (t m s wb : Nat) (va : Option Addr) (vc : Nat) (sv : Value) (clk : Int) (ka : Option Addr) (kc : Nat) (ks : List (List UInt8)) (hr : RdV B [] ka (textCells ks)) (hm : ks.length ≤ 1000000) (hv : Inv B (Res.cell t [vP m, vI 0, vI clk, .bool false, .map (some wb)] 141 :: Res.cell m [vP s, sv, vI clk, .slice va 1 vc] 102 :: Res.row 66 1 (.slice va 1 vc) 1 [vP t] :: H) w) :
  Calls Tryz.prog 234 #[vP t, .slice ka ks.length kc] w fun e w' => ∃ ec : Int, e = .returned (vI ec) ∧ ((ec = 0 ∧ ks.any (fun s : List UInt8 => decide (s.length > 256)) = false) ∨ (ec = 2 ∧ ks.any (fun s : List UInt8 => decide (s.length > 256)) = true)) ∧ Inv B (Res.cell t [vP m, vI 0, vI clk, .bool false, .map (some wb)] 141 :: Res.cell m [vP s, sv, vI clk, .slice va 1 vc] 102 :: Res.row 66 1 (.slice va 1 vc) 1 [vP t] :: H) w' := by
 refine cW Tryz.func234 rfl Tryz.ntmps234 ?_;simp only [al];apply uN;intro _ _;apply uN;intro _ _ _ _;refine oG (vP t) rfl (ex_nil rfl rfl) ?_;refine oF (.pointer (some ⟨t, 3, none⟩)) rfl (x1fa141_3 _ _ _) ?_;refine oL _ rfl (run_load1 s2na4 (hv.load 0 3 rfl rfl)) ?_;intro _ _;apply uN;intro _ _ _ _;refine oG (vP t) rfl (ex_nil rfl rfl) ?_;refine oF (vP t) rfl (x1fa141_0 _ _ _) ?_;refine oL _ rfl (run_load1 x1na57 (hv.load 0 0 rfl rfl)) ?_;refine oG (.bool false) rfl (ex_pisnil Tryz.underlying57 rfl rfl rfl rfl) ?_;refine oG (vP t) rfl (ex_nil rfl rfl) ?_;refine oF (vP t) rfl (x1fa141_0 _ _ _) ?_;refine oL _ rfl (run_load1 x1na57 (hv.load 0 0 rfl rfl)) ?_;refine oG (vP m) rfl (ex_nil rfl rfl) ?_;refine oF (.pointer (some ⟨m, 3, none⟩)) rfl (x1fa102_3 _ _ _) ?_;refine oL _ rfl (run_load1 x1na100 (hv.load 1 3 rfl rfl)) ?_;replace hv := hv.front 1 rfl;simp only [eS, eZ] at hv;replace hv := hv.front 1 rfl;simp only [eS, eZ] at hv;replace hv := hv.front 2 rfl;simp only [eS, eZ] at hv;refine xC x1callable242 rfl ((containsTx B _ _ t va vc hv).mono ?_) rfl;rintro e w7 ⟨rfl, hv⟩;apply eR;refine oG (.bool false) rfl (ex_not rfl rfl rfl) ?_;refine xC s9callable243 rfl ((containsFuncText B _ _ 241 #[] ka kc ks (fun s : List UInt8 => decide (s.length > 256)) hr hm x1callable241 (fun x _ w hv => mayLong B _ w x hv) hv).mono ?_) rfl;rintro e w8 ⟨rfl, hv⟩;apply eR;refine wpIn_cond_split (t := ks.any (fun s : List UInt8 => decide (s.length > 256))) rfl (fun hc9 => ?_) (fun hc9 => ?_)
 ·apply uN;intro _ _;apply uN;refine bR rfl rfl ?_;exact ⟨_, rfl, .inr ⟨rfl, hc9⟩, ((hv.front 2 rfl).front 2 rfl)⟩
 apply uN;intro _ _;apply uN;refine bR rfl rfl (⟨_, rfl, .inl ⟨rfl, hc9⟩, ((hv.front 2 rfl).front 2 rfl)⟩)
end Go.Proofs.YtgbhdfpobgefgaaGreatDoor
namespace Go.Pm
section
variable {P : Program} {Q : Exit → Act → World → Prop} {a : Act} {w : World} {n : Nat} {c : Code}
theorem wpIn_scopeW (h : c.wpIn Fence.wide n P (Exit.noGoto Q) a w) : (Code.scope c).wpIn Fence.wide n P Q a w := wpIn_wide.2 (wp_scope_straight (wpIn_wide.1 h))
theorem scope_ret (h : Q .ret a w) : Exit.noGoto Q .ret a w := h
end
section
variable {P : Program} {a : Act} {w : World} {o : Oper} {t u : TypeId} {x y : Operand}
end
end Go.Pm
namespace Go.Proofs.YtgbhdfpobgefgaaGreatDoor
open Go.RowKit Go.Pm
theorem row_nil0 (B : Base) : RowB B (vN) 0 [] := ⟨none, 0, rfl, ⟨Nat.le_refl _, Nat.zero_le _, fun _ => rfl⟩, rdV_nil⟩
def zver0 : Ver := ⟨0, false, 0, ⟨0, [], [], [], []⟩⟩
theorem zver0_at (B : Base) : ValAt B zver0.val (vN) (vN) (vN) := ⟨row_nil0 B, row_nil0 B, row_nil0 B, by decide, by decide, by decide, fun _ h9 => by cases h9⟩
theorem gver_at (B : Base) : ValAt B gver.val (vN) (vN) (vN) := ⟨row_nil0 B, row_nil0 B, row_nil0 B, by decide, by decide, by decide, fun _ h9 => by cases h9⟩
theorem search0 (B : Base) (H : List Res) (w : World) (fv : Value) (hv : Inv B H w) :
  Calls Tryz.prog 218 #[vI 0, fv] w fun e w' => e = .returned (vI 0) ∧ Inv B H w' := by
 refine cW Tryz.func218 rfl Tryz.ntmps218 ?_;simp only [al];apply uN;intro _ _;apply uN;intro _ _;apply uN;intro _ _
 gi_loopw [5, 6] (fun x5 x6 wr => x5 = vI 0 ∧ x6 = vI 0 ∧ Inv B H wr) (fun x5 x6 _ => 0)
 case atStart => exact ⟨rfl, rfl, hv⟩
 case round =>
  obtain ⟨rfl, rfl, hv⟩ := hrel;apply uN;intro _ _ _ _;refine oG (.bool false) rfl (ex_lss rfl rfl rfl (by decide)) ?_;intro _ _;apply uN;refine bR rfl rfl ?_;exact ⟨rfl, hv⟩
theorem x0na103 (w : World) : (isAgg 103).run Tryz.prog w = .ok false w := by kernel_rfl
theorem x0fa138_0 : FA Tryz.prog 138 0 0 := fun w b o => by kernel_rfl
theorem x0na136 (w : World) : (isAgg 136).run Tryz.prog w = .ok false w := by kernel_rfl
theorem x0callable218 : Callable Tryz.prog 218 := cb Tryz.func218 (by kernel_rfl)
theorem ixFind0 (B : Base) (H : List Res) (w : World) (p : Nat) (key : List UInt8) (hv : Inv B (Res.cell p [vN, vI 0] 138 :: H) w) :
  Calls Tryz.prog 212 #[vP p, vS key] w fun e w' => e = .returned (.tuple #[vI 0, vI 0, .bool false]) ∧ Inv B (Res.cell p [vN, vI 0] 138 :: H) w' := by
 refine cW Tryz.func212 rfl Tryz.ntmps212 ?_;simp only [al];apply uN;intro _ _;refine sl_box (L := [vP p]) tV (wn rfl) rfl rfl hv (fun w => by kernel_rfl) (fun b2 w3 hv => ?_);refine sl_box (L := [vS key]) tV (wn rfl) rfl rfl hv (fun w => by kernel_rfl) (fun b4 w5 hv => ?_);apply uN;intro _ _;refine oL _ rfl (run_load1 x0na103 (hv.load 1 0 rfl rfl)) ?_;refine oG (vP p) rfl (ex_nil rfl rfl) ?_;refine oF (vP p) rfl (x0fa138_0 _ _ _) ?_;refine oL _ rfl (run_load1 x0na136 (hv.load 2 0 rfl rfl)) ?_;refine oG (vI 0) rfl (ex_len0 Tryz.underlying136 rfl rfl) ?_;refine oG (.func (.func 219) #[] #[vP b2, vP b4]) rfl (ex_makeFunc (c' := #[vP b2, vP b4]) rfl (by simp only [List.map_toArray, List.map_nil]) (by simp only [List.map_toArray, List.map_cons, List.map_nil]; rfl)) ?_;refine xC x0callable218 rfl ((search0 B _ _ _ hv).mono ?_) rfl;rintro e w7 ⟨rfl, hv⟩;apply eR;intro _ _ _ _;refine oL _ rfl (run_load1 x0na103 (hv.load 1 0 rfl rfl)) ?_;refine oG (vP p) rfl (ex_nil rfl rfl) ?_;refine oF (vP p) rfl (x0fa138_0 _ _ _) ?_;refine oL _ rfl (run_load1 x0na136 (hv.load 2 0 rfl rfl)) ?_;refine oG (vI 0) rfl (ex_len0 Tryz.underlying136 rfl rfl) ?_;refine oG (.bool true) rfl (ex_eql rfl rfl rfl (by decide)) ?_;intro _ _;apply uN;refine bodyPost_ret (results_tmp3 rfl _ _ _) rfl (⟨rfl, (hv.kp [2] 1 2)⟩)
theorem x0callable212 : Callable Tryz.prog 212 := cb Tryz.func212 (by kernel_rfl)
theorem ixGet0 (B : Base) (H : List Res) (w : World) (p : Nat) (key : List UInt8) (hv : Inv B (Res.cell p [vN, vI 0] 138 :: H) w) :
  Calls Tryz.prog 210 #[vP p, vS key] w fun e w' => e = .returned (vN) ∧ Inv B (Res.cell p [vN, vI 0] 138 :: H) w' := by
 refine cW Tryz.func210 rfl Tryz.ntmps210 ?_;simp only [al];apply uN;intro _ _;apply uN;intro _ _;refine xC x0callable212 rfl ((ixFind0 B _ _ p key hv).mono ?_) rfl;rintro e w3 ⟨rfl, hv⟩;apply eR;intro _ _ _ _;refine oG (.bool true) rfl (ex_not rfl rfl rfl) ?_;intro _ _;apply uN;refine bR rfl rfl ?_;exact ⟨rfl, hv⟩
theorem x0na309 (w : World) : (isAgg 309).run Tryz.prog w = .ok false w := by kernel_rfl
theorem chainUpto0 (B : Base) (H : List Res) (w : World) (s : Int) (hv : Inv B H w) :
  Calls Tryz.prog 224 #[vN, vI s] w fun e w' => e = .returned (vI 0) ∧ Inv B H w' := by
 refine cW Tryz.func224 rfl Tryz.ntmps224 ?_;simp only [al];apply uN;intro _ _;refine sl_box (L := [vN]) tV (wn rfl) rfl rfl hv (fun w => by kernel_rfl) (fun b2 w3 hv => ?_);refine sl_box (L := [vI s]) tV (wn rfl) rfl rfl hv (fun w => by kernel_rfl) (fun b4 w5 hv => ?_);apply uN;intro _ _;refine oL _ rfl (run_load1 x0na309 (hv.load 1 0 rfl rfl)) ?_;refine oG (vI 0) rfl (ex_len0 Tryz.underlying309 rfl rfl) ?_;refine oG (.func (.func 226) #[] #[vP b2, vP b4]) rfl (ex_makeFunc (c' := #[vP b2, vP b4]) rfl (by simp only [List.map_toArray, List.map_nil]) (by simp only [List.map_toArray, List.map_cons, List.map_nil]; rfl)) ?_;refine xC x0callable218 rfl ((search0 B _ _ _ hv).mono ?_) rfl;rintro e w7 ⟨rfl, hv⟩;apply eR;refine bR rfl rfl (⟨rfl, (hv.kp [] 0 2)⟩)
theorem x0al91 : AL Tryz.prog 91 [vI 0, .bool false, vI 0, vI 0, vS [], vN, vN, vN] := fun w => by kernel_rfl
theorem x0callable224 : Callable Tryz.prog 224 := cb Tryz.func224 (by kernel_rfl)
theorem x0sz91 : (Tryz.prog.info? 91).map (·.size) = some 8 := by kernel_rfl
theorem x0wd91 : Wide Tryz.prog 91 8 := wide_of (fun w => by kernel_rfl) (by kernel_rfl)
theorem chainAt0 (B : Base) (H : List Res) (w : World) (s : Int) (hv : Inv B H w) :
  Calls Tryz.prog 222 #[vN, vI s] w fun e w' => e = .returned (.tuple #[.agg #[vI 0, .bool false, vI 0, vI 0, vS [], vN, vN, vN], .bool false]) ∧ Inv B H w' := by
 refine cW Tryz.func222 rfl Tryz.ntmps222 ?_;simp only [al];apply uN;intro _ _;refine sl_alloc tV (wn rfl) rfl hv x0al91 (fun b2 w3 hv => ?_);apply uN;intro _ _;refine xC x0callable224 rfl ((chainUpto0 B _ _ s hv).mono ?_) rfl;rintro e w5 ⟨rfl, hv⟩;apply eR;intro _ _ _ _;refine oG (.bool true) rfl (ex_eql rfl rfl rfl (by decide)) ?_;intro _ _;refine oG (.agg #[vI 0, .bool false, vI 0, vI 0, vS [], vN, vN, vN]) rfl (ex_buildN (vs := #[]) rfl (by simp only [List.map_toArray, List.map_nil]) (by kernel_rfl)) ?_;refine zX 0 rfl hv x0sz91 rfl (fun w9 hv => ?_) (by exact ⟨rfl, rfl, rfl, rfl, rfl, rfl, rfl, rfl, trivial⟩);apply uN;refine bodyPost_ret (res_cell2 rfl rfl (lM 0 x0wd91 hv rfl rfl rfl rfl)) rfl (⟨rfl, (hv.kp [] 0 1)⟩)
theorem x0fa106_0 : FA Tryz.prog 106 0 0 := fun w b o => by kernel_rfl
theorem x0callable210 : Callable Tryz.prog 210 := cb Tryz.func210 (by kernel_rfl)
theorem x0callable222 : Callable Tryz.prog 222 := cb Tryz.func222 (by kernel_rfl)
theorem storeRead0 (B : Base) (H : List Res) (w : World) (s p : Nat) (stamp clock : Int) (key : List UInt8) (hv : Inv B (Res.cell s [vP p, vI 0, vI 0] 106 :: Res.cell p [vN, vI 0] 138 :: H) w) :
  Calls Tryz.prog 217 #[vP s, vS key, vI stamp, vI clock] w fun e w' => e = .returned (.tuple #[.agg #[vI 0, .bool false, vI 0, vI 0, vS [], vN, vN, vN], .bool false]) ∧ Inv B (Res.cell s [vP p, vI 0, vI 0] 106 :: Res.cell p [vN, vI 0] 138 :: H) w' := by
 refine cW Tryz.func217 rfl Tryz.ntmps217 ?_;simp only [al];apply uN;intro _ _;refine sl_alloc tV (wn rfl) rfl hv x0al91 (fun b2 w3 hv => ?_);apply uN;intro _ _;refine oG (vP s) rfl (ex_nil rfl rfl) ?_;refine oF (vP s) rfl (x0fa106_0 _ _ _) ?_;refine oL _ rfl (run_load1 x0na103 (hv.load 1 0 rfl rfl)) ?_;replace hv := hv.front 2 rfl;simp only [eS, eZ] at hv;refine xC x0callable210 rfl ((ixGet0 B _ _ p key hv).mono ?_) rfl;rintro e w5 ⟨rfl, hv⟩;apply eR;refine xC x0callable222 rfl ((chainAt0 B _ _ stamp hv).mono ?_) rfl;rintro e w6 ⟨rfl, hv⟩;apply eR;refine sl_alloc tV (wn rfl) rfl hv x0al91 (fun b7 w8 hv => ?_);simp only [zP, po];refine zX 0 rfl hv x0sz91 rfl (fun w9 hv => ?_) (by exact ⟨rfl, rfl, rfl, rfl, rfl, rfl, rfl, rfl, trivial⟩);apply uN;intro _ _ _ _;refine oG (.bool true) rfl (ex_not rfl rfl rfl) ?_;intro _ _;refine oG (.agg #[vI 0, .bool false, vI 0, vI 0, vS [], vN, vN, vN]) rfl (ex_buildN (vs := #[]) rfl (by simp only [List.map_toArray, List.map_nil]) (by kernel_rfl)) ?_;refine zX 2 rfl hv x0sz91 rfl (fun w13 hv => ?_) (by exact ⟨rfl, rfl, rfl, rfl, rfl, rfl, rfl, rfl, trivial⟩);apply uN;refine bodyPost_ret (res_cell2 rfl rfl (lM 2 x0wd91 hv rfl rfl rfl rfl)) rfl (⟨rfl, (hv.kp [1, 3] 2 2)⟩)
theorem ixKeys0 (B : Base) (H : List Res) (w : World) (p : Nat) (hv : Inv B (Res.cell p [vN, vI 0] 138 :: H) w) :
  Calls Tryz.prog 215 #[vP p, vS [], vI 0] w fun e w' => e = .returned (vN) ∧ Inv B (Res.cell p [vN, vI 0] 138 :: H) w' := by
 refine cW Tryz.func215 rfl Tryz.ntmps215 ?_;simp only [al];apply uN;intro _ _;apply uN;refine wpIn_scopeW ?_;apply uN;intro _ _;refine xC x0callable212 rfl ((ixFind0 B _ _ p ([] : List UInt8) hv).mono ?_) rfl;rintro e w3 ⟨rfl, hv⟩;apply eR;intro _ _;apply uN;intro _ _;refine wpIn_label ?_;apply uN;intro _ _
 gi_loopw [7, 8, 10] (fun x7 x8 x10 wr => x7 = vI 0 ∧ x8 = vI 0 ∧ x10 = vN ∧ Inv B (Res.cell p [vN, vI 0] 138 :: H) wr) (fun x7 x8 x10 _ => 0)
 case atStart => exact ⟨rfl, rfl, rfl, hv⟩
 case round =>
  obtain ⟨rfl, rfl, rfl, hv⟩ := hrel;apply uN;intro _ _ _ _;refine oG (vP p) rfl (ex_nil rfl rfl) ?_;refine oF (vP p) rfl (x0fa138_0 _ _ _) ?_;refine oL _ rfl (run_load1 x0na136 (hv.load 0 0 rfl rfl)) ?_;refine oG (vI 0) rfl (ex_len0 Tryz.underlying136 rfl rfl) ?_;refine oG (.bool false) rfl (ex_lss rfl rfl rfl (by decide)) ?_;intro _ _;apply uN;refine scope_ret ?_;refine bR rfl rfl (⟨rfl, hv⟩)
theorem indexFunc0 (B : Base) (H : List Res) (w : World) (fv : Value) (hv : Inv B H w) :
  Calls Tryz.prog 221 #[vN, fv] w fun e w' => e = .returned (vI (-1)) ∧ Inv B H w' := by
 refine cW Tryz.func221 rfl Tryz.ntmps221 ?_;simp only [al];apply uN;intro _ _;apply uN;intro _ _ _ _;refine oG (vI 0) rfl (ex_len0 Tryz.underlying22 rfl rfl) ?_
 gi_loopw [8] (fun x8 wr => x8 = vI 0 ∧ Inv B H wr) (fun x8 _ => 0)
 case atStart => exact ⟨rfl, hv⟩
 case round =>
  obtain ⟨rfl, hv⟩ := hrel;apply uN;intro _ _;refine oG (.bool false) rfl (ex_lss rfl rfl rfl (by decide)) ?_;intro _ _ _ _;apply uN;refine bR rfl rfl (⟨rfl, hv⟩)
theorem x0callable221 : Callable Tryz.prog 221 := cb Tryz.func221 (by kernel_rfl)
theorem deleteFunc0 (B : Base) (H : List Res) (w : World) (fv : Value) (hv : Inv B H w) :
  Calls Tryz.prog 214 #[vN, fv] w fun e w' => e = .returned (vN) ∧ Inv B H w' := by
 refine cW Tryz.func214 rfl Tryz.ntmps214 ?_;simp only [al];apply uN;intro _ _;apply uN;intro _ _;refine xC x0callable221 rfl ((indexFunc0 B _ _ fv hv).mono ?_) rfl;rintro e w3 ⟨rfl, hv⟩;apply eR;intro _ _ _ _;refine oG (.bool true) rfl (ex_eql rfl rfl rfl (by decide)) ?_;intro _ _;apply uN;refine bR rfl rfl (⟨rfl, hv⟩)
theorem x0na61 (w : World) : (isAgg 61).run Tryz.prog w = .ok false w := by kernel_rfl
theorem x0callable215 : Callable Tryz.prog 215 := cb Tryz.func215 (by kernel_rfl)
theorem x0callable214 : Callable Tryz.prog 214 := cb Tryz.func214 (by kernel_rfl)
theorem storeNames0 (B : Base) (H : List Res) (w : World) (s p : Nat) (stamp clock : Int) (hv : Inv B (Res.cell s [vP p, vI 0, vI 0] 106 :: Res.cell p [vN, vI 0] 138 :: H) w) :
  Calls Tryz.prog 211 #[vP s, vI stamp, vI clock] w fun e w' => e = .returned (vN) ∧ Inv B (Res.cell s [vP p, vI 0, vI 0] 106 :: Res.cell p [vN, vI 0] 138 :: H) w' := by
 refine cW Tryz.func211 rfl Tryz.ntmps211 ?_;simp only [al];apply uN;intro _ _;refine sl_box (L := [vP s]) tV (wn rfl) rfl rfl hv (fun w => by kernel_rfl) (fun b2 w3 hv => ?_);refine sl_box (L := [vI stamp]) tV (wn rfl) rfl rfl hv (fun w => by kernel_rfl) (fun b4 w5 hv => ?_);refine sl_box (L := [vI clock]) tV (wn rfl) rfl rfl hv (fun w => by kernel_rfl) (fun b6 w7 hv => ?_);apply uN;intro _ _;refine oL _ rfl (run_load1 x0na61 (hv.load 2 0 rfl rfl)) ?_;refine oG (vP s) rfl (ex_nil rfl rfl) ?_;refine oF (vP s) rfl (x0fa106_0 _ _ _) ?_;refine oL _ rfl (run_load1 x0na103 (hv.load 3 0 rfl rfl)) ?_;replace hv := hv.front 4 rfl;simp only [eS, eZ] at hv;refine xC x0callable215 rfl ((ixKeys0 B _ _ p hv).mono ?_) rfl;rintro e w9 ⟨rfl, hv⟩;apply eR;refine oG (.func (.func 216) #[] #[vP b2, vP b4, vP b6]) rfl (ex_makeFunc (c' := #[vP b2, vP b4, vP b6]) rfl (by simp only [List.map_toArray, List.map_nil]) (by simp only [List.map_toArray, List.map_cons, List.map_nil]; rfl)) ?_;refine xC x0callable214 rfl ((deleteFunc0 B _ _ _ hv).mono ?_) rfl;rintro e w10 ⟨rfl, hv⟩;apply eR;refine bR rfl rfl (⟨rfl, (hv.kp [4] 2 3)⟩)
def PutOk (k : List UInt8) (v : Val) (e : Int) : Prop := k.length ≤ 256 ∧ ValOk v ∧ 0 ≤ e ∧ e ≤ 1099511627776
theorem x2mk9 : (Tryz.prog.info? 9).map (fun i => (i.zero, i.size, i.bytes)) = some (some (vS []), 1, 16) := by kernel_rfl
theorem x2el22 : Elem Tryz.prog 22 9 (vS []) 1 16 := elem_of Tryz.underlying22 x2mk9 (by rfl) (by decide)
theorem x2callable234 : Callable Tryz.prog 234 := cb Tryz.func234 (by kernel_rfl)
theorem x2callable240 : Callable Tryz.prog 240 := cb Tryz.func240 (by kernel_rfl)
theorem x2fa141_4 : FA Tryz.prog 141 4 4 := fun w b o => by kernel_rfl
theorem x2na139 (w : World) : (isAgg 139).run Tryz.prog w = .ok false w := by kernel_rfl
theorem x2callable62 : Callable Tryz.prog 62 := cb Tryz.func62 (by kernel_rfl)
theorem txnPut (B : Base) (H : List Res) (w : World) (t m s p wb : Nat) (va : Option Addr) (vc : Nat) (sv : Value) (clk : Int) (es : List (List UInt8 × Value)) (M : List (List UInt8 × Ver)) (key : List UInt8) (v : Val) (pp pt pz : Value) (exp : Int) (hM : VM B es M) (hval : ValAt B v pp pt pz) (hv : Inv B (txR t m s p wb va vc sv clk es :: H) w) :
  Calls Tryz.prog 233 #[vP t, vS key, .agg #[vI v.kind, vS v.text, pp, pt, pz], vI exp] w fun e w' => ∃ C es' ec, B.Le C ∧ e = .returned (vI ec) ∧ ((ec = 0 ∧ PutOk key v exp ∧ VM C es' (updA M key ⟨0, false, exp, v⟩)) ∨ (ec = 2 ∧ ¬ PutOk key v exp ∧ es' = es)) ∧ Inv C (txR t m s p wb va vc sv clk es' :: H) w' := by
 refine cW Tryz.func233 rfl Tryz.ntmps233 ?_;simp only [al];apply uN;intro _ _;replace hv := Inv.unstar hv;simp only [txL, List.cons_append, List.nil_append] at hv;apply uN;refine sl_box (L := [vI v.kind, vS v.text, pp, pt, pz]) tV (wn rfl) rfl rfl hv (fun w => by kernel_rfl) (fun b2 w3 hv => ?_);apply uN;intro _ _ _ _;refine sl_rowOne (v := vS key) tV (wn rfl) rfl rfl hv x2el22 rfl (fun b6 w7 hv => ?_);simp only [zP, po];obtain ⟨C, hBC, hv, hrk, -, -⟩ := (hv.cellRow (n := 1) (c := 1) (size := 1) rfl (by decide) (by decide)).rowBy;replace hv := hv.front 3 rfl;simp only [eS, eZ] at hv;replace hv := hv.front 3 rfl;simp only [eS, eZ] at hv;replace hv := hv.front 3 rfl;simp only [eS, eZ] at hv;refine xC x2callable234 rfl ((txnMay C _ _ t m s wb va vc sv clk _ 1 [key] hrk (by simp) hv).mono ?_) rfl;rintro e w8 ⟨ec, rfl, hmay, hv⟩;apply eR;rcases hmay with ⟨rfl, hk⟩ | ⟨rfl, hk⟩
 ·replace hk : key.length ≤ 256 := by simpa using hk
  apply uN;intro _ _;refine oG (.bool false) rfl (ex_neq rfl rfl rfl (by decide)) ?_;intro _ _ _ _;refine oL (.agg #[vI v.kind, vS v.text, pp, pt, pz]) rfl (lM 3 s1wd84 hv rfl rfl rfl rfl) ?_;refine xC x2callable240 rfl ((valueRight C _ _ v pp pt pz (hval.more hBC) hv).mono ?_) rfl;rintro e w13 ⟨bl12, rfl, hbl12, hv⟩;apply eR;cases bl12
  ·refine oG (.bool true) rfl (ex_not rfl rfl rfl) ?_;intro _ _;apply uN;refine bR rfl rfl ?_;exact ⟨_, _, 2, hBC, rfl, .inr ⟨rfl, fun h => (by have h9 := hbl12.2 h.2.1; cases h9), rfl⟩, Inv.star (K := txL _ _ _ _ _ _ _ _ _ _) ((hv.kp [6, 6, 6, 5, 5, 5] 6 1))⟩
  refine oG (.bool false) rfl (ex_not rfl rfl rfl) ?_;refine uB (fun hb15 => ?_) fun hb15 => ?_
  ·intro _ _;apply uN;refine bR rfl rfl ?_;exact ⟨_, _, 2, hBC, rfl, .inr ⟨rfl, fun h => (by have h9 := h.2.2; omega), rfl⟩, Inv.star (K := txL _ _ _ _ _ _ _ _ _ _) ((hv.kp [6, 6, 6, 5, 5, 5] 6 1))⟩
  refine uB (fun hb17 => ?_) fun hb17 => ?_
  ·intro _ _;apply uN;refine bR rfl rfl ?_;exact ⟨_, _, 2, hBC, rfl, .inr ⟨rfl, fun h => (by have h9 := h.2.2; omega), rfl⟩, Inv.star (K := txL _ _ _ _ _ _ _ _ _ _) ((hv.kp [6, 6, 6, 5, 5, 5] 6 1))⟩
  intro _ _;refine rW mixed [7, 9] [0,1,2,3,4,5,6,7,8,9] 37 rfl (by kernel_rfl) hv ?_;simp only [qm, opAt];apply uN;refine dG (vP t) rfl (ex_nil rfl rfl) ?_;refine dG (.pointer (some ⟨t, 4, none⟩)) rfl (ex_field rfl rfl (x2fa141_4 _ _ _)) ?_;simp only [zP, po];refine dF _ rfl (fun hv => ex_load rfl rfl (run_load1 x2na139 (hv.load 0 4 rfl rfl))) fun f20 hf20 => dM (vS key) rfl (dM (vI exp) rfl ?_)
  simp only [zP, po];refine dL (.agg #[vI v.kind, vS v.text, pp, pt, pz]) rfl (fun hv => ex_load rfl rfl (lM 3 s1wd84 hv rfl rfl rfl rfl)) (dS rfl fun w21 hv => ?_);refine mC x2callable62 rfl ((valueClone _ _ _ v pp pt pz (hval.more hBC) hv).mono ?_) rfl;rintro e w26 ⟨C22, p23, t24, z25, hC22, rfl, hp23, hv⟩;refine ⟨_, rfl, dV hv (fC (fun ww hv => hf20 ww (ex_load rfl rfl (run_load1 x2na139 (hv.load 0 4 rfl rfl)))) fN) ?_⟩;refine dG (.agg #[vI 0, .bool false, vI exp, vI v.kind, vS v.text, p23, t24, z25]) rfl (ex_buildN (vs := #[(2, vI exp), (3, .agg #[vI v.kind, vS v.text, p23, t24, z25])]) rfl (by simp only [List.map_toArray, List.map_cons, List.map_nil]; rfl) (by kernel_rfl)) ?_;simp only [zP, po];refine dS rfl fun w27 hv => mem_updV 4 (k := key) (v := .agg #[vI 0, .bool false, vI exp, vI v.kind, vS v.text, p23, t24, z25]) rfl rfl rfl rfl rfl Tryz.underlying139 Tryz.underlying9 hv rfl (fun w28 hv => ?_)
  simp only [zS, zO] at hv;refine dV hv (fK rfl fN) (dE fun w29 hv => ?_);apply uN;intro _ _;apply uN;refine bR rfl rfl (⟨_, _, 0, (hBC.trans hC22), rfl, .inl ⟨rfl, ⟨hk, hbl12.1 rfl, by omega, by omega⟩, VM.upd (x := ⟨0, false, exp, v⟩) hp23 (VM.more (hBC.trans hC22) hM)⟩, Inv.star (K := txL _ _ _ _ _ _ _ _ _ _) ((hv.kp [6, 6, 6, 5, 5, 5] 6 1))⟩)
 replace hk : ¬ key.length ≤ 256 := by simpa using hk
 apply uN;intro _ _;refine oG (.bool true) rfl (ex_neq rfl rfl rfl (by decide)) ?_;intro _ _;apply uN;refine bR rfl rfl (⟨_, _, 2, hBC, rfl, .inr ⟨rfl, fun h => hk h.1, rfl⟩, Inv.star (K := txL _ _ _ _ _ _ _ _ _ _) ((hv.kp [6, 6, 6, 5, 5, 5] 6 1))⟩)
theorem x2al91 : AL Tryz.prog 91 [vI 0, .bool false, vI 0, vI 0, vS [], vN, vN, vN] := fun w => by kernel_rfl
theorem x2fa102_0 : FA Tryz.prog 102 0 0 := fun w b o => by kernel_rfl
theorem x2fa141_1 : FA Tryz.prog 141 1 1 := fun w b o => by kernel_rfl
theorem x2fa141_2 : FA Tryz.prog 141 2 2 := fun w b o => by kernel_rfl
theorem x2callable217 : Callable Tryz.prog 217 := cb Tryz.func217 (by kernel_rfl)
theorem x2callable223 : Callable Tryz.prog 223 := cb Tryz.func223 (by kernel_rfl)
theorem x2fa91_3 : FA Tryz.prog 91 3 3 := fun w b o => by kernel_rfl
theorem txnGet (B : Base) (H : List Res) (w : World) (t m s p wb : Nat) (va : Option Addr) (vc : Nat) (sv : Value) (clk : Int) (es : List (List UInt8 × Value)) (M : List (List UInt8 × Ver)) (key : List UInt8) (hM : VM B es M) (hv : Inv B (txR t m s p wb va vc sv clk es :: H) w) :
  Calls Tryz.prog 231 #[vP t, vS key] w fun e w' => ∃ C x p' t' z' ok, B.Le C ∧ e = .returned (.tuple #[.agg (verCells x p' t' z').toArray, .bool ok]) ∧ ((ok = true ∧ lookA M key = some x ∧ aliveB x clk = true) ∨ (ok = false ∧ x = zver0 ∧ ∀ y, lookA M key = some y → aliveB y clk = false)) ∧ ValAt C x.val p' t' z' ∧ Inv C (txR t m s p wb va vc sv clk es :: H) w' := by
 refine cW Tryz.func231 rfl Tryz.ntmps231 ?_;simp only [al];apply uN;intro _ _;replace hv := Inv.unstar hv;simp only [txL, List.cons_append, List.nil_append] at hv;apply uN;refine sl_alloc tV (wn rfl) rfl hv x2al91 (fun b2 w3 hv => ?_);apply uN;intro _ _;refine oG (vP t) rfl (ex_nil rfl rfl) ?_;refine oF (.pointer (some ⟨t, 4, none⟩)) rfl (x2fa141_4 _ _ _) ?_;refine oL _ rfl (run_load1 x2na139 (hv.load 1 4 rfl rfl)) ?_;rcases VM.look key hM with ⟨hl, hlM⟩ | ⟨x, xp, xt, xz, hl, hlM, hxv⟩
 ·refine oG (.tuple #[.agg #[vI 0, .bool false, vI 0, vI 0, vS [], vN, vN, vN], .bool false]) rfl (ex_lookN (z := .agg #[vI 0, .bool false, vI 0, vI 0, vS [], vN, vN, vN]) 4 rfl rfl rfl Tryz.underlying139 Tryz.underlying9 (fun w => by kernel_rfl) hv rfl hl) ?_;refine sl_alloc tV (wn rfl) rfl hv x2al91 (fun b5 w6 hv => ?_);refine zX 0 rfl hv x0sz91 rfl (fun w7 hv => ?_) (by exact ⟨rfl, rfl, rfl, rfl, rfl, rfl, rfl, rfl, trivial⟩);apply uN;intro _ _ _ _;refine oG (.bool true) rfl (ex_not rfl rfl rfl) ?_;intro _ _;refine rW mixed [16, 19] [0,1,2,3,4,5,6,7,8,9,10,11,12,13,14,15,16,17,18,19,20] 51 rfl (by kernel_rfl) hv ?_;simp only [qm, opAt];apply uN;refine dG (vP t) rfl (ex_nil rfl rfl) ?_;refine dG (vP t) rfl (ex_field rfl rfl (x1fa141_0 _ _ _)) ?_;simp only [zP, po];refine dL _ rfl (fun hv => ex_load rfl rfl (run_load1 x1na57 (hv.load 2 0 rfl rfl))) ?_;refine dG (vP m) rfl (ex_nil rfl rfl) ?_;refine dG (vP m) rfl (ex_field rfl rfl (x2fa102_0 _ _ _)) ?_;simp only [zP, po];refine dL _ rfl (fun hv => ex_load rfl rfl (run_load1 x0na61 (hv.load 3 0 rfl rfl))) ?_;apply uN;refine dG (vP t) rfl (ex_nil rfl rfl) ?_;refine dG (.pointer (some ⟨t, 1, none⟩)) rfl (ex_field rfl rfl (x2fa141_1 _ _ _)) ?_;refine dL _ rfl (fun hv => ex_load rfl rfl (run_load1 s2na3 (hv.load 2 1 rfl rfl))) ?_;apply uN;refine dG (vP t) rfl (ex_nil rfl rfl) ?_;refine dG (.pointer (some ⟨t, 2, none⟩)) rfl (ex_field rfl rfl (x2fa141_2 _ _ _)) ?_;simp only [zP, po];refine dL _ rfl (fun hv => ex_load rfl rfl (run_load1 s2na3 (hv.load 2 2 rfl rfl))) (dS rfl fun w11 hv => ?_);replace hv := hv.front 7 rfl;simp only [eS, eZ] at hv;replace hv := hv.front 7 rfl;simp only [eS, eZ] at hv;refine mC x2callable217 rfl ((storeRead0 B _ _ s p 0 clk key hv).mono ?_) rfl;rintro e w12 ⟨rfl, hv⟩;refine ⟨_, rfl, dW hv ?_⟩;apply uN;refine dS rfl fun w13 hv => ?_
  refine zY 3 rfl hv x0sz91 rfl (fun w14 hv => ?_) (by exact ⟨rfl, rfl, rfl, rfl, rfl, rfl, rfl, rfl, trivial⟩);refine dW hv ?_;apply uN;refine dE fun w15 hv => ?_
  apply uN;refine bodyPost_ret (res_cell2 rfl rfl (lM 3 x0wd91 hv rfl rfl rfl rfl)) rfl ?_;exact ⟨_, zver0, _, _, _, false, (Base.Le.refl _), rfl, .inr ⟨rfl, rfl, fun y hy => (by rw [hlM] at hy; cases hy)⟩, zver0_at _, Inv.star (K := txL _ _ _ _ _ _ _ _ _ _) ((hv.kp [1, 1, 7, 7, 7, 7] 6 2))⟩
 refine oG (.tuple #[.agg #[vI x.stamp, .bool x.gone, vI x.expire, vI x.val.kind, vS x.val.text, xp, xt, xz], .bool true]) rfl (ex_lookS (z := .agg #[vI 0, .bool false, vI 0, vI 0, vS [], vN, vN, vN]) 4 rfl rfl rfl Tryz.underlying139 Tryz.underlying9 (fun w => by kernel_rfl) hv rfl hl) ?_;refine sl_alloc tV (wn rfl) rfl hv x2al91 (fun b16 w17 hv => ?_);refine zX 0 rfl hv x0sz91 rfl (fun w18 hv => ?_) (by exact ⟨rfl, rfl, rfl, rfl, rfl, hxv.p.one, hxv.t.one, hxv.z.one, trivial⟩);apply uN;intro _ _ _ _;refine oG (.bool false) rfl (ex_not rfl rfl rfl) ?_;intro _ _ _ _;refine rW mixed [5] [0,1,2,3,4,5,6] 51 rfl (by kernel_rfl) hv ?_;simp only [qm, opAt];refine dL (.agg #[vI x.stamp, .bool x.gone, vI x.expire, vI x.val.kind, vS x.val.text, xp, xt, xz]) rfl (fun hv => ex_load rfl rfl (lM 0 x0wd91 hv rfl rfl rfl rfl)) ?_;apply uN;refine dG (vP t) rfl (ex_nil rfl rfl) ?_;simp only [zP, po];refine dG (.pointer (some ⟨t, 2, none⟩)) rfl (ex_field rfl rfl (x2fa141_2 _ _ _)) ?_;refine dL _ rfl (fun hv => ex_load rfl rfl (run_load1 s2na3 (hv.load 2 2 rfl rfl))) ?_;refine dS rfl fun w23 hv => mC x2callable223 rfl ((chainAlive B _ _ x xp xt xz clk hv).mono ?_) rfl
 rintro e w24 ⟨rfl, hv⟩;refine ⟨_, rfl, dW hv ?_⟩;simp only [zP, po];refine dG (.bool (!(aliveB x clk))) rfl (ex_not rfl rfl rfl) (dE fun w25 hv => ?_);apply uN;refine wpIn_cond_split (t := !(aliveB x clk)) rfl (fun hc26 => ?_) (fun hc26 => ?_)
 ·apply uN;intro _ _;refine oG (.agg #[vI 0, .bool false, vI 0, vI 0, vS [], vN, vN, vN]) rfl (ex_buildN (vs := #[]) rfl (by simp only [List.map_toArray, List.map_nil]) (by kernel_rfl)) ?_;refine zX 1 rfl hv x0sz91 rfl (fun w28 hv => ?_) (by exact ⟨rfl, rfl, rfl, rfl, rfl, rfl, rfl, rfl, trivial⟩);apply uN;refine bodyPost_ret (res_cell2 rfl rfl (lM 1 x0wd91 hv rfl rfl rfl rfl)) rfl (⟨_, zver0, _, _, _, false, (Base.Le.refl _), rfl, .inr ⟨rfl, rfl, fun y hy => (by rw [hlM] at hy; cases hy; simpa using hc26)⟩, zver0_at _, Inv.star (K := txL _ _ _ _ _ _ _ _ _ _) ((hv.kp [7, 7, 7, 7, 7, 7] 6 2))⟩)
 apply uN;intro _ _;refine oF (.pointer (some ⟨b16, 3, none⟩)) rfl (x2fa91_3 _ _ _) ?_;refine oL (.agg #[vI x.val.kind, vS x.val.text, xp, xt, xz]) rfl (lM 0 s1wd84 hv rfl rfl rfl rfl) ?_;refine xC x2callable62 rfl ((valueClone _ _ _ x.val xp xt xz (hxv.more (Base.Le.refl _)) hv).mono ?_) rfl;rintro e w34 ⟨C30, p31, t32, z33, hC30, rfl, hp31, hv⟩;apply eR;refine oF (.pointer (some ⟨b16, 3, none⟩)) rfl (x2fa91_3 _ _ _) ?_;refine zX 0 rfl hv s1sz84 rfl (fun w35 hv => ?_) (by exact ⟨rfl, rfl, hp31.p.one, hp31.t.one, hp31.z.one, trivial⟩);apply uN;intro _ _;refine oL (.agg #[vI x.stamp, .bool x.gone, vI x.expire, vI x.val.kind, vS x.val.text, p31, t32, z33]) rfl (lM 0 x0wd91 hv rfl rfl rfl rfl) ?_;refine zX 1 rfl hv x0sz91 rfl (fun w37 hv => ?_) (by exact ⟨rfl, rfl, rfl, rfl, rfl, hp31.p.one, hp31.t.one, hp31.z.one, trivial⟩);apply uN;refine bodyPost_ret (res_cell2 rfl rfl (lM 1 x0wd91 hv rfl rfl rfl rfl)) rfl ?_;exact ⟨_, x, _, _, _, true, hC30, rfl, .inl ⟨rfl, hlM, by simpa using hc26⟩, hp31, Inv.star (K := txL _ _ _ _ _ _ _ _ _ _) ((hv.kp [7, 7, 7, 7, 7, 7] 6 2))⟩
end Go.Proofs.YtgbhdfpobgefgaaGreatDoor
namespace Go.Pm
open Go.RowKit
section
variable {F : Fence} {n : Nat} {P : Program} {ops : Array Oper} {Q : Exit → Act → World → Prop} {a : Act} {w : World} {rest : List Oper} {o : Oper} {x : Operand}
theorem ex_iface {t : TypeId} {v : Value} {y : Operand} {d : TypeDesc} (ht : P.underlying t = some d) (hd : ∀ m, d ≠ .interface m) (ho : o.op = .makeInterface t y) (hy : a.eval y = v) : Ex P a o w (.iface t v) w := by
 unfold Ex;cases d <;> first | exact absurd rfl (hd _) | simp [execOp, ho, hy, Instr.makeInterface, run_underlying ht]
theorem ex_ifnil {t u d : TypeId} {v : Value} {ms : Array (String × TypeId)} {y : Operand} (ht : P.underlying t = some (.interface ms)) (ho : o.op = .binOp .eql t x y u) (hx : a.eval x = .iface d v) (hy : a.eval y = .nilIface) : Ex P a o w (.bool false) w := by
 have hg : (eqGuard .eql t x y (.iface d v) .nilIface).run P w = .ok () w := by simp [eqGuard]
 have h : ∀ k : Nat, (Op.equalIn (k + 1) t (.iface d v) .nilIface).run P w = .ok false w := fun k => by simp [Op.equalIn, run_underlying ht]
 have hr : (binOp .eql t (.iface d v) .nilIface).run P w = .ok (.bool false) w := by
  simp only [binOp]; simp [Op.equal, Op.maxDepth, h 9999]
 unfold Ex; simp [execOp, ho, hx, hy, hg, hr]
theorem sl_rowN {B : Base} {H : List Res} {t e : TypeId} {k : Nat} {parts : Array (Nat × Operand)} {pv : Array (Nat × Value)} {L : List Value} (hF : ∀ f, F.fn f) (hg : Region.wanted o (yielded ops a.tmps) = true) (ho : o.op = .buildSlice t k parts) (hx : (parts.map fun (i, x) => (i, a.eval x)) = pv) (hv : Inv B H w)
  (hr : ∀ w, (Instr.buildSlice t k pv).run P w = .ok (.slice (some ⟨w.heap.size, 0, none⟩) k k) (w.alloc (.cells L.toArray e))) (h : ∀ b w', Inv B (Res.cell b L e :: H) w' → wpListIn F n P ops Q rest (a.put o.dst (.slice (some ⟨b, 0, none⟩) k k)) w') : wpListIn F n P ops Q (o :: rest) a w :=
 wpi_exG hF hg (by unfold isDefer; rw [ho]) (by unfold Ex; simp only [execOp, ho, hx]; simp [hr]) (h _ _ (hv.alloc L e))
theorem ex_nilI {t : TypeId} {v : Value} (ho : o.op = .nilCheck x) (hx : a.eval x = .iface t v) : Ex P a o w (.iface t v) w := by unfold Ex; simp [execOp, ho, hx]
theorem run_callI {f : FuncId} {name : String} {xs : Array Operand} {ts : Array TypeId} {args : Array Value} {t : TypeId} {r r' : Value} (hf : Callable P f) (ho : o.op = .call { callee := .invoke x name, args := xs, argTypes := ts }) (hfx : a.eval x = .iface t r)
  (hm : ∀ w, (method (P.types.size + Made.depth) t r name).run P w = .ok (f, r') w) (hx : xs.map a.eval = args) (w : World) : (execOp a.eval o).run P w = .ok (.enter f (#[r'] ++ args)) w := by
 obtain ⟨fn, h1, h2, h3⟩ := hf;have hb : ¬ fn.body = none := by intro h; rw [h] at h3; cases h3
 have hn : ¬ fn.name = "runtime.NumGoroutine" := by simpa using h2
 have hget : (#[Value.iface t r] ++ xs.map a.eval)[0]? = some (.iface t r) := by
  rw [← Array.getElem?_toList, Array.toList_append]; rfl
 have hext : (#[Value.iface t r] ++ xs.map a.eval).extract 1 (#[Value.iface t r] ++ xs.map a.eval).size = xs.map a.eval := by
  apply Array.ext'; simp;exact List.take_of_length_le (by simp)
 obtain ⟨d, op, ty, pos, af, gd⟩ := o;simp only at ho;subst ho;simp only [execOp, resolve, Sem.run_bind, Sem.run_pure, Result.andThen_ok, invoke, hfx, hget, hext, callMethod];simp only [program, Sem.run, Result.andThen_ok, hm, hx]
 simp [callFunc, h1, hn, hb]
theorem wpi_callI {f : FuncId} {name : String} {xs : Array Operand} {ts : Array TypeId} {args : Array Value} {t : TypeId} {r r' : Value} (hf : Callable P f) (hF : ∀ f, F.fn f) (hC : ∀ (f : FuncId) (args : Array Value) (w : World) (R : Ending → World → Prop), Calls P f args w R → CallsIn F (n - 1) P f args w R) (hdp : F.depth = none) (hg : Region.wanted o (yielded ops a.tmps) = true)
  (ho : o.op = .call { callee := .invoke x name, args := xs, argTypes := ts }) (hfx : a.eval x = .iface t r) (hm : ∀ w, (method (P.types.size + Made.depth) t r name).run P w = .ok (f, r') w) (hx : xs.map a.eval = args) (hc : Calls P f (#[r'] ++ args) w fun e w' => ∃ v, e = .returned v ∧ wpListIn F n P ops Q rest (a.put o.dst v) w') : wpListIn F n P ops Q (o :: rest) a w := by
 refine wpListIn_step fun K hK => ?_
 rw [if_pos hg];refine ⟨fun f _ => hF f, ?_⟩;have hd : isDefer o = false := by unfold isDefer; rw [ho]
 rw [Oper.semAt_eq _ _ _ (not_defer hd), run_callI hf ho hfx hm hx w, Oper.uponIn_enter];refine ⟨fun e => by simp [hdp] at e, hC _ _ _ _ (hc.mono ?_)⟩;rintro e w' ⟨v, rfl, hh⟩;exact hK _ _ hh
theorem stepMem_callI {J : List Value → World → Prop} {vals : List Value} {f : FuncId} {name : String} {xs : Array Operand} {ts : Array TypeId} {args : Array Value} {t : TypeId} {r r' : Value} (hf : Callable P f) (hg : Region.wanted o (yielded ops a.tmps) = true)
  (ho : o.op = .call { callee := .invoke x name, args := xs, argTypes := ts }) (hfx : a.eval x = .iface t r) (hm : ∀ w, (method (P.types.size + Made.depth) t r name).run P w = .ok (f, r') w) (hx : xs.map a.eval = args) (hc : Calls P f (#[r'] ++ args) w fun e w' => ∃ v, e = .returned v ∧ J (vals ++ [v]) w') : StepMem P ops J Q o a w vals := by
 unfold StepMem;rw [if_pos hg];unfold Oper.wp;rw [run_callI hf ho hfx hm hx w];exact hc.mono fun e w' ⟨v, he, h1⟩ => by subst he; exact ⟨v, rfl, h1⟩
end
section
variable {F : Fence} {n : Nat} {P : Program} {ops : Array Oper} {Q : Exit → Act → World → Prop} {a : Act} {w : World} {rest : List Oper} {o : Oper} {x : Operand}
theorem wpi_defer {f : FuncId} {cb : Array Value} (hF : ∀ f, F.fn f) (hro : F.round = none) (hg : Region.wanted o (yielded ops a.tmps) = true) (ho : o.op = .defer { callee := .value x, args := #[], argTypes := #[] }) (hx : a.eval x = .func (.func f) #[] cb)
  (h : wpListIn F n P ops Q rest (({ a with defers := { target := .fn (.func f) cb, args := #[] } :: a.defers } : Act).put o.dst undef) w) : wpListIn F n P ops Q (o :: rest) a w := by
 refine wpListIn_step fun K hK => ?_
 rw [if_pos hg];refine ⟨fun f _ => hF f, ?_⟩;have hr : (execOp a.eval o).run P w = .ok (.defer { target := .fn (.func f) cb, args := #[] }) w := by
  obtain ⟨d, op, ty, pos, af, gd⟩ := o;simp only at ho;subst ho
  simp [execOp, resolve, hx, Deferred.ofValue]
 rw [hro, Oper.semAt_none, hr, Oper.uponIn_defer];exact hK _ _ h
end
theorem res_cells2 {P : Program} {fn : Func} {w : World} {t u : TypeId} {v v' : Value} {r i : Nat} (h : fn.results = #[.cell r t, .cell i u]) {tmps : Array Value} {ad ad' : Addr} (hr : tmps.getD r undef = .pointer (some ad)) (hl : (Instr.loadAt t (.pointer (some ad))).run P w = .ok v w)
  (hr2 : tmps.getD i undef = .pointer (some ad')) (hl2 : (Instr.loadAt u (.pointer (some ad'))).run P w = .ok v' w) : (results fn tmps).run P w = .ok (.tuple #[v, v']) w := by
 have hl' : (loadVar t ad).run P w = .ok v w := by simpa [Instr.loadAt, Instr.sureAddr] using hl
 have hr' : tmps[r]?.getD undef = .pointer (some ad) := by rw [← hr, Array.getD_eq_getD_getElem?]
 have hl2' : (loadVar u ad').run P w = .ok v' w := by simpa [Instr.loadAt, Instr.sureAddr] using hl2
 have hr2' : tmps[i]?.getD undef = .pointer (some ad') := by rw [← hr2, Array.getD_eq_getD_getElem?]
 simp [results, h, hr', hr2', asAddr, hl', hl2']
theorem leave_rec {P : Program} {fn : Func} {n : Nat} {tmps cb : Array Value} {R : Ending → World → Prop} {w : World} {v : Value} {f : FuncId} (hf : Callable P f) (hrec : CallsDIn Fence.wide (n - 1) P f cb .returning w fun e u' w' => e = .returned (.tuple #[]) ∧ u' = .returning ∧ w' = w)
  (hres : (results fn tmps).run P w = .ok v w) (hR : R (.returned v) w) : bodyPostDIn Fence.wide n P fn R .ret ⟨tmps, [{ target := .fn (.func f) cb, args := #[] }]⟩ w := by
 obtain ⟨fn', h1, h2, h3⟩ := hf;have hb : ¬ fn'.body = none := by intro h; rw [h] at h3; cases h3
 have hn : ¬ fn'.name = "runtime.NumGoroutine" := by simpa using h2
 refine leavesIn_cons (f := f) (args := cb) (by simp) (by simp [Fence.wide]) (by simp [invoke, callFunc, h1, hn, hb]) (fun _ _ => trivial) ?_;refine hrec.mono ?_;rintro e u' w'' ⟨rfl, rfl, rfl⟩;exact ⟨v, by simpa [settle] using hres, hR⟩
end Go.Pm
namespace Go.Proofs.YtgbhdfpobgefgaaGreatDoor
open Go.RowKit Go.Pm
theorem ixNew0 (B : Base) (H : List Res) (w : World) (hv : Inv B H w) :
  Calls Tryz.prog 37 #[] w fun e w' => ∃ p, e = .returned (vP p) ∧ Inv B (Res.cell p [vN, vI 0] 138 :: H) w' := by
 refine cW Tryz.func37 rfl Tryz.ntmps37 ?_;simp only [al];apply uN;intro _ _;apply uN;intro _ _;refine oG (.agg #[vN, vI 0]) rfl (ex_buildN (vs := #[]) rfl (by simp only [List.map_toArray, List.map_nil]) (by kernel_rfl)) ?_;refine sl_box (L := [vN, vI 0]) tV (wn rfl) rfl rfl hv (fun w => by kernel_rfl) (fun b3 w4 hv => ?_);apply uN;refine bR rfl rfl ?_;exact ⟨_, rfl, hv⟩
theorem x3callable37 : Callable Tryz.prog 37 := cb Tryz.func37 (by kernel_rfl)
theorem storeNew0 (B : Base) (H : List Res) (w : World) (hv : Inv B H w) :
  Calls Tryz.prog 21 #[] w fun e w' => ∃ s p, e = .returned (vP s) ∧ Inv B (Res.cell s [vP p, vI 0, vI 0] 106 :: Res.cell p [vN, vI 0] 138 :: H) w' := by
 refine cW Tryz.func21 rfl Tryz.ntmps21 ?_;simp only [al];apply uN;intro _ _;apply uN;intro _ _;refine xC x3callable37 rfl ((ixNew0 B _ _ hv).mono ?_) rfl;rintro e w3 ⟨p, rfl, hv⟩;apply eR;refine oG (.agg #[vP p, vI 0, vI 0]) rfl (ex_buildN (vs := #[(0, vP p)]) rfl (by simp only [List.map_toArray, List.map_cons, List.map_nil]; rfl) (by kernel_rfl)) ?_;refine sl_box (L := [vP p, vI 0, vI 0]) tV (wn rfl) rfl rfl hv (fun w => by kernel_rfl) (fun b4 w5 hv => ?_);apply uN;refine bR rfl rfl ?_;exact ⟨_, p, rfl, hv⟩
theorem txnNew0 (B : Base) (H : List Res) (w : World) (s : Nat) (tt : TypeId) (sq : Value) (hv : Inv B H w) :
  Calls Tryz.prog 20 #[vP s, (.iface tt sq)] w fun e w' => ∃ m, e = .returned (.tuple #[vP m, vI 0]) ∧ Inv B (Res.cell m [vP s, .iface tt sq, vI 0, vN] 102 :: H) w' := by
 refine cW Tryz.func20 rfl Tryz.ntmps20 ?_;simp only [al];apply uN;intro _ _;apply uN;intro _ _ _ _;refine oG (.bool false) rfl (ex_pisnil Tryz.underlying61 rfl rfl rfl rfl) ?_;refine oG (.bool false) rfl (ex_ifnil Tryz.underlying99 rfl rfl rfl) ?_;intro _ _;refine oG (.agg #[vP s, (.iface tt sq), vI 0, vN]) rfl (ex_buildN (vs := #[(0, vP s), (1, (.iface tt sq))]) rfl (by simp only [List.map_toArray, List.map_cons, List.map_nil]; rfl) (by kernel_rfl)) ?_;refine sl_box (L := [vP s, (.iface tt sq), vI 0, vN]) tV (wn rfl) rfl rfl hv (fun w => by kernel_rfl) (fun b5 w6 hv => ?_);apply uN;refine bodyPost_ret (results_tmp2 rfl _ _ _) rfl (⟨_, rfl, hv⟩)
theorem x3fa106_1 : FA Tryz.prog 106 1 1 := fun w b o => by kernel_rfl
theorem x3na3 (w : World) : (isAgg 3).run Tryz.prog w = .ok false w := by kernel_rfl
theorem storeLast0 (B : Base) (H : List Res) (w : World) (s p : Nat) (hv : Inv B (Res.cell s [vP p, vI 0, vI 0] 106 :: H) w) :
  Calls Tryz.prog 39 #[vP s] w fun e w' => e = .returned (vI 0) ∧ Inv B (Res.cell s [vP p, vI 0, vI 0] 106 :: H) w' := by
 refine cW Tryz.func39 rfl Tryz.ntmps39 ?_;simp only [al];apply uN;intro _ _;apply uN;intro _ _;refine oG (vP s) rfl (ex_nil rfl rfl) ?_;refine oF (.pointer (some ⟨s, 1, none⟩)) rfl (x3fa106_1 _ _ _) ?_;refine oL _ rfl (run_load1 x3na3 (hv.load 0 1 rfl rfl)) ?_;refine bR rfl rfl (⟨rfl, hv⟩)
theorem x3fa102_3 : FA Tryz.prog 102 3 3 := fun w b o => by kernel_rfl
theorem x3na100 (w : World) : (isAgg 100).run Tryz.prog w = .ok false w := by kernel_rfl
theorem x3fa102_2 : FA Tryz.prog 102 2 2 := fun w b o => by kernel_rfl
theorem x3mk66 : (Tryz.prog.info? 66).map (fun i => (i.zero, i.size, i.bytes)) = some (some (.pointer none), 1, 8) := by kernel_rfl
theorem x3el100 : Elem Tryz.prog 100 66 (.pointer none) 1 8 := elem_of Tryz.underlying100 x3mk66 (by rfl) (by decide)
theorem x3sz100 : (Tryz.prog.info? 100).map (·.size) = some 1 := by kernel_rfl
theorem txnBegin0 (B : Base) (H : List Res) (w : World) (m s : Nat) (sv : Value) (clk : Int) (hv : Inv B (Res.cell m [vP s, sv, vI clk, vN] 102 :: H) w) :
  Calls Tryz.prog 38 #[vP m, vI 0, .bool false] w fun e w' => ∃ t wb va vc, e = .returned (.tuple #[vP t, vI 0]) ∧ Inv B (Res.cell t [vP m, vI 0, vI clk, .bool false, .map (some wb)] 141 :: Res.cell m [vP s, sv, vI clk, .slice va 1 vc] 102 :: Res.row 66 1 (.slice va 1 vc) 1 [vP t] :: Res.vmap wb [] :: H) w' := by
 refine cW Tryz.func38 rfl Tryz.ntmps38 ?_;simp only [al];apply uN;intro _ _;apply uN;intro _ _ _ _;refine oG (vP m) rfl (ex_nil rfl rfl) ?_;refine oF (.pointer (some ⟨m, 3, none⟩)) rfl (x3fa102_3 _ _ _) ?_;refine oL _ rfl (run_load1 x3na100 (hv.load 0 3 rfl rfl)) ?_;refine oG (vI 0) rfl (ex_len0 Tryz.underlying100 rfl rfl) ?_;refine oG (.bool false) rfl (ex_geq rfl rfl rfl (by decide)) ?_;intro _ _;refine oG (vP m) rfl (ex_nil rfl rfl) ?_;refine oF (.pointer (some ⟨m, 2, none⟩)) rfl (x3fa102_2 _ _ _) ?_;refine oL _ rfl (run_load1 x3na3 (hv.load 0 2 rfl rfl)) ?_;refine sl_newMapV tV (wn rfl) rfl hv (fun mp5 w6 hv => ?_);refine oG (.agg #[vP m, vI 0, vI clk, .bool false, .map (some mp5)]) rfl (ex_buildN (vs := #[(0, vP m), (1, vI 0), (2, vI clk), (3, .bool false), (4, .map (some mp5))]) rfl (by simp only [List.map_toArray, List.map_cons, List.map_nil]; rfl) (by kernel_rfl)) ?_;refine sl_box (L := [vP m, vI 0, vI clk, .bool false, .map (some mp5)]) tV (wn rfl) rfl rfl hv (fun w => by kernel_rfl) (fun b7 w8 hv => ?_);apply uN;intro _ _;replace hv := hv.rowNil 66 1;apply uN;refine oG (vP m) rfl (ex_nil rfl rfl) ?_;refine oF (.pointer (some ⟨m, 3, none⟩)) rfl (x3fa102_3 _ _ _) ?_;refine oL _ rfl (run_load1 x3na100 (hv.load 3 3 rfl rfl)) ?_;refine sl_rowOne (v := vP b7) tV (wn rfl) rfl rfl hv x3el100 rfl (fun b10 w11 hv => ?_);replace hv := hv.front 1 rfl;simp only [eS, eZ] at hv;refine sl_append (news := [vP b7]) tV (wn rfl) rfl rfl rfl x3el100 hv (ok_full (by omega)) rfl (rd_all (hv.get 1 rfl)) (by intro u hu; simp only [List.mem_cons, List.not_mem_nil, or_false] at hu; rcases hu with rfl <;> rfl) (by unfold maxLen; omega) (by omega) (fun rv12 w15 hv => ?_);obtain ⟨ra13, rc14, rfl⟩ := row_slice hv.head;refine oG (vP m) rfl (ex_nil rfl rfl) ?_;refine oF (.pointer (some ⟨m, 3, none⟩)) rfl (x3fa102_3 _ _ _) ?_
 refine xV 4 (.slice ra13 (0 + 1) rc14) rfl hv x3sz100 rfl rfl (fun w16 hv => ?_);simp only [zS, zO, sp] at hv;apply uN;intro _ _;apply uN;refine bodyPost_ret (results_tmp2 rfl _ _ _) rfl (⟨_, _, _, _, rfl, (hv.kp [3, 1, 4, 4] 4 1)⟩)
theorem x3fa102_0 : FA Tryz.prog 102 0 0 := fun w b o => by kernel_rfl
theorem x3callable39 : Callable Tryz.prog 39 := cb Tryz.func39 (by kernel_rfl)
theorem x3callable38 : Callable Tryz.prog 38 := cb Tryz.func38 (by kernel_rfl)
theorem txnBegin (B : Base) (H : List Res) (w : World) (m s p : Nat) (sv : Value) (clk : Int) (hv : Inv B (Res.cell m [vP s, sv, vI clk, vN] 102 :: Res.cell s [vP p, vI 0, vI 0] 106 :: Res.cell p [vN, vI 0] 138 :: H) w) :
  Calls Tryz.prog 23 #[vP m] w fun e w' => ∃ t wb va vc, e = .returned (.tuple #[vP t, vI 0]) ∧ Inv B (txR t m s p wb va vc sv clk [] :: H) w' := by
 refine cW Tryz.func23 rfl Tryz.ntmps23 ?_;simp only [al];apply uN;intro _ _;apply uN;intro _ _;refine oG (vP m) rfl (ex_nil rfl rfl) ?_;refine oF (vP m) rfl (x3fa102_0 _ _ _) ?_;refine oL _ rfl (run_load1 x0na61 (hv.load 0 0 rfl rfl)) ?_;replace hv := hv.front 1 rfl;simp only [eS, eZ] at hv;refine xC x3callable39 rfl ((storeLast0 B _ _ s p hv).mono ?_) rfl;rintro e w3 ⟨rfl, hv⟩;apply eR;simp only [zP, po];replace hv := hv.front 1 rfl;simp only [eS, eZ] at hv;refine xC x3callable38 rfl ((txnBegin0 B _ _ m s sv clk hv).mono ?_) rfl;rintro e w4 ⟨t, wb, va, vc, rfl, hv⟩;apply eR;refine bodyPost_ret (results_tmp2 rfl _ _ _) rfl ?_;exact ⟨t, wb, va, vc, rfl, Inv.star (K := txL _ _ _ _ _ _ _ _ _ _) (((((((hv.front 5 rfl).front 5 rfl).front 5 rfl).front 5 rfl).front 5 rfl).front 5 rfl))⟩
theorem x3sz3 : (Tryz.prog.info? 3).map (·.size) = some 1 := by kernel_rfl
theorem txnTick0 (B : Base) (H : List Res) (w : World) (m s : Nat) (sv : Value) (n : Int) (h0 : 0 ≤ n) (h1 : n ≤ 1099511627776) (hv : Inv B (Res.cell m [vP s, sv, vI 0, vN] 102 :: H) w) :
  Calls Tryz.prog 22 #[vP m, vI n] w fun e w' => ∃ r : Int, e = .returned (vI r) ∧ Inv B (Res.cell m [vP s, sv, vI n, vN] 102 :: H) w' := by
 refine cW Tryz.func22 rfl Tryz.ntmps22 ?_;simp only [al];apply uN;intro _ _;apply uN;intro _ _ _ _;refine uB (fun hb4 => ?_) fun hb4 => ?_
 ·refine rW mixed [14] [0,1,2,3,4,5,6,7,8,9,10,11,12,13,14] 25 rfl (by kernel_rfl) hv ?_;simp only [qm, opAt];apply uN;refine dG (vP m) rfl (ex_nil rfl rfl) ?_;refine dG (.pointer (some ⟨m, 2, none⟩)) rfl (ex_field rfl rfl (x3fa102_2 _ _ _)) ?_;simp only [zP, po];refine dL _ rfl (fun hv => ex_load rfl rfl (run_load1 x3na3 (hv.load 0 2 rfl rfl))) ?_;apply uN;refine dG (vP m) rfl (ex_nil rfl rfl) ?_;refine dG (.pointer (some ⟨m, 2, none⟩)) rfl (ex_field rfl rfl (x3fa102_2 _ _ _)) ?_;refine dL _ rfl (fun hv => ex_load rfl rfl (run_load1 x3na3 (hv.load 0 2 rfl rfl))) ?_;simp only [zP, po];refine dG (vI 1099511627776) rfl (ex_sub rfl rfl rfl (i64_in (by omega))) ?_;refine dG (vI n) rfl (ex_min2 (m := n) (n := 1099511627776) rfl rfl rfl (if_neg (by omega))) ?_;refine dG (vI n) rfl (ex_add rfl rfl rfl (by rw [i64_in (by omega)]; omega)) ?_;simp only [zP, po];refine dG (vP m) rfl (ex_nil rfl rfl) ?_;refine dG (.pointer (some ⟨m, 2, none⟩)) rfl (ex_field rfl rfl (x3fa102_2 _ _ _)) ?_;refine dS rfl fun w5 hv => mV 0 (vI n) rfl hv x3sz3 rfl rfl (fun w6 hv => ?_)
  simp only [zO, sp] at hv;refine dW hv (dE fun w7 hv => ?_);apply uN;intro _ _;refine oG (vP m) rfl (ex_nil rfl rfl) ?_;refine oF (.pointer (some ⟨m, 2, none⟩)) rfl (x3fa102_2 _ _ _) ?_;refine oL _ rfl (run_load1 x3na3 (hv.load 0 2 rfl rfl)) ?_;refine bR rfl rfl (⟨_, rfl, hv⟩)
 intro _ _;refine oG (vP m) rfl (ex_nil rfl rfl) ?_;refine oF (.pointer (some ⟨m, 2, none⟩)) rfl (x3fa102_2 _ _ _) ?_;refine oL _ rfl (run_load1 x3na3 (hv.load 0 2 rfl rfl)) ?_;refine bR rfl rfl ?_;obtain rfl : n = 0 := by omega
 exact ⟨_, rfl, hv⟩
def delM (M : List (List UInt8 × Ver)) (ks : List (List UInt8)) : List (List UInt8 × Ver) := ks.foldl (fun M k => updA M k gver) M
theorem delM_next {M : List (List UInt8 × Ver)} {ks : List (List UInt8)} {i : Nat} {x : List UInt8} (hx : ks[i]? = some x) : delM M (ks.take (i + 1)) = updA (delM M (ks.take i)) x gver := by
 unfold delM;rw [take_next hx, List.foldl_append]; rfl
theorem txnDel (B : Base) (H : List Res) (w : World) (t m s p wb : Nat) (va : Option Addr) (vc : Nat) (sv : Value) (clk : Int) (es : List (List UInt8 × Value)) (M : List (List UInt8 × Ver)) (ka : Option Addr) (kc : Nat) (ks : List (List UInt8)) (hr : RdV B [] ka (textCells ks)) (hm : ks.length ≤ 1000000) (hM : VM B es M) (hv : Inv B (txR t m s p wb va vc sv clk es :: H) w) :
  Calls Tryz.prog 230 #[vP t, .slice ka ks.length kc] w fun e w' => ∃ es' ec, e = .returned (vI ec) ∧ ((ec = 0 ∧ ks.any (fun s : List UInt8 => decide (s.length > 256)) = false ∧ VM B es' (delM M ks)) ∨ (ec = 2 ∧ ks.any (fun s : List UInt8 => decide (s.length > 256)) = true ∧ es' = es)) ∧ Inv B (txR t m s p wb va vc sv clk es' :: H) w' := by
 refine cW Tryz.func230 rfl Tryz.ntmps230 ?_;simp only [al];apply uN;intro _ _;replace hv := Inv.unstar hv;simp only [txL, List.cons_append, List.nil_append] at hv;apply uN;intro _ _ _ _;replace hv := hv.front 2 rfl;simp only [eS, eZ] at hv;replace hv := hv.front 2 rfl;simp only [eS, eZ] at hv;replace hv := hv.front 2 rfl;simp only [eS, eZ] at hv;refine xC x2callable234 rfl ((txnMay B _ _ t m s wb va vc sv clk ka kc ks hr hm hv).mono ?_) rfl;rintro e w4 ⟨ec, rfl, hmay, hv⟩;apply eR;rcases hmay with ⟨rfl, hk⟩ | ⟨rfl, hk⟩
 ·apply uN;intro _ _;refine oG (.bool false) rfl (ex_neq rfl rfl rfl (by decide)) ?_;intro _ _ _ _;refine oG (vI (ks.length : Int)) rfl (ex_len0 Tryz.underlying22 rfl rfl) ?_
  gi_loopw [16] (fun x16 wr => ∃ (i : Nat) (es1 : List (List UInt8 × Value)), x16 = vI i ∧ i ≤ ks.length ∧ VM B es1 (delM M (ks.take i)) ∧ Inv B (Res.cell t [vP m, vI 0, vI clk, .bool false, .map (some wb)] 141 :: Res.cell m [vP s, sv, vI clk, .slice va 1 vc] 102 :: Res.row 66 1 (.slice va 1 vc) 1 [vP t] :: Res.vmap wb es1 :: Res.cell s [vP p, vI 0, vI 0] 106 :: Res.cell p [vN, vI 0] 138 :: H) wr) (fun x16 _ => ks.length - (intOf x16).toNat)
  case atStart => exact ⟨0, es, rfl, Nat.zero_le _, hM, ((((((hv.front 5 rfl).front 5 rfl).front 5 rfl).front 5 rfl).front 5 rfl).front 5 rfl)⟩
  case round =>
   obtain ⟨i, es1, rfl, hi, hM1, hv⟩ := hrel;apply uN;intro _ _;refine uB (fun hb10 => ?_) fun hb10 => ?_
   ·intro _ _;apply uN;intro _ _ _ _;obtain ⟨x, hx⟩ : ∃ x, ks[i]? = some x := ⟨_, List.getElem?_eq_getElem (show i < ks.length by omega)⟩;obtain ⟨bb, bo, had, hrdx⟩ := text_reads hr hx;subst had;apply uN;refine oG (.pointer (some ⟨bb, bo + i, none⟩)) rfl (ex_index rfl rfl rfl (run_idx1 (k := i) Tryz.underlying22 s9es22 (by omega))) ?_;refine oL _ rfl (run_load1 s9na9 (hrdx _ _ _ (Base.Le.refl _) no_res hv 0 _ rfl)) ?_;refine oG (vP t) rfl (ex_nil rfl rfl) ?_;refine oF (.pointer (some ⟨t, 4, none⟩)) rfl (x2fa141_4 _ _ _) ?_;refine oL _ rfl (run_load1 x2na139 (hv.load 0 4 rfl rfl)) ?_;refine oG (.agg #[vI 0, .bool true, vI 0, vI 0, vS [], vN, vN, vN]) rfl (ex_buildN (vs := #[(1, .bool true)]) rfl (by simp only [List.map_toArray, List.map_cons, List.map_nil]; rfl) (by kernel_rfl)) ?_;replace hv := hv.front 3 rfl;simp only [eS, eZ] at hv;refine sl_updV (k := x) (v := .agg #[vI 0, .bool true, vI 0, vI 0, vS [], vN, vN, vN]) tV (wn rfl) rfl rfl rfl rfl Tryz.underlying139 Tryz.underlying9 hv (fun w14 hv => ?_);apply uN;refine oG (vI ((i + 1 : Nat) : Int)) rfl (ex_add rfl rfl rfl (by rw [i64_in (by omega)]; omega)) ?_;refine then_normal ?_
    go_roundw
    case rel => exact ⟨i + 1, _, rfl, by omega, by rw [delM_next hx]; exact VM.upd (x := gver) (gver_at _) hM1, ((((((hv.front 5 rfl).front 5 rfl).front 2 rfl).front 5 rfl).front 5 rfl).front 5 rfl)⟩
    case measure => show ks.length - (((i + 1 : Nat) : Int)).toNat < ks.length - ((i : Int)).toNat; omega
   intro _ _ _ _;apply uN;refine bR rfl rfl ?_;obtain rfl : i = ks.length := by omega
   rw [List.take_length] at hM1;exact ⟨_, 0, rfl, .inl ⟨rfl, hk, hM1⟩, Inv.star (K := txL _ _ _ _ _ _ _ _ _ _) (((((((hv.front 5 rfl).front 5 rfl).front 5 rfl).front 5 rfl).front 5 rfl).front 5 rfl))⟩
 apply uN;intro _ _;refine oG (.bool true) rfl (ex_neq rfl rfl rfl (by decide)) ?_;intro _ _;apply uN;refine bR rfl rfl (⟨_, 2, rfl, .inr ⟨rfl, hk, rfl⟩, Inv.star (K := txL _ _ _ _ _ _ _ _ _ _) (((((((hv.front 5 rfl).front 5 rfl).front 5 rfl).front 5 rfl).front 5 rfl).front 5 rfl))⟩)
end Go.Proofs.YtgbhdfpobgefgaaGreatDoor
