/- Which values, versions and chains are right. -/
import Derived.Test.YtffmbdagjpdieaaSpB
import Derived.Test.YtffmbdagjpdieaaSpF
import Derived.Test.YtffmbdagjpdieaaRows
set_option maxRecDepth 100000
namespace Go.Proofs.Ytffmbdagjpdieaa
open Go.RowKit Go.Pm
set_option maxHeartbeats 2000000 in
theorem eqPairs (B : Base) (H : List Res) (w : World) (ad : Option Addr) (n c : Nat) (hv : Inv B H w) :
  Calls Try.prog 76 #[.slice ad n c, .slice none 0 0] w fun e w' => e = .returned (.bool (decide (n = 0))) ∧ Inv B H w' := by
 refine (callsIn_wide (n := 5)).1 ?_
 refine callsIn_of_wp Try.func76 rfl trivial ?_
 simp only [Try.ntmps76, List.size_toArray, List.length_cons, List.length_nil, Nat.reduceAdd, Nat.reduceSub, Array.replicate_succ, Array.replicate_zero, List.push_toArray, List.append_toArray, List.nil_append, List.cons_append]
 refine sK fun K1 hK1 => rL ?_
 refine xA (.bool false) rfl rfl rfl ?_
 refine wL ?_
 simp only [zP, zI, zS, zO]
 refine tN (hK1 _ _ ?_)
 clear hK1 K1
 refine sK fun K2 hK2 => ?_
 refine sK fun K3 hK3 => rL ?_
 refine xM (.slice ad n c) rfl rfl rfl ?_
 refine xG (.int .i64 (n : Int)) rfl rfl (ex_len0 Try.underlying32 rfl rfl) ?_
 refine xM (.slice none 0 0) rfl rfl rfl ?_
 simp only [zP, zI, zS, zO]
 refine xG (.int .i64 0) rfl rfl (ex_len0 Try.underlying32 rfl rfl) ?_
 by_cases hb4 : (n : Int) ≠ 0
 ·refine xG (.bool true) rfl rfl (ex_neq (k := .i64) (m := (n : Int)) (n := 0) rfl rfl rfl (decide_eq_true hb4)) ?_
  refine wL ?_
  simp only [zP, zI, zS, zO]
  refine tN (hK3 _ _ ?_)
  clear hK3 K3
  refine wpIn_cond_true rfl ?_
  refine sK fun K5 hK5 => rL ?_
  refine xA (.bool false) rfl rfl rfl ?_
  refine wL ?_
  simp only [zP, zI, zS, zO]
  refine tN (hK5 _ _ ?_)
  clear hK5 K5
  refine wpIn_ret ?_
  refine then_ret ?_
  clear hK2 K2
  refine bR rfl rfl ?_
  exact ⟨congrArg (fun b => Ending.returned (Value.bool b)) (by symm; first | exact decide_eq_true (by omega) | exact decide_eq_false (by omega)), hv⟩
 refine xG (.bool false) rfl rfl (ex_neq (k := .i64) (m := (n : Int)) (n := 0) rfl rfl rfl (decide_eq_false hb4)) ?_
 refine wL ?_
 simp only [zP, zI, zS, zO]
 refine tN (hK3 _ _ ?_)
 clear hK3 K3
 refine wpIn_cond_false rfl ?_
 refine wpIn_skip ?_
 refine tN (hK2 _ _ ?_)
 clear hK2 K2
 refine sK fun K6 hK6 => ?_
 refine sK fun K7 hK7 => rL ?_
 refine xM (.slice ad n c) rfl rfl rfl ?_
 refine xG (.int .i64 (n : Int)) rfl rfl (ex_len0 Try.underlying32 rfl rfl) ?_
 refine xM (.int .i64 0) rfl rfl rfl ?_
 refine wL ?_
 simp only [zP, zI, zS, zO]
 refine tN (hK7 _ _ ?_)
 clear hK7 K7
 refine wpIn_block ?_
 gi_loopw [13] (fun x13 wr => ∃ (i : Nat), x13 = .int .i64 (i : Int) ∧ Inv B H wr) (fun x13 _ => 0)
 case atStart => exact ⟨0, rfl, hv⟩
 case round =>
  obtain ⟨i, rfl, hv⟩ := hrel
  refine sK fun K9 hK9 => rL ?_
  refine xG (.bool false) rfl rfl (ex_lss (k := .i64) (m := (i : Int)) (n := (n : Int)) rfl rfl rfl (decide_eq_false (by omega))) ?_
  refine wL ?_
  simp only [zP, zI, zS, zO]
  refine tN (hK9 _ _ ?_)
  clear hK9 K9
  refine sK fun K10 hK10 => ?_
  refine wpIn_cond_false rfl ?_
  refine wpIn_exit ?_
  refine then_exit ?_
  clear hK10 K10
  refine then_exit ?_
  refine blk_hit ?_
  refine tN (hK6 _ _ ?_)
  clear hK6 K6
  refine sK fun K11 hK11 => rL ?_
  refine xA (.bool true) rfl rfl rfl ?_
  refine wL ?_
  simp only [zP, zI, zS, zO]
  refine tN (hK11 _ _ ?_)
  clear hK11 K11
  refine wpIn_ret ?_
  refine bR rfl rfl ?_
  exact ⟨congrArg (fun b => Ending.returned (Value.bool b)) (by symm; first | exact decide_eq_true (by omega) | exact decide_eq_false (by omega)), hv⟩
set_option maxHeartbeats 2000000 in
theorem eqTexts (B : Base) (H : List Res) (w : World) (ad : Option Addr) (n c : Nat) (hv : Inv B H w) :
  Calls Try.prog 77 #[.slice ad n c, .slice none 0 0] w fun e w' => e = .returned (.bool (decide (n = 0))) ∧ Inv B H w' := by
 refine (callsIn_wide (n := 5)).1 ?_
 refine callsIn_of_wp Try.func77 rfl trivial ?_
 simp only [Try.ntmps77, List.size_toArray, List.length_cons, List.length_nil, Nat.reduceAdd, Nat.reduceSub, Array.replicate_succ, Array.replicate_zero, List.push_toArray, List.append_toArray, List.nil_append, List.cons_append]
 refine sK fun K1 hK1 => rL ?_
 refine xA (.bool false) rfl rfl rfl ?_
 refine wL ?_
 simp only [zP, zI, zS, zO]
 refine tN (hK1 _ _ ?_)
 clear hK1 K1
 refine sK fun K2 hK2 => ?_
 refine sK fun K3 hK3 => rL ?_
 refine xM (.slice ad n c) rfl rfl rfl ?_
 refine xG (.int .i64 (n : Int)) rfl rfl (ex_len0 Try.underlying33 rfl rfl) ?_
 refine xM (.slice none 0 0) rfl rfl rfl ?_
 simp only [zP, zI, zS, zO]
 refine xG (.int .i64 0) rfl rfl (ex_len0 Try.underlying33 rfl rfl) ?_
 by_cases hb4 : (n : Int) ≠ 0
 ·refine xG (.bool true) rfl rfl (ex_neq (k := .i64) (m := (n : Int)) (n := 0) rfl rfl rfl (decide_eq_true hb4)) ?_
  refine wL ?_
  simp only [zP, zI, zS, zO]
  refine tN (hK3 _ _ ?_)
  clear hK3 K3
  refine wpIn_cond_true rfl ?_
  refine sK fun K5 hK5 => rL ?_
  refine xA (.bool false) rfl rfl rfl ?_
  refine wL ?_
  simp only [zP, zI, zS, zO]
  refine tN (hK5 _ _ ?_)
  clear hK5 K5
  refine wpIn_ret ?_
  refine then_ret ?_
  clear hK2 K2
  refine bR rfl rfl ?_
  exact ⟨congrArg (fun b => Ending.returned (Value.bool b)) (by symm; first | exact decide_eq_true (by omega) | exact decide_eq_false (by omega)), hv⟩
 refine xG (.bool false) rfl rfl (ex_neq (k := .i64) (m := (n : Int)) (n := 0) rfl rfl rfl (decide_eq_false hb4)) ?_
 refine wL ?_
 simp only [zP, zI, zS, zO]
 refine tN (hK3 _ _ ?_)
 clear hK3 K3
 refine wpIn_cond_false rfl ?_
 refine wpIn_skip ?_
 refine tN (hK2 _ _ ?_)
 clear hK2 K2
 refine sK fun K6 hK6 => ?_
 refine sK fun K7 hK7 => rL ?_
 refine xM (.slice ad n c) rfl rfl rfl ?_
 refine xG (.int .i64 (n : Int)) rfl rfl (ex_len0 Try.underlying33 rfl rfl) ?_
 refine xM (.int .i64 0) rfl rfl rfl ?_
 refine wL ?_
 simp only [zP, zI, zS, zO]
 refine tN (hK7 _ _ ?_)
 clear hK7 K7
 refine wpIn_block ?_
 gi_loopw [13] (fun x13 wr => ∃ (i : Nat), x13 = .int .i64 (i : Int) ∧ Inv B H wr) (fun x13 _ => 0)
 case atStart => exact ⟨0, rfl, hv⟩
 case round =>
  obtain ⟨i, rfl, hv⟩ := hrel
  refine sK fun K9 hK9 => rL ?_
  refine xG (.bool false) rfl rfl (ex_lss (k := .i64) (m := (i : Int)) (n := (n : Int)) rfl rfl rfl (decide_eq_false (by omega))) ?_
  refine wL ?_
  simp only [zP, zI, zS, zO]
  refine tN (hK9 _ _ ?_)
  clear hK9 K9
  refine sK fun K10 hK10 => ?_
  refine wpIn_cond_false rfl ?_
  refine wpIn_exit ?_
  refine then_exit ?_
  clear hK10 K10
  refine then_exit ?_
  refine blk_hit ?_
  refine tN (hK6 _ _ ?_)
  clear hK6 K6
  refine sK fun K11 hK11 => rL ?_
  refine xA (.bool true) rfl rfl rfl ?_
  refine wL ?_
  simp only [zP, zI, zS, zO]
  refine tN (hK11 _ _ ?_)
  clear hK11 K11
  refine wpIn_ret ?_
  refine bR rfl rfl ?_
  exact ⟨congrArg (fun b => Ending.returned (Value.bool b)) (by symm; first | exact decide_eq_true (by omega) | exact decide_eq_false (by omega)), hv⟩
set_option maxHeartbeats 2000000 in
theorem eqMems (B : Base) (H : List Res) (w : World) (ad : Option Addr) (n c : Nat) (hv : Inv B H w) :
  Calls Try.prog 78 #[.slice ad n c, .slice none 0 0] w fun e w' => e = .returned (.bool (decide (n = 0))) ∧ Inv B H w' := by
 refine (callsIn_wide (n := 5)).1 ?_
 refine callsIn_of_wp Try.func78 rfl trivial ?_
 simp only [Try.ntmps78, List.size_toArray, List.length_cons, List.length_nil, Nat.reduceAdd, Nat.reduceSub, Array.replicate_succ, Array.replicate_zero, List.push_toArray, List.append_toArray, List.nil_append, List.cons_append]
 refine sK fun K1 hK1 => rL ?_
 refine xA (.bool false) rfl rfl rfl ?_
 refine wL ?_
 simp only [zP, zI, zS, zO]
 refine tN (hK1 _ _ ?_)
 clear hK1 K1
 refine sK fun K2 hK2 => ?_
 refine sK fun K3 hK3 => rL ?_
 refine xM (.slice ad n c) rfl rfl rfl ?_
 refine xG (.int .i64 (n : Int)) rfl rfl (ex_len0 Try.underlying34 rfl rfl) ?_
 refine xM (.slice none 0 0) rfl rfl rfl ?_
 simp only [zP, zI, zS, zO]
 refine xG (.int .i64 0) rfl rfl (ex_len0 Try.underlying34 rfl rfl) ?_
 by_cases hb4 : (n : Int) ≠ 0
 ·refine xG (.bool true) rfl rfl (ex_neq (k := .i64) (m := (n : Int)) (n := 0) rfl rfl rfl (decide_eq_true hb4)) ?_
  refine wL ?_
  simp only [zP, zI, zS, zO]
  refine tN (hK3 _ _ ?_)
  clear hK3 K3
  refine wpIn_cond_true rfl ?_
  refine sK fun K5 hK5 => rL ?_
  refine xA (.bool false) rfl rfl rfl ?_
  refine wL ?_
  simp only [zP, zI, zS, zO]
  refine tN (hK5 _ _ ?_)
  clear hK5 K5
  refine wpIn_ret ?_
  refine then_ret ?_
  clear hK2 K2
  refine bR rfl rfl ?_
  exact ⟨congrArg (fun b => Ending.returned (Value.bool b)) (by symm; first | exact decide_eq_true (by omega) | exact decide_eq_false (by omega)), hv⟩
 refine xG (.bool false) rfl rfl (ex_neq (k := .i64) (m := (n : Int)) (n := 0) rfl rfl rfl (decide_eq_false hb4)) ?_
 refine wL ?_
 simp only [zP, zI, zS, zO]
 refine tN (hK3 _ _ ?_)
 clear hK3 K3
 refine wpIn_cond_false rfl ?_
 refine wpIn_skip ?_
 refine tN (hK2 _ _ ?_)
 clear hK2 K2
 refine sK fun K6 hK6 => ?_
 refine sK fun K7 hK7 => rL ?_
 refine xM (.slice ad n c) rfl rfl rfl ?_
 refine xG (.int .i64 (n : Int)) rfl rfl (ex_len0 Try.underlying34 rfl rfl) ?_
 refine xM (.int .i64 0) rfl rfl rfl ?_
 refine wL ?_
 simp only [zP, zI, zS, zO]
 refine tN (hK7 _ _ ?_)
 clear hK7 K7
 refine wpIn_block ?_
 gi_loopw [13] (fun x13 wr => ∃ (i : Nat), x13 = .int .i64 (i : Int) ∧ Inv B H wr) (fun x13 _ => 0)
 case atStart => exact ⟨0, rfl, hv⟩
 case round =>
  obtain ⟨i, rfl, hv⟩ := hrel
  refine sK fun K9 hK9 => rL ?_
  refine xG (.bool false) rfl rfl (ex_lss (k := .i64) (m := (i : Int)) (n := (n : Int)) rfl rfl rfl (decide_eq_false (by omega))) ?_
  refine wL ?_
  simp only [zP, zI, zS, zO]
  refine tN (hK9 _ _ ?_)
  clear hK9 K9
  refine sK fun K10 hK10 => ?_
  refine wpIn_cond_false rfl ?_
  refine wpIn_exit ?_
  refine then_exit ?_
  clear hK10 K10
  refine then_exit ?_
  refine blk_hit ?_
  refine tN (hK6 _ _ ?_)
  clear hK6 K6
  refine sK fun K11 hK11 => rL ?_
  refine xA (.bool true) rfl rfl rfl ?_
  refine wL ?_
  simp only [zP, zI, zS, zO]
  refine tN (hK11 _ _ ?_)
  clear hK11 K11
  refine wpIn_ret ?_
  refine bR rfl rfl ?_
  exact ⟨congrArg (fun b => Ending.returned (Value.bool b)) (by symm; first | exact decide_eq_true (by omega) | exact decide_eq_false (by omega)), hv⟩
def ZeroVal (v : Val) : Prop := v.kind = 0 ∧ v.text = [] ∧ v.pairs.length = 0 ∧ v.texts.length = 0 ∧ v.zset.length = 0
instance (v : Val) : Decidable (ZeroVal v) := inferInstanceAs (Decidable (_ ∧ _))
def ValOk (v : Val) : Prop := (v.kind = 1 ∧ v.text.length ≤ 4096 ∧ v.pairs.length = 0 ∧ v.texts.length = 0 ∧ v.zset.length = 0) ∨ (v.kind = 2 ∧ 0 < v.pairs.length ∧ HashOk v.pairs ∧ v.text = [] ∧ v.texts.length = 0 ∧ v.zset.length = 0) ∨
 (v.kind = 3 ∧ 0 < v.texts.length ∧ listRight v.texts = true ∧ v.text = [] ∧ v.pairs.length = 0 ∧ v.zset.length = 0) ∨ (v.kind = 4 ∧ 0 < v.texts.length ∧ SetOk v.texts ∧ v.text = [] ∧ v.pairs.length = 0 ∧ v.zset.length = 0) ∨
 (v.kind = 5 ∧ 0 < v.zset.length ∧ ZsetOk v.zset ∧ v.text = [] ∧ v.pairs.length = 0 ∧ v.texts.length = 0)
theorem listRightX (B : Base) (H : List Res) (w : World) (ad : Option Addr) (c : Nat) (l : List (List UInt8)) (hr : RdV B [] ad (textCells l)) (hm : l.length ≤ 1000000) (hv : Inv B H w) : Calls Try.prog 80 #[.slice ad l.length c] w fun e w' => ∃ b, e = .returned (.bool b) ∧ (b = true ↔ listRight l = true) ∧ Inv B H w' :=
 (listRightC B H w ad c l hr hm hv).mono fun _ _ ⟨h1, h2⟩ => ⟨_, h1, Iff.rfl, h2⟩
theorem s12fa36_0 (w : World) (b o : Nat) : (Instr.fieldAt 36 (.pointer (some ⟨b, o, none⟩)) 0).run Try.prog w = .ok (.pointer (some ⟨b, o + 0, none⟩)) w := by kernel_rfl
theorem s12fa36_1 (w : World) (b o : Nat) : (Instr.fieldAt 36 (.pointer (some ⟨b, o, none⟩)) 1).run Try.prog w = .ok (.pointer (some ⟨b, o + 1, none⟩)) w := by kernel_rfl
theorem s12callable76 : Callable Try.prog 76 := ⟨_, Try.func76, by kernel_rfl, by kernel_rfl⟩
theorem s12callable77 : Callable Try.prog 77 := ⟨_, Try.func77, by kernel_rfl, by kernel_rfl⟩
theorem s12callable78 : Callable Try.prog 78 := ⟨_, Try.func78, by kernel_rfl, by kernel_rfl⟩
set_option maxHeartbeats 2000000 in
theorem valueSame0 (B : Base) (H : List Res) (w : World) (v : Val) (ap at2 az : Option Addr) (cp ct cz : Nat) (hv : Inv B H w) :
  Calls Try.prog 72 #[.agg #[.int .i64 v.kind, .string ⟨v.text.toArray⟩, .slice ap v.pairs.length cp, .slice at2 v.texts.length ct, .slice az v.zset.length cz], .agg #[.int .i64 0, .string ⟨([] : List UInt8).toArray⟩, .slice none 0 0, .slice none 0 0, .slice none 0 0]] w fun e w' => e = .returned (.bool (decide (ZeroVal v))) ∧ Inv B H w' := by
 refine (callsIn_wide (n := 5)).1 ?_
 refine callsIn_of_wp Try.func72 rfl trivial ?_
 simp only [Try.ntmps72, List.size_toArray, List.length_cons, List.length_nil, Nat.reduceAdd, Nat.reduceSub, Array.replicate_succ, Array.replicate_zero, List.push_toArray, List.append_toArray, List.nil_append, List.cons_append]
 refine sK fun K1 hK1 => rL ?_
 refine sl_box (L := [.int .i64 v.kind, .string ⟨v.text.toArray⟩, .slice ap v.pairs.length cp, .slice at2 v.texts.length ct, .slice az v.zset.length cz]) tV (wn rfl) rfl (p := .agg #[.int .i64 v.kind, .string ⟨v.text.toArray⟩, .slice ap v.pairs.length cp, .slice at2 v.texts.length ct, .slice az v.zset.length cz]) rfl hv (fun w => by kernel_rfl) (fun b2 w3 hv => ?_)
 refine sl_box (L := [.int .i64 0, .string ⟨([] : List UInt8).toArray⟩, .slice none 0 0, .slice none 0 0, .slice none 0 0]) tV (wn rfl) rfl (p := .agg #[.int .i64 0, .string ⟨([] : List UInt8).toArray⟩, .slice none 0 0, .slice none 0 0, .slice none 0 0]) rfl hv (fun w => by kernel_rfl) (fun b4 w5 hv => ?_)
 refine xA (.bool false) rfl rfl rfl ?_
 refine wL ?_
 simp only [zP, zI, zS, zO]
 refine tN (hK1 _ _ ?_)
 clear hK1 K1
 refine sK fun K6 hK6 => rL ?_
 refine xF (.pointer (some ⟨b2, 0, none⟩)) rfl rfl rfl (s12fa36_0 _ _ _) ?_
 refine xL (.int .i64 v.kind) rfl rfl rfl (run_load1 s2na3 (hv.load 1 0 rfl rfl)) ?_
 refine xF (.pointer (some ⟨b4, 0, none⟩)) rfl rfl rfl (s12fa36_0 _ _ _) ?_
 simp only [zP, zI, zS, zO]
 refine xL (.int .i64 0) rfl rfl rfl (run_load1 s2na3 (hv.load 0 0 rfl rfl)) ?_
 by_cases hb7 : v.kind = 0
 ·refine xG (.bool true) rfl rfl (ex_eql (k := .i64) (m := v.kind) (n := 0) rfl rfl rfl (decide_eq_true hb7)) ?_
  refine xM (.bool true) rfl rfl rfl ?_
  simp only [zP, zI, zS, zO]
  refine xH 5 10 true (.pointer (some ⟨b2, 1, none⟩)) rfl rfl rfl rfl (ex_field rfl rfl (s12fa36_1 _ _ _)) ?_
  refine xH 5 10 true (.string ⟨v.text.toArray⟩) rfl rfl rfl rfl (ex_load rfl rfl (run_load1 s3na9 (hv.load 1 1 rfl rfl))) ?_
  refine xH 5 10 true (.pointer (some ⟨b4, 1, none⟩)) rfl rfl rfl rfl (ex_field rfl rfl (s12fa36_1 _ _ _)) ?_
  simp only [zP, zI, zS, zO]
  refine xH 5 10 true (.string ⟨([] : List UInt8).toArray⟩) rfl rfl rfl rfl (ex_load rfl rfl (run_load1 s3na9 (hv.load 0 1 rfl rfl))) ?_
  by_cases hb8 : v.text = ([] : List UInt8)
  ·refine xH 5 10 true (.bool true) rfl rfl rfl rfl (ex_seql (s := v.text) (s' := ([] : List UInt8)) rfl rfl rfl (decide_eq_true hb8)) ?_
   refine xK true (.bool true) rfl rfl rfl rfl ?_
   simp only [zP, zI, zS, zO]
   refine xM (.bool true) rfl rfl rfl ?_
   refine xH 12 17 true (.pointer (some ⟨b2, 2, none⟩)) rfl rfl rfl rfl (ex_field rfl rfl (s1fa36_2 _ _ _)) ?_
   refine xH 12 17 true (.slice ap v.pairs.length cp) rfl rfl rfl rfl (ex_load rfl rfl (run_load1 s1na32 (hv.load 1 2 rfl rfl))) ?_
   simp only [zP, zI, zS, zO]
   refine xH 12 17 true (.pointer (some ⟨b4, 2, none⟩)) rfl rfl rfl rfl (ex_field rfl rfl (s1fa36_2 _ _ _)) ?_
   refine xH 12 17 true (.slice none 0 0) rfl rfl rfl rfl (ex_load rfl rfl (run_load1 s1na32 (hv.load 0 2 rfl rfl))) ?_
   by_cases hq9 : v.pairs.length = 0
   ·refine wpi_callG s12callable76 tV wideC rfl (wanted_of (j := 12) (d := 17) (b := true) rfl rfl rfl) rfl (args := #[.slice ap v.pairs.length cp, .slice none 0 0]) (by simp only [yA, yB, yC]; rfl) ((calls_bool (eqPairs B _ _ _ _ _ hv) (decide_eq_true hq9)).mono ?_)
    rintro e w10 ⟨rfl, hv⟩
    refine ⟨_, rfl, ?_⟩
    simp only [zP, zI, zS, zO]
    refine xK true (.bool true) rfl rfl rfl rfl ?_
    refine xM (.bool true) rfl rfl rfl ?_
    refine xH 19 24 true (.pointer (some ⟨b2, 3, none⟩)) rfl rfl rfl rfl (ex_field rfl rfl (s1fa36_3 _ _ _)) ?_
    simp only [zP, zI, zS, zO]
    refine xH 19 24 true (.slice at2 v.texts.length ct) rfl rfl rfl rfl (ex_load rfl rfl (run_load1 s1na33 (hv.load 1 3 rfl rfl))) ?_
    refine xH 19 24 true (.pointer (some ⟨b4, 3, none⟩)) rfl rfl rfl rfl (ex_field rfl rfl (s1fa36_3 _ _ _)) ?_
    refine xH 19 24 true (.slice none 0 0) rfl rfl rfl rfl (ex_load rfl rfl (run_load1 s1na33 (hv.load 0 3 rfl rfl))) ?_
    simp only [zP, zI, zS, zO]
    by_cases hq11 : v.texts.length = 0
    ·refine wpi_callG s12callable77 tV wideC rfl (wanted_of (j := 19) (d := 24) (b := true) rfl rfl rfl) rfl (args := #[.slice at2 v.texts.length ct, .slice none 0 0]) (by simp only [yA, yB, yC]; rfl) ((calls_bool (eqTexts B _ _ _ _ _ hv) (decide_eq_true hq11)).mono ?_)
     rintro e w12 ⟨rfl, hv⟩
     refine ⟨_, rfl, ?_⟩
     refine xK true (.bool true) rfl rfl rfl rfl ?_
     refine xM (.bool true) rfl rfl rfl ?_
     simp only [zP, zI, zS, zO]
     refine xH 26 31 true (.pointer (some ⟨b2, 4, none⟩)) rfl rfl rfl rfl (ex_field rfl rfl (s1fa36_4 _ _ _)) ?_
     refine xH 26 31 true (.slice az v.zset.length cz) rfl rfl rfl rfl (ex_load rfl rfl (run_load1 s1na34 (hv.load 1 4 rfl rfl))) ?_
     refine xH 26 31 true (.pointer (some ⟨b4, 4, none⟩)) rfl rfl rfl rfl (ex_field rfl rfl (s1fa36_4 _ _ _)) ?_
     simp only [zP, zI, zS, zO]
     refine xH 26 31 true (.slice none 0 0) rfl rfl rfl rfl (ex_load rfl rfl (run_load1 s1na34 (hv.load 0 4 rfl rfl))) ?_
     by_cases hq13 : v.zset.length = 0
     ·refine wpi_callG s12callable78 tV wideC rfl (wanted_of (j := 26) (d := 31) (b := true) rfl rfl rfl) rfl (args := #[.slice az v.zset.length cz, .slice none 0 0]) (by simp only [yA, yB, yC]; rfl) ((calls_bool (eqMems B _ _ _ _ _ hv) (decide_eq_true hq13)).mono ?_)
      rintro e w14 ⟨rfl, hv⟩
      refine ⟨_, rfl, ?_⟩
      refine xK true (.bool true) rfl rfl rfl rfl ?_
      simp only [zP, zI, zS, zO]
      refine xA (.bool true) rfl rfl rfl ?_
      refine wL ?_
      simp only [zP, zI, zS, zO]
      refine tN (hK6 _ _ ?_)
      clear hK6 K6
      refine wpIn_ret ?_
      refine bR rfl rfl ?_
      exact ⟨congrArg (fun b => Ending.returned (Value.bool b)) (by symm; first | exact decide_eq_true ⟨by omega, by assumption, by omega, by omega, by omega⟩ | exact decide_eq_false (fun ⟨h1, h2, h3, h4, h5⟩ => by first | omega | contradiction)), (hv.sub (List.Sublist.cons _ (List.Sublist.cons _ (List.Sublist.refl _))))⟩
     refine wpi_callG s12callable78 tV wideC rfl (wanted_of (j := 26) (d := 31) (b := true) rfl rfl rfl) rfl (args := #[.slice az v.zset.length cz, .slice none 0 0]) (by simp only [yA, yB, yC]; rfl) ((calls_bool (eqMems B _ _ _ _ _ hv) (decide_eq_false hq13)).mono ?_)
     rintro e w15 ⟨rfl, hv⟩
     refine ⟨_, rfl, ?_⟩
     refine xK true (.bool false) rfl rfl rfl rfl ?_
     simp only [zP, zI, zS, zO]
     refine xA (.bool false) rfl rfl rfl ?_
     refine wL ?_
     simp only [zP, zI, zS, zO]
     refine tN (hK6 _ _ ?_)
     clear hK6 K6
     refine wpIn_ret ?_
     refine bR rfl rfl ?_
     exact ⟨congrArg (fun b => Ending.returned (Value.bool b)) (by symm; first | exact decide_eq_true ⟨by omega, by assumption, by omega, by omega, by omega⟩ | exact decide_eq_false (fun ⟨h1, h2, h3, h4, h5⟩ => by first | omega | contradiction)), (hv.sub (List.Sublist.cons _ (List.Sublist.cons _ (List.Sublist.refl _))))⟩
    refine wpi_callG s12callable77 tV wideC rfl (wanted_of (j := 19) (d := 24) (b := true) rfl rfl rfl) rfl (args := #[.slice at2 v.texts.length ct, .slice none 0 0]) (by simp only [yA, yB, yC]; rfl) ((calls_bool (eqTexts B _ _ _ _ _ hv) (decide_eq_false hq11)).mono ?_)
    rintro e w16 ⟨rfl, hv⟩
    refine ⟨_, rfl, ?_⟩
    refine xK true (.bool false) rfl rfl rfl rfl ?_
    refine xM (.bool false) rfl rfl rfl ?_
    simp only [zP, zI, zS, zO]
    refine xT 26 31 true false rfl rfl rfl rfl rfl rfl rfl (by decide) ?_
    simp only [zP, zI, zS, zO]
    refine xN 26 31 true false rfl rfl rfl (by decide) ?_
    refine xN 26 31 true false rfl rfl rfl (by decide) ?_
    refine xK false (.bool false) rfl rfl rfl rfl ?_
    simp only [zP, zI, zS, zO]
    refine xA (.bool false) rfl rfl rfl ?_
    refine wL ?_
    simp only [zP, zI, zS, zO]
    refine tN (hK6 _ _ ?_)
    clear hK6 K6
    refine wpIn_ret ?_
    refine bR rfl rfl ?_
    exact ⟨congrArg (fun b => Ending.returned (Value.bool b)) (by symm; first | exact decide_eq_true ⟨by omega, by assumption, by omega, by omega, by omega⟩ | exact decide_eq_false (fun ⟨h1, h2, h3, h4, h5⟩ => by first | omega | contradiction)), (hv.sub (List.Sublist.cons _ (List.Sublist.cons _ (List.Sublist.refl _))))⟩
   refine wpi_callG s12callable76 tV wideC rfl (wanted_of (j := 12) (d := 17) (b := true) rfl rfl rfl) rfl (args := #[.slice ap v.pairs.length cp, .slice none 0 0]) (by simp only [yA, yB, yC]; rfl) ((calls_bool (eqPairs B _ _ _ _ _ hv) (decide_eq_false hq9)).mono ?_)
   rintro e w17 ⟨rfl, hv⟩
   refine ⟨_, rfl, ?_⟩
   simp only [zP, zI, zS, zO]
   refine xK true (.bool false) rfl rfl rfl rfl ?_
   refine xM (.bool false) rfl rfl rfl ?_
   refine xT 19 24 true false rfl rfl rfl rfl rfl rfl rfl (by decide) ?_
   simp only [zP, zI, zS, zO]
   refine xN 19 24 true false rfl rfl rfl (by decide) ?_
   refine xN 19 24 true false rfl rfl rfl (by decide) ?_
   refine xK false (.bool false) rfl rfl rfl rfl ?_
   refine xM (.bool false) rfl rfl rfl ?_
   simp only [zP, zI, zS, zO]
   refine xT 26 31 true false rfl rfl rfl rfl rfl rfl rfl (by decide) ?_
   simp only [zP, zI, zS, zO]
   refine xN 26 31 true false rfl rfl rfl (by decide) ?_
   refine xN 26 31 true false rfl rfl rfl (by decide) ?_
   refine xK false (.bool false) rfl rfl rfl rfl ?_
   simp only [zP, zI, zS, zO]
   refine xA (.bool false) rfl rfl rfl ?_
   refine wL ?_
   simp only [zP, zI, zS, zO]
   refine tN (hK6 _ _ ?_)
   clear hK6 K6
   refine wpIn_ret ?_
   refine bR rfl rfl ?_
   exact ⟨congrArg (fun b => Ending.returned (Value.bool b)) (by symm; first | exact decide_eq_true ⟨by omega, by assumption, by omega, by omega, by omega⟩ | exact decide_eq_false (fun ⟨h1, h2, h3, h4, h5⟩ => by first | omega | contradiction)), (hv.sub (List.Sublist.cons _ (List.Sublist.cons _ (List.Sublist.refl _))))⟩
  refine xH 5 10 true (.bool false) rfl rfl rfl rfl (ex_seql (s := v.text) (s' := ([] : List UInt8)) rfl rfl rfl (decide_eq_false hb8)) ?_
  refine xK true (.bool false) rfl rfl rfl rfl ?_
  simp only [zP, zI, zS, zO]
  refine xM (.bool false) rfl rfl rfl ?_
  refine xT 12 17 true false rfl rfl rfl rfl rfl rfl rfl (by decide) ?_
  simp only [zP, zI, zS, zO]
  refine xN 12 17 true false rfl rfl rfl (by decide) ?_
  refine xN 12 17 true false rfl rfl rfl (by decide) ?_
  simp only [zP, zI, zS, zO]
  refine xK false (.bool false) rfl rfl rfl rfl ?_
  refine xM (.bool false) rfl rfl rfl ?_
  refine xT 19 24 true false rfl rfl rfl rfl rfl rfl rfl (by decide) ?_
  simp only [zP, zI, zS, zO]
  refine xN 19 24 true false rfl rfl rfl (by decide) ?_
  refine xN 19 24 true false rfl rfl rfl (by decide) ?_
  refine xK false (.bool false) rfl rfl rfl rfl ?_
  refine xM (.bool false) rfl rfl rfl ?_
  simp only [zP, zI, zS, zO]
  refine xT 26 31 true false rfl rfl rfl rfl rfl rfl rfl (by decide) ?_
  simp only [zP, zI, zS, zO]
  refine xN 26 31 true false rfl rfl rfl (by decide) ?_
  refine xN 26 31 true false rfl rfl rfl (by decide) ?_
  refine xK false (.bool false) rfl rfl rfl rfl ?_
  simp only [zP, zI, zS, zO]
  refine xA (.bool false) rfl rfl rfl ?_
  refine wL ?_
  simp only [zP, zI, zS, zO]
  refine tN (hK6 _ _ ?_)
  clear hK6 K6
  refine wpIn_ret ?_
  refine bR rfl rfl ?_
  exact ⟨congrArg (fun b => Ending.returned (Value.bool b)) (by symm; first | exact decide_eq_true ⟨by omega, by assumption, by omega, by omega, by omega⟩ | exact decide_eq_false (fun ⟨h1, h2, h3, h4, h5⟩ => by first | omega | contradiction)), (hv.sub (List.Sublist.cons _ (List.Sublist.cons _ (List.Sublist.refl _))))⟩
 refine xG (.bool false) rfl rfl (ex_eql (k := .i64) (m := v.kind) (n := 0) rfl rfl rfl (decide_eq_false hb7)) ?_
 refine xM (.bool false) rfl rfl rfl ?_
 simp only [zP, zI, zS, zO]
 refine xT 5 10 true false rfl rfl rfl rfl rfl rfl rfl (by decide) ?_
 simp only [zP, zI, zS, zO]
 refine xN 5 10 true false rfl rfl rfl (by decide) ?_
 refine xN 5 10 true false rfl rfl rfl (by decide) ?_
 refine xK false (.bool false) rfl rfl rfl rfl ?_
 simp only [zP, zI, zS, zO]
 refine xM (.bool false) rfl rfl rfl ?_
 refine xT 12 17 true false rfl rfl rfl rfl rfl rfl rfl (by decide) ?_
 simp only [zP, zI, zS, zO]
 refine xN 12 17 true false rfl rfl rfl (by decide) ?_
 refine xN 12 17 true false rfl rfl rfl (by decide) ?_
 simp only [zP, zI, zS, zO]
 refine xK false (.bool false) rfl rfl rfl rfl ?_
 refine xM (.bool false) rfl rfl rfl ?_
 refine xT 19 24 true false rfl rfl rfl rfl rfl rfl rfl (by decide) ?_
 simp only [zP, zI, zS, zO]
 refine xN 19 24 true false rfl rfl rfl (by decide) ?_
 refine xN 19 24 true false rfl rfl rfl (by decide) ?_
 refine xK false (.bool false) rfl rfl rfl rfl ?_
 refine xM (.bool false) rfl rfl rfl ?_
 simp only [zP, zI, zS, zO]
 refine xT 26 31 true false rfl rfl rfl rfl rfl rfl rfl (by decide) ?_
 simp only [zP, zI, zS, zO]
 refine xN 26 31 true false rfl rfl rfl (by decide) ?_
 refine xN 26 31 true false rfl rfl rfl (by decide) ?_
 refine xK false (.bool false) rfl rfl rfl rfl ?_
 simp only [zP, zI, zS, zO]
 refine xA (.bool false) rfl rfl rfl ?_
 refine wL ?_
 simp only [zP, zI, zS, zO]
 refine tN (hK6 _ _ ?_)
 clear hK6 K6
 refine wpIn_ret ?_
 refine bR rfl rfl ?_
 exact ⟨congrArg (fun b => Ending.returned (Value.bool b)) (by symm; first | exact decide_eq_true ⟨by omega, by assumption, by omega, by omega, by omega⟩ | exact decide_eq_false (fun ⟨h1, h2, h3, h4, h5⟩ => by first | omega | contradiction)), (hv.sub (List.Sublist.cons _ (List.Sublist.cons _ (List.Sublist.refl _))))⟩
theorem s12al36 (w : World) : (Instr.alloc 36 true (.tuple #[])).run Try.prog w = .ok (.pointer (some ⟨w.heap.size, 0, none⟩)) (w.alloc (.cells ([.int .i64 0, .string ⟨([] : List UInt8).toArray⟩, .slice none 0 0, .slice none 0 0, .slice none 0 0] : List Value).toArray 36)) := by kernel_rfl
theorem s12sz9 : (Try.prog.info? 9).map (·.size) = some 1 := by kernel_rfl
theorem s12callable79 : Callable Try.prog 79 := ⟨_, Try.func79, by kernel_rfl, by kernel_rfl⟩
theorem s12callable80 : Callable Try.prog 80 := ⟨_, Try.func80, by kernel_rfl, by kernel_rfl⟩
theorem s12callable81 : Callable Try.prog 81 := ⟨_, Try.func81, by kernel_rfl, by kernel_rfl⟩
theorem s12callable82 : Callable Try.prog 82 := ⟨_, Try.func82, by kernel_rfl, by kernel_rfl⟩
set_option maxHeartbeats 4000000 in
theorem valueRight0 (B : Base) (H : List Res) (w : World) (v : Val) (ap at2 az : Option Addr) (cp ct cz : Nat) (hrp : RdV B [] ap (pairCells v.pairs)) (hrt : RdV B [] at2 (textCells v.texts)) (hrz : RdV B [] az (memCells v.zset)) (hpm : v.pairs.length ≤ 1000000) (htm : v.texts.length ≤ 1000000) (hzm : v.zset.length ≤ 1000000) (hv : Inv B H w) :
  Calls Try.prog 73 #[.agg #[.int .i64 v.kind, .string ⟨v.text.toArray⟩, .slice ap v.pairs.length cp, .slice at2 v.texts.length ct, .slice az v.zset.length cz]] w fun e w' => ∃ b, e = .returned (.bool b) ∧ (b = true ↔ ValOk v) ∧ Inv B H w' := by
 refine (callsIn_wide (n := 5)).1 ?_
 refine callsIn_of_wp Try.func73 rfl trivial ?_
 simp only [Try.ntmps73, List.size_toArray, List.length_cons, List.length_nil, Nat.reduceAdd, Nat.reduceSub, Array.replicate_succ, Array.replicate_zero, List.push_toArray, List.append_toArray, List.nil_append, List.cons_append]
 refine sK fun K1 hK1 => rL ?_
 refine sl_box (L := [.int .i64 v.kind, .string ⟨v.text.toArray⟩, .slice ap v.pairs.length cp, .slice at2 v.texts.length ct, .slice az v.zset.length cz]) tV (wn rfl) rfl (p := .agg #[.int .i64 v.kind, .string ⟨v.text.toArray⟩, .slice ap v.pairs.length cp, .slice at2 v.texts.length ct, .slice az v.zset.length cz]) rfl hv (fun w => by kernel_rfl) (fun b2 w3 hv => ?_)
 refine xA (.bool false) rfl rfl rfl ?_
 refine wL ?_
 simp only [zP, zI, zS, zO]
 refine tN (hK1 _ _ ?_)
 clear hK1 K1
 refine sK fun K4 hK4 => rL ?_
 refine xL (.agg #[.int .i64 v.kind, .string ⟨v.text.toArray⟩, .slice ap v.pairs.length cp, .slice at2 v.texts.length ct, .slice az v.zset.length cz]) rfl rfl rfl (run_load_mid (pre := []) (mid := [.int .i64 v.kind, .string ⟨v.text.toArray⟩, .slice ap v.pairs.length cp, .slice at2 v.texts.length ct, .slice az v.zset.length cz]) (post := []) s1wd36 (show Blk _ b2 ([] ++ [.int .i64 v.kind, .string ⟨v.text.toArray⟩, .slice ap v.pairs.length cp, .slice at2 v.texts.length ct, .slice az v.zset.length cz] ++ []) _ from hv.get 0 rfl) rfl) ?_
 refine sl_alloc tV (wn rfl) rfl hv s12al36 (fun b5 w6 hv => ?_)
 refine sl_storeNAt 0 (new := [.int .i64 v.kind, .string ⟨v.text.toArray⟩, .slice ap v.pairs.length cp, .slice at2 v.texts.length ct, .slice az v.zset.length cz]) (pre := []) (mid := [.int .i64 0, .string ⟨([] : List UInt8).toArray⟩, .slice none 0 0, .slice none 0 0, .slice none 0 0]) (post := []) (L' := [.int .i64 v.kind, .string ⟨v.text.toArray⟩, .slice ap v.pairs.length cp, .slice at2 v.texts.length ct, .slice az v.zset.length cz]) tV (wn rfl) rfl rfl rfl hv rfl s1sz36 rfl rfl rfl (one_cons rfl (one_cons rfl (one_cons rfl (one_cons rfl (one_cons rfl one_nil))))) rfl (fun w7 hv => ?_)
 simp only [List.set_cons_zero] at hv
 simp only [zP, zN, zI, zS, zO]
 refine xA (.bool false) rfl rfl rfl ?_
 refine wL ?_
 simp only [zP, zI, zS, zO]
 refine tN (hK4 _ _ ?_)
 clear hK4 K4
 refine sK fun K8 hK8 => ?_
 refine sK fun K9 hK9 => rL ?_
 refine xF (.pointer (some ⟨b2, 0, none⟩)) rfl rfl rfl (s12fa36_0 _ _ _) ?_
 refine xL (.int .i64 v.kind) rfl rfl rfl (run_load1 s2na3 (hv.load 1 0 rfl rfl)) ?_
 refine wL ?_
 simp only [zP, zI, zS, zO]
 refine tN (hK9 _ _ ?_)
 clear hK9 K9
 refine wpIn_block ?_
 refine sK fun K10 hK10 => rL ?_
 by_cases hb11 : v.kind = 1
 ·refine xG (.bool true) rfl rfl (ex_eql (k := .i64) (m := v.kind) (n := 1) rfl rfl rfl (decide_eq_true hb11)) ?_
  refine xA (.bool true) rfl rfl rfl ?_
  refine wL ?_
  simp only [zP, zI, zS, zO]
  refine tN (hK10 _ _ ?_)
  clear hK10 K10
  refine wpIn_cond_true rfl ?_
  by_cases hb12 : (v.text.length : Int) ≤ 4096
  ·refine region_st mixed [.pointer (some ⟨b2, 1, none⟩), .string ⟨v.text.toArray⟩, .int .i64 (v.text.length : Int), .bool true, .pointer (some ⟨b5, 1, none⟩), undef, .bool true] [5] [⟨fun vals w => vals = [] ∧ Inv B (Res.cell b5 [.int .i64 v.kind, .string ⟨v.text.toArray⟩, .slice ap v.pairs.length cp, .slice at2 v.texts.length ct, .slice az v.zset.length cz] 36 :: Res.cell b2 [.int .i64 v.kind, .string ⟨v.text.toArray⟩, .slice ap v.pairs.length cp, .slice at2 v.texts.length ct, .slice az v.zset.length cz] 36 :: H) w, fun _ _ _ ⟨h, hi⟩ he => ⟨h, hi.ext he⟩⟩, ⟨fun vals w => vals = [undef] ∧ Inv B (Res.cell b5 [.int .i64 v.kind, .string ⟨([] : List UInt8).toArray⟩, .slice ap v.pairs.length cp, .slice at2 v.texts.length ct, .slice az v.zset.length cz] 36 :: Res.cell b2 [.int .i64 v.kind, .string ⟨v.text.toArray⟩, .slice ap v.pairs.length cp, .slice at2 v.texts.length ct, .slice az v.zset.length cz] 36 :: H) w, fun _ _ _ ⟨h, hi⟩ he => ⟨h, hi.ext he⟩⟩] 83 rfl (by kernel_rfl) ⟨rfl, hv⟩ ⟨?_, ?_, ?_, ?_, ?_, ?_, ?_, trivial⟩ ?_
   ·intro aa ww vals hJ hR
    exact xD rfl (ex_field rfl (show aa.eval (.tmp 1) = _ from hR.keep 1 rfl) (s12fa36_1 _ _ _)) rfl rfl
   ·intro aa ww vals hJ hR
    have h2 : vals.length ≤ 1 := JS.le (by rfl) hJ
    rcases (show vals.length = 0 ∨ vals.length = 1 by omega) with hl | hl
    ·obtain ⟨hvals, hv⟩ := hJ.at0 hl
     exact xD rfl (ex_load rfl (hR.w 0 10 rfl rfl rfl rfl) (run_load1 s3na9 (hv.load 1 1 rfl rfl))) rfl rfl
    obtain ⟨hvals, hv⟩ := hJ.at0 hl
    exact xD rfl (ex_load rfl (hR.w 0 10 rfl rfl rfl rfl) (run_load1 s3na9 (hv.load 1 1 rfl rfl))) rfl rfl
   ·intro aa ww vals hJ hR
    exact xD rfl (ex_lenStr Try.underlying9 rfl (hR.w 1 11 rfl rfl rfl rfl)) rfl rfl
   ·intro aa ww vals hJ hR
    exact xD rfl (ex_leq (k := .i64) (m := (v.text.length : Int)) (n := 4096) rfl (hR.w 2 12 rfl rfl rfl rfl) rfl (decide_eq_true hb12)) rfl rfl
   ·intro aa ww vals hJ hR
    exact xD rfl (ex_field rfl (show aa.eval (.tmp 3) = _ from hR.keep 3 rfl) (s12fa36_1 _ _ _)) rfl rfl
   ·intro aa ww vals hJ hR
    refine mem_step' rfl fun hvl => ?_
    have hl : vals.length = 0 := hvl
    obtain ⟨hvals, hv⟩ := hJ.at0 hl
    refine mem_storeAt 0 (v := .string ⟨([] : List UInt8).toArray⟩) (L' := [.int .i64 v.kind, .string ⟨([] : List UInt8).toArray⟩, .slice ap v.pairs.length cp, .slice at2 v.texts.length ct, .slice az v.zset.length cz]) (wn rfl) rfl (hR.w 4 14 rfl rfl rfl rfl) rfl hv rfl s12sz9 (by simp) rfl rfl rfl (fun w13 hv => ?_)
    exact JS.next hl ⟨by rw [hvals]; rfl, hv⟩
   ·intro aa ww vals hJ hR
    exact xD rfl (ex_assign rfl (hR.w 3 13 rfl rfl rfl rfl)) rfl rfl
   rintro w14 vals ⟨rfl, hv⟩
   rw [show mixV [5] [undef] 0 [.pointer (some ⟨b2, 1, none⟩), .string ⟨v.text.toArray⟩, .int .i64 (v.text.length : Int), .bool true, .pointer (some ⟨b5, 1, none⟩), undef, .bool true] = [.pointer (some ⟨b2, 1, none⟩), .string ⟨v.text.toArray⟩, .int .i64 (v.text.length : Int), .bool true, .pointer (some ⟨b5, 1, none⟩), undef, .bool true] from rfl]
   simp only [putAll, zP, zN, zI, zS, zO]
   refine blk_normal ?_
   refine tN (hK8 _ _ ?_)
   clear hK8 K8
   refine sK fun K15 hK15 => rL ?_
   refine xM (.bool true) rfl rfl rfl ?_
   refine xM (.bool true) rfl rfl rfl ?_
   refine xH 1 64 true (.pointer (some ⟨b5, 1, none⟩)) rfl rfl rfl rfl (ex_field rfl rfl (s12fa36_1 _ _ _)) ?_
   simp only [zP, zI, zS, zO]
   refine xH 1 64 true (.string ⟨([] : List UInt8).toArray⟩) rfl rfl rfl rfl (ex_load rfl rfl (run_load1 s3na9 (hv.load 0 1 rfl rfl))) ?_
   by_cases hb16 : ([] : List UInt8) = ([] : List UInt8)
   ·refine xH 1 64 true (.bool true) rfl rfl rfl rfl (ex_seql (s := ([] : List UInt8)) (s' := ([] : List UInt8)) rfl rfl rfl (decide_eq_true hb16)) ?_
    refine xK true (.bool true) rfl rfl rfl rfl ?_
    simp only [zP, zI, zS, zO]
    refine xM (.bool true) rfl rfl rfl ?_
    refine xH 6 69 true (.pointer (some ⟨b5, 2, none⟩)) rfl rfl rfl rfl (ex_field rfl rfl (s1fa36_2 _ _ _)) ?_
    refine xH 6 69 true (.slice ap v.pairs.length cp) rfl rfl rfl rfl (ex_load rfl rfl (run_load1 s1na32 (hv.load 0 2 rfl rfl))) ?_
    simp only [zP, zI, zS, zO]
    refine xH 6 69 true (.int .i64 (v.pairs.length : Int)) rfl rfl rfl rfl (ex_len0 Try.underlying32 rfl rfl) ?_
    refine xH 6 69 true (.pointer (some ⟨b5, 3, none⟩)) rfl rfl rfl rfl (ex_field rfl rfl (s1fa36_3 _ _ _)) ?_
    refine xH 6 69 true (.slice at2 v.texts.length ct) rfl rfl rfl rfl (ex_load rfl rfl (run_load1 s1na33 (hv.load 0 3 rfl rfl))) ?_
    simp only [zP, zI, zS, zO]
    refine xH 6 69 true (.int .i64 (v.texts.length : Int)) rfl rfl rfl rfl (ex_len0 Try.underlying33 rfl rfl) ?_
    refine xH 6 69 true (.int .i64 ((v.pairs.length : Int) + (v.texts.length : Int))) rfl rfl rfl rfl (ex_add (m := (v.pairs.length : Int)) (n := (v.texts.length : Int)) rfl rfl rfl (i64_in (by omega))) ?_
    refine xH 6 69 true (.pointer (some ⟨b5, 4, none⟩)) rfl rfl rfl rfl (ex_field rfl rfl (s1fa36_4 _ _ _)) ?_
    simp only [zP, zI, zS, zO]
    refine xH 6 69 true (.slice az v.zset.length cz) rfl rfl rfl rfl (ex_load rfl rfl (run_load1 s1na34 (hv.load 0 4 rfl rfl))) ?_
    refine xH 6 69 true (.int .i64 (v.zset.length : Int)) rfl rfl rfl rfl (ex_len0 Try.underlying34 rfl rfl) ?_
    refine xH 6 69 true (.int .i64 (((v.pairs.length : Int) + (v.texts.length : Int)) + (v.zset.length : Int))) rfl rfl rfl rfl (ex_add (m := ((v.pairs.length : Int) + (v.texts.length : Int))) (n := (v.zset.length : Int)) rfl rfl rfl (i64_in (by omega))) ?_
    simp only [zP, zI, zS, zO]
    by_cases hb17 : (((v.pairs.length : Int) + (v.texts.length : Int)) + (v.zset.length : Int)) = 0
    ·refine xH 6 69 true (.bool true) rfl rfl rfl rfl (ex_eql (k := .i64) (m := (((v.pairs.length : Int) + (v.texts.length : Int)) + (v.zset.length : Int))) (n := 0) rfl rfl rfl (decide_eq_true hb17)) ?_
     refine xK true (.bool true) rfl rfl rfl rfl ?_
     refine xA (.bool true) rfl rfl rfl ?_
     refine wL ?_
     simp only [zP, zI, zS, zO]
     refine tN (hK15 _ _ ?_)
     clear hK15 K15
     refine wpIn_ret ?_
     refine bR rfl rfl ?_
     exact ⟨true, rfl, ⟨fun _ => by first | exact .inl ⟨by omega, by omega, by omega, by omega, by omega⟩ | exact .inr (.inl ⟨by omega, by omega, hv.1 rfl, by assumption, by omega, by omega⟩) | exact .inr (.inr (.inl ⟨by omega, by omega, hv.1 rfl, by assumption, by omega, by omega⟩)) | exact .inr (.inr (.inr (.inl ⟨by omega, by omega, hv.1 rfl, by assumption, by omega, by omega⟩))) | exact .inr (.inr (.inr (.inr (⟨by omega, by omega, hv.1 rfl, by assumption, by omega, by omega⟩)))), fun _ => rfl⟩, (hv.sub (List.Sublist.cons _ (List.Sublist.cons _ (List.Sublist.refl _))))⟩
    refine xH 6 69 true (.bool false) rfl rfl rfl rfl (ex_eql (k := .i64) (m := (((v.pairs.length : Int) + (v.texts.length : Int)) + (v.zset.length : Int))) (n := 0) rfl rfl rfl (decide_eq_false hb17)) ?_
    refine xK true (.bool false) rfl rfl rfl rfl ?_
    refine xA (.bool false) rfl rfl rfl ?_
    refine wL ?_
    simp only [zP, zI, zS, zO]
    refine tN (hK15 _ _ ?_)
    clear hK15 K15
    refine wpIn_ret ?_
    refine bR rfl rfl ?_
    exact ⟨false, rfl, ⟨fun h => (by cases h), fun h => by rcases h with ⟨h1, h2, h3, h4, h5⟩ | ⟨h1, h2, h3, h4, h5, h6⟩ | ⟨h1, h2, h3, h4, h5, h6⟩ | ⟨h1, h2, h3, h4, h5, h6⟩ | ⟨h1, h2, h3, h4, h5, h6⟩ <;> first | omega | contradiction⟩, (hv.sub (List.Sublist.cons _ (List.Sublist.cons _ (List.Sublist.refl _))))⟩
   refine xH 1 64 true (.bool false) rfl rfl rfl rfl (ex_seql (s := ([] : List UInt8)) (s' := ([] : List UInt8)) rfl rfl rfl (decide_eq_false hb16)) ?_
   refine xK true (.bool false) rfl rfl rfl rfl ?_
   simp only [zP, zI, zS, zO]
   refine xM (.bool false) rfl rfl rfl ?_
   refine xT 6 69 true false rfl rfl rfl rfl rfl rfl rfl (by decide) ?_
   simp only [zP, zI, zS, zO]
   refine xT 6 69 true false rfl rfl rfl rfl rfl rfl rfl (by decide) ?_
   simp only [zP, zI, zS, zO]
   refine xT 6 69 true false rfl rfl rfl rfl rfl rfl rfl (by decide) ?_
   simp only [zP, zI, zS, zO]
   refine xT 6 69 true false rfl rfl rfl rfl rfl rfl rfl (by decide) ?_
   simp only [zP, zI, zS, zO]
   refine xK false (.bool false) rfl rfl rfl rfl ?_
   refine xA (.bool false) rfl rfl rfl ?_
   refine wL ?_
   simp only [zP, zI, zS, zO]
   refine tN (hK15 _ _ ?_)
   clear hK15 K15
   refine wpIn_ret ?_
   refine bR rfl rfl ?_
   exact ⟨false, rfl, ⟨fun h => (by cases h), fun h => by rcases h with ⟨h1, h2, h3, h4, h5⟩ | ⟨h1, h2, h3, h4, h5, h6⟩ | ⟨h1, h2, h3, h4, h5, h6⟩ | ⟨h1, h2, h3, h4, h5, h6⟩ | ⟨h1, h2, h3, h4, h5, h6⟩ <;> first | omega | contradiction⟩, (hv.sub (List.Sublist.cons _ (List.Sublist.cons _ (List.Sublist.refl _))))⟩
  refine region_st mixed [.pointer (some ⟨b2, 1, none⟩), .string ⟨v.text.toArray⟩, .int .i64 (v.text.length : Int), .bool false, .pointer (some ⟨b5, 1, none⟩), undef, .bool false] [5] [⟨fun vals w => vals = [] ∧ Inv B (Res.cell b5 [.int .i64 v.kind, .string ⟨v.text.toArray⟩, .slice ap v.pairs.length cp, .slice at2 v.texts.length ct, .slice az v.zset.length cz] 36 :: Res.cell b2 [.int .i64 v.kind, .string ⟨v.text.toArray⟩, .slice ap v.pairs.length cp, .slice at2 v.texts.length ct, .slice az v.zset.length cz] 36 :: H) w, fun _ _ _ ⟨h, hi⟩ he => ⟨h, hi.ext he⟩⟩, ⟨fun vals w => vals = [undef] ∧ Inv B (Res.cell b5 [.int .i64 v.kind, .string ⟨([] : List UInt8).toArray⟩, .slice ap v.pairs.length cp, .slice at2 v.texts.length ct, .slice az v.zset.length cz] 36 :: Res.cell b2 [.int .i64 v.kind, .string ⟨v.text.toArray⟩, .slice ap v.pairs.length cp, .slice at2 v.texts.length ct, .slice az v.zset.length cz] 36 :: H) w, fun _ _ _ ⟨h, hi⟩ he => ⟨h, hi.ext he⟩⟩] 83 rfl (by kernel_rfl) ⟨rfl, hv⟩ ⟨?_, ?_, ?_, ?_, ?_, ?_, ?_, trivial⟩ ?_
  ·intro aa ww vals hJ hR
   exact xD rfl (ex_field rfl (show aa.eval (.tmp 1) = _ from hR.keep 1 rfl) (s12fa36_1 _ _ _)) rfl rfl
  ·intro aa ww vals hJ hR
   have h2 : vals.length ≤ 1 := JS.le (by rfl) hJ
   rcases (show vals.length = 0 ∨ vals.length = 1 by omega) with hl | hl
   ·obtain ⟨hvals, hv⟩ := hJ.at0 hl
    exact xD rfl (ex_load rfl (hR.w 0 10 rfl rfl rfl rfl) (run_load1 s3na9 (hv.load 1 1 rfl rfl))) rfl rfl
   obtain ⟨hvals, hv⟩ := hJ.at0 hl
   exact xD rfl (ex_load rfl (hR.w 0 10 rfl rfl rfl rfl) (run_load1 s3na9 (hv.load 1 1 rfl rfl))) rfl rfl
  ·intro aa ww vals hJ hR
   exact xD rfl (ex_lenStr Try.underlying9 rfl (hR.w 1 11 rfl rfl rfl rfl)) rfl rfl
  ·intro aa ww vals hJ hR
   exact xD rfl (ex_leq (k := .i64) (m := (v.text.length : Int)) (n := 4096) rfl (hR.w 2 12 rfl rfl rfl rfl) rfl (decide_eq_false hb12)) rfl rfl
  ·intro aa ww vals hJ hR
   exact xD rfl (ex_field rfl (show aa.eval (.tmp 3) = _ from hR.keep 3 rfl) (s12fa36_1 _ _ _)) rfl rfl
  ·intro aa ww vals hJ hR
   refine mem_step' rfl fun hvl => ?_
   have hl : vals.length = 0 := hvl
   obtain ⟨hvals, hv⟩ := hJ.at0 hl
   refine mem_storeAt 0 (v := .string ⟨([] : List UInt8).toArray⟩) (L' := [.int .i64 v.kind, .string ⟨([] : List UInt8).toArray⟩, .slice ap v.pairs.length cp, .slice at2 v.texts.length ct, .slice az v.zset.length cz]) (wn rfl) rfl (hR.w 4 14 rfl rfl rfl rfl) rfl hv rfl s12sz9 (by simp) rfl rfl rfl (fun w18 hv => ?_)
   exact JS.next hl ⟨by rw [hvals]; rfl, hv⟩
  ·intro aa ww vals hJ hR
   exact xD rfl (ex_assign rfl (hR.w 3 13 rfl rfl rfl rfl)) rfl rfl
  rintro w19 vals ⟨rfl, hv⟩
  rw [show mixV [5] [undef] 0 [.pointer (some ⟨b2, 1, none⟩), .string ⟨v.text.toArray⟩, .int .i64 (v.text.length : Int), .bool false, .pointer (some ⟨b5, 1, none⟩), undef, .bool false] = [.pointer (some ⟨b2, 1, none⟩), .string ⟨v.text.toArray⟩, .int .i64 (v.text.length : Int), .bool false, .pointer (some ⟨b5, 1, none⟩), undef, .bool false] from rfl]
  simp only [putAll, zP, zN, zI, zS, zO]
  refine blk_normal ?_
  refine tN (hK8 _ _ ?_)
  clear hK8 K8
  refine sK fun K20 hK20 => rL ?_
  refine xM (.bool false) rfl rfl rfl ?_
  refine xM (.bool false) rfl rfl rfl ?_
  refine xT 1 64 true false rfl rfl rfl rfl rfl rfl rfl (by decide) ?_
  simp only [zP, zI, zS, zO]
  refine xK false (.bool false) rfl rfl rfl rfl ?_
  simp only [zP, zI, zS, zO]
  refine xM (.bool false) rfl rfl rfl ?_
  refine xT 6 69 true false rfl rfl rfl rfl rfl rfl rfl (by decide) ?_
  simp only [zP, zI, zS, zO]
  refine xT 6 69 true false rfl rfl rfl rfl rfl rfl rfl (by decide) ?_
  simp only [zP, zI, zS, zO]
  refine xT 6 69 true false rfl rfl rfl rfl rfl rfl rfl (by decide) ?_
  simp only [zP, zI, zS, zO]
  refine xT 6 69 true false rfl rfl rfl rfl rfl rfl rfl (by decide) ?_
  simp only [zP, zI, zS, zO]
  refine xK false (.bool false) rfl rfl rfl rfl ?_
  refine xA (.bool false) rfl rfl rfl ?_
  refine wL ?_
  simp only [zP, zI, zS, zO]
  refine tN (hK20 _ _ ?_)
  clear hK20 K20
  refine wpIn_ret ?_
  refine bR rfl rfl ?_
  exact ⟨false, rfl, ⟨fun h => (by cases h), fun h => by rcases h with ⟨h1, h2, h3, h4, h5⟩ | ⟨h1, h2, h3, h4, h5, h6⟩ | ⟨h1, h2, h3, h4, h5, h6⟩ | ⟨h1, h2, h3, h4, h5, h6⟩ | ⟨h1, h2, h3, h4, h5, h6⟩ <;> first | omega | contradiction⟩, (hv.sub (List.Sublist.cons _ (List.Sublist.cons _ (List.Sublist.refl _))))⟩
 refine xG (.bool false) rfl rfl (ex_eql (k := .i64) (m := v.kind) (n := 1) rfl rfl rfl (decide_eq_false hb11)) ?_
 refine xA (.bool false) rfl rfl rfl ?_
 refine wL ?_
 simp only [zP, zI, zS, zO]
 refine tN (hK10 _ _ ?_)
 clear hK10 K10
 refine wpIn_cond_false rfl ?_
 refine sK fun K21 hK21 => rL ?_
 by_cases hb22 : v.kind = 2
 ·refine xG (.bool true) rfl rfl (ex_eql (k := .i64) (m := v.kind) (n := 2) rfl rfl rfl (decide_eq_true hb22)) ?_
  refine xA (.bool true) rfl rfl rfl ?_
  refine wL ?_
  simp only [zP, zI, zS, zO]
  refine tN (hK21 _ _ ?_)
  clear hK21 K21
  refine wpIn_cond_true rfl ?_
  refine rL ?_
  refine xF (.pointer (some ⟨b2, 2, none⟩)) rfl rfl rfl (s1fa36_2 _ _ _) ?_
  refine xL (.slice ap v.pairs.length cp) rfl rfl rfl (run_load1 s1na32 (hv.load 1 2 rfl rfl)) ?_
  refine xG (.int .i64 (v.pairs.length : Int)) rfl rfl (ex_len0 Try.underlying32 rfl rfl) ?_
  simp only [zP, zI, zS, zO]
  by_cases hb23 : (v.pairs.length : Int) > 0
  ·refine xG (.bool true) rfl rfl (ex_gtr (k := .i64) (m := (v.pairs.length : Int)) (n := 0) rfl rfl rfl (decide_eq_true hb23)) ?_
   refine xM (.bool true) rfl rfl rfl ?_
   refine xH 4 21 true (.pointer (some ⟨b2, 2, none⟩)) rfl rfl rfl rfl (ex_field rfl rfl (s1fa36_2 _ _ _)) ?_
   simp only [zP, zI, zS, zO]
   refine xH 4 21 true (.slice ap v.pairs.length cp) rfl rfl rfl rfl (ex_load rfl rfl (run_load1 s1na32 (hv.load 1 2 rfl rfl))) ?_
   refine wpi_callG s12callable79 tV wideC rfl (wanted_of (j := 4) (d := 21) (b := true) rfl rfl rfl) rfl (args := #[.slice ap v.pairs.length cp]) (by simp only [yA, yB, yC]; rfl) ((hashRightC B _ _ _ _ _ hrp (by omega) hv).mono ?_)
   rintro e w25 ⟨bl24, rfl, hbl24, hv⟩
   refine ⟨_, rfl, ?_⟩
   cases bl24
   ·refine xK true (.bool false) rfl rfl rfl rfl ?_
    simp only [zP, zI, zS, zO]
    refine xF (.pointer (some ⟨b5, 2, none⟩)) rfl rfl rfl (s1fa36_2 _ _ _) ?_
    refine sl_storeAt 0 (v := .slice none 0 0) (L' := [.int .i64 v.kind, .string ⟨v.text.toArray⟩, .slice none 0 0, .slice at2 v.texts.length ct, .slice az v.zset.length cz]) tV (wn rfl) rfl rfl rfl hv rfl s1sz32 (by simp) rfl rfl rfl (fun w26 hv => ?_)
    simp only [List.set_cons_zero] at hv
    refine xA (.bool false) rfl rfl rfl ?_
    refine wL ?_
    simp only [zP, zN, zI, zS, zO]
    refine blk_normal ?_
    refine tN (hK8 _ _ ?_)
    clear hK8 K8
    refine sK fun K27 hK27 => rL ?_
    refine xM (.bool false) rfl rfl rfl ?_
    refine xM (.bool false) rfl rfl rfl ?_
    refine xT 1 64 true false rfl rfl rfl rfl rfl rfl rfl (by decide) ?_
    simp only [zP, zI, zS, zO]
    refine xK false (.bool false) rfl rfl rfl rfl ?_
    simp only [zP, zI, zS, zO]
    refine xM (.bool false) rfl rfl rfl ?_
    refine xT 6 69 true false rfl rfl rfl rfl rfl rfl rfl (by decide) ?_
    simp only [zP, zI, zS, zO]
    refine xT 6 69 true false rfl rfl rfl rfl rfl rfl rfl (by decide) ?_
    simp only [zP, zI, zS, zO]
    refine xT 6 69 true false rfl rfl rfl rfl rfl rfl rfl (by decide) ?_
    simp only [zP, zI, zS, zO]
    refine xT 6 69 true false rfl rfl rfl rfl rfl rfl rfl (by decide) ?_
    simp only [zP, zI, zS, zO]
    refine xK false (.bool false) rfl rfl rfl rfl ?_
    refine xA (.bool false) rfl rfl rfl ?_
    refine wL ?_
    simp only [zP, zI, zS, zO]
    refine tN (hK27 _ _ ?_)
    clear hK27 K27
    refine wpIn_ret ?_
    refine bR rfl rfl ?_
    exact ⟨false, rfl, ⟨fun h => (by cases h), fun h => by rcases h with ⟨h1, h2, h3, h4, h5⟩ | ⟨h1, h2, h3, h4, h5, h6⟩ | ⟨h1, h2, h3, h4, h5, h6⟩ | ⟨h1, h2, h3, h4, h5, h6⟩ | ⟨h1, h2, h3, h4, h5, h6⟩ <;> first | omega | contradiction | (have h9 := hbl24.2 h3; cases h9)⟩, (hv.sub (List.Sublist.cons _ (List.Sublist.cons _ (List.Sublist.refl _))))⟩
   refine xK true (.bool true) rfl rfl rfl rfl ?_
   simp only [zP, zI, zS, zO]
   refine xF (.pointer (some ⟨b5, 2, none⟩)) rfl rfl rfl (s1fa36_2 _ _ _) ?_
   refine sl_storeAt 0 (v := .slice none 0 0) (L' := [.int .i64 v.kind, .string ⟨v.text.toArray⟩, .slice none 0 0, .slice at2 v.texts.length ct, .slice az v.zset.length cz]) tV (wn rfl) rfl rfl rfl hv rfl s1sz32 (by simp) rfl rfl rfl (fun w28 hv => ?_)
   simp only [List.set_cons_zero] at hv
   refine xA (.bool true) rfl rfl rfl ?_
   refine wL ?_
   simp only [zP, zN, zI, zS, zO]
   refine blk_normal ?_
   refine tN (hK8 _ _ ?_)
   clear hK8 K8
   refine sK fun K29 hK29 => rL ?_
   refine xM (.bool true) rfl rfl rfl ?_
   refine xM (.bool true) rfl rfl rfl ?_
   refine xH 1 64 true (.pointer (some ⟨b5, 1, none⟩)) rfl rfl rfl rfl (ex_field rfl rfl (s12fa36_1 _ _ _)) ?_
   simp only [zP, zI, zS, zO]
   refine xH 1 64 true (.string ⟨v.text.toArray⟩) rfl rfl rfl rfl (ex_load rfl rfl (run_load1 s3na9 (hv.load 0 1 rfl rfl))) ?_
   by_cases hb30 : v.text = ([] : List UInt8)
   ·refine xH 1 64 true (.bool true) rfl rfl rfl rfl (ex_seql (s := v.text) (s' := ([] : List UInt8)) rfl rfl rfl (decide_eq_true hb30)) ?_
    refine xK true (.bool true) rfl rfl rfl rfl ?_
    simp only [zP, zI, zS, zO]
    refine xM (.bool true) rfl rfl rfl ?_
    refine xH 6 69 true (.pointer (some ⟨b5, 2, none⟩)) rfl rfl rfl rfl (ex_field rfl rfl (s1fa36_2 _ _ _)) ?_
    refine xH 6 69 true (.slice none 0 0) rfl rfl rfl rfl (ex_load rfl rfl (run_load1 s1na32 (hv.load 0 2 rfl rfl))) ?_
    simp only [zP, zI, zS, zO]
    refine xH 6 69 true (.int .i64 0) rfl rfl rfl rfl (ex_len0 Try.underlying32 rfl rfl) ?_
    refine xH 6 69 true (.pointer (some ⟨b5, 3, none⟩)) rfl rfl rfl rfl (ex_field rfl rfl (s1fa36_3 _ _ _)) ?_
    refine xH 6 69 true (.slice at2 v.texts.length ct) rfl rfl rfl rfl (ex_load rfl rfl (run_load1 s1na33 (hv.load 0 3 rfl rfl))) ?_
    simp only [zP, zI, zS, zO]
    refine xH 6 69 true (.int .i64 (v.texts.length : Int)) rfl rfl rfl rfl (ex_len0 Try.underlying33 rfl rfl) ?_
    refine xH 6 69 true (.int .i64 (0 + (v.texts.length : Int))) rfl rfl rfl rfl (ex_add (m := 0) (n := (v.texts.length : Int)) rfl rfl rfl (i64_in (by omega))) ?_
    refine xH 6 69 true (.pointer (some ⟨b5, 4, none⟩)) rfl rfl rfl rfl (ex_field rfl rfl (s1fa36_4 _ _ _)) ?_
    simp only [zP, zI, zS, zO]
    refine xH 6 69 true (.slice az v.zset.length cz) rfl rfl rfl rfl (ex_load rfl rfl (run_load1 s1na34 (hv.load 0 4 rfl rfl))) ?_
    refine xH 6 69 true (.int .i64 (v.zset.length : Int)) rfl rfl rfl rfl (ex_len0 Try.underlying34 rfl rfl) ?_
    refine xH 6 69 true (.int .i64 ((0 + (v.texts.length : Int)) + (v.zset.length : Int))) rfl rfl rfl rfl (ex_add (m := (0 + (v.texts.length : Int))) (n := (v.zset.length : Int)) rfl rfl rfl (i64_in (by omega))) ?_
    simp only [zP, zI, zS, zO]
    by_cases hb31 : ((0 + (v.texts.length : Int)) + (v.zset.length : Int)) = 0
    ·refine xH 6 69 true (.bool true) rfl rfl rfl rfl (ex_eql (k := .i64) (m := ((0 + (v.texts.length : Int)) + (v.zset.length : Int))) (n := 0) rfl rfl rfl (decide_eq_true hb31)) ?_
     refine xK true (.bool true) rfl rfl rfl rfl ?_
     refine xA (.bool true) rfl rfl rfl ?_
     refine wL ?_
     simp only [zP, zI, zS, zO]
     refine tN (hK29 _ _ ?_)
     clear hK29 K29
     refine wpIn_ret ?_
     refine bR rfl rfl ?_
     exact ⟨true, rfl, ⟨fun _ => by first | exact .inl ⟨by omega, by omega, by omega, by omega, by omega⟩ | exact .inr (.inl ⟨by omega, by omega, hbl24.1 rfl, by assumption, by omega, by omega⟩) | exact .inr (.inr (.inl ⟨by omega, by omega, hbl24.1 rfl, by assumption, by omega, by omega⟩)) | exact .inr (.inr (.inr (.inl ⟨by omega, by omega, hbl24.1 rfl, by assumption, by omega, by omega⟩))) | exact .inr (.inr (.inr (.inr (⟨by omega, by omega, hbl24.1 rfl, by assumption, by omega, by omega⟩)))), fun _ => rfl⟩, (hv.sub (List.Sublist.cons _ (List.Sublist.cons _ (List.Sublist.refl _))))⟩
    refine xH 6 69 true (.bool false) rfl rfl rfl rfl (ex_eql (k := .i64) (m := ((0 + (v.texts.length : Int)) + (v.zset.length : Int))) (n := 0) rfl rfl rfl (decide_eq_false hb31)) ?_
    refine xK true (.bool false) rfl rfl rfl rfl ?_
    refine xA (.bool false) rfl rfl rfl ?_
    refine wL ?_
    simp only [zP, zI, zS, zO]
    refine tN (hK29 _ _ ?_)
    clear hK29 K29
    refine wpIn_ret ?_
    refine bR rfl rfl ?_
    exact ⟨false, rfl, ⟨fun h => (by cases h), fun h => by rcases h with ⟨h1, h2, h3, h4, h5⟩ | ⟨h1, h2, h3, h4, h5, h6⟩ | ⟨h1, h2, h3, h4, h5, h6⟩ | ⟨h1, h2, h3, h4, h5, h6⟩ | ⟨h1, h2, h3, h4, h5, h6⟩ <;> first | omega | contradiction | (have h9 := hbl24.2 h3; cases h9)⟩, (hv.sub (List.Sublist.cons _ (List.Sublist.cons _ (List.Sublist.refl _))))⟩
   refine xH 1 64 true (.bool false) rfl rfl rfl rfl (ex_seql (s := v.text) (s' := ([] : List UInt8)) rfl rfl rfl (decide_eq_false hb30)) ?_
   refine xK true (.bool false) rfl rfl rfl rfl ?_
   simp only [zP, zI, zS, zO]
   refine xM (.bool false) rfl rfl rfl ?_
   refine xT 6 69 true false rfl rfl rfl rfl rfl rfl rfl (by decide) ?_
   simp only [zP, zI, zS, zO]
   refine xT 6 69 true false rfl rfl rfl rfl rfl rfl rfl (by decide) ?_
   simp only [zP, zI, zS, zO]
   refine xT 6 69 true false rfl rfl rfl rfl rfl rfl rfl (by decide) ?_
   simp only [zP, zI, zS, zO]
   refine xT 6 69 true false rfl rfl rfl rfl rfl rfl rfl (by decide) ?_
   simp only [zP, zI, zS, zO]
   refine xK false (.bool false) rfl rfl rfl rfl ?_
   refine xA (.bool false) rfl rfl rfl ?_
   refine wL ?_
   simp only [zP, zI, zS, zO]
   refine tN (hK29 _ _ ?_)
   clear hK29 K29
   refine wpIn_ret ?_
   refine bR rfl rfl ?_
   exact ⟨false, rfl, ⟨fun h => (by cases h), fun h => by rcases h with ⟨h1, h2, h3, h4, h5⟩ | ⟨h1, h2, h3, h4, h5, h6⟩ | ⟨h1, h2, h3, h4, h5, h6⟩ | ⟨h1, h2, h3, h4, h5, h6⟩ | ⟨h1, h2, h3, h4, h5, h6⟩ <;> first | omega | contradiction | (have h9 := hbl24.2 h3; cases h9)⟩, (hv.sub (List.Sublist.cons _ (List.Sublist.cons _ (List.Sublist.refl _))))⟩
  refine xG (.bool false) rfl rfl (ex_gtr (k := .i64) (m := (v.pairs.length : Int)) (n := 0) rfl rfl rfl (decide_eq_false hb23)) ?_
  refine xM (.bool false) rfl rfl rfl ?_
  refine xT 4 21 true false rfl rfl rfl rfl rfl rfl rfl (by decide) ?_
  simp only [zP, zI, zS, zO]
  refine xK false (.bool false) rfl rfl rfl rfl ?_
  simp only [zP, zI, zS, zO]
  refine xF (.pointer (some ⟨b5, 2, none⟩)) rfl rfl rfl (s1fa36_2 _ _ _) ?_
  refine sl_storeAt 0 (v := .slice none 0 0) (L' := [.int .i64 v.kind, .string ⟨v.text.toArray⟩, .slice none 0 0, .slice at2 v.texts.length ct, .slice az v.zset.length cz]) tV (wn rfl) rfl rfl rfl hv rfl s1sz32 (by simp) rfl rfl rfl (fun w32 hv => ?_)
  simp only [List.set_cons_zero] at hv
  refine xA (.bool false) rfl rfl rfl ?_
  refine wL ?_
  simp only [zP, zN, zI, zS, zO]
  refine blk_normal ?_
  refine tN (hK8 _ _ ?_)
  clear hK8 K8
  refine sK fun K33 hK33 => rL ?_
  refine xM (.bool false) rfl rfl rfl ?_
  refine xM (.bool false) rfl rfl rfl ?_
  refine xT 1 64 true false rfl rfl rfl rfl rfl rfl rfl (by decide) ?_
  simp only [zP, zI, zS, zO]
  refine xK false (.bool false) rfl rfl rfl rfl ?_
  simp only [zP, zI, zS, zO]
  refine xM (.bool false) rfl rfl rfl ?_
  refine xT 6 69 true false rfl rfl rfl rfl rfl rfl rfl (by decide) ?_
  simp only [zP, zI, zS, zO]
  refine xT 6 69 true false rfl rfl rfl rfl rfl rfl rfl (by decide) ?_
  simp only [zP, zI, zS, zO]
  refine xT 6 69 true false rfl rfl rfl rfl rfl rfl rfl (by decide) ?_
  simp only [zP, zI, zS, zO]
  refine xT 6 69 true false rfl rfl rfl rfl rfl rfl rfl (by decide) ?_
  simp only [zP, zI, zS, zO]
  refine xK false (.bool false) rfl rfl rfl rfl ?_
  refine xA (.bool false) rfl rfl rfl ?_
  refine wL ?_
  simp only [zP, zI, zS, zO]
  refine tN (hK33 _ _ ?_)
  clear hK33 K33
  refine wpIn_ret ?_
  refine bR rfl rfl ?_
  exact ⟨false, rfl, ⟨fun h => (by cases h), fun h => by rcases h with ⟨h1, h2, h3, h4, h5⟩ | ⟨h1, h2, h3, h4, h5, h6⟩ | ⟨h1, h2, h3, h4, h5, h6⟩ | ⟨h1, h2, h3, h4, h5, h6⟩ | ⟨h1, h2, h3, h4, h5, h6⟩ <;> first | omega | contradiction⟩, (hv.sub (List.Sublist.cons _ (List.Sublist.cons _ (List.Sublist.refl _))))⟩
 refine xG (.bool false) rfl rfl (ex_eql (k := .i64) (m := v.kind) (n := 2) rfl rfl rfl (decide_eq_false hb22)) ?_
 refine xA (.bool false) rfl rfl rfl ?_
 refine wL ?_
 simp only [zP, zI, zS, zO]
 refine tN (hK21 _ _ ?_)
 clear hK21 K21
 refine wpIn_cond_false rfl ?_
 refine sK fun K34 hK34 => rL ?_
 by_cases hb35 : v.kind = 3
 ·refine xG (.bool true) rfl rfl (ex_eql (k := .i64) (m := v.kind) (n := 3) rfl rfl rfl (decide_eq_true hb35)) ?_
  refine xA (.bool true) rfl rfl rfl ?_
  refine wL ?_
  simp only [zP, zI, zS, zO]
  refine tN (hK34 _ _ ?_)
  clear hK34 K34
  refine wpIn_cond_true rfl ?_
  refine rL ?_
  refine xF (.pointer (some ⟨b2, 3, none⟩)) rfl rfl rfl (s1fa36_3 _ _ _) ?_
  refine xL (.slice at2 v.texts.length ct) rfl rfl rfl (run_load1 s1na33 (hv.load 1 3 rfl rfl)) ?_
  refine xG (.int .i64 (v.texts.length : Int)) rfl rfl (ex_len0 Try.underlying33 rfl rfl) ?_
  simp only [zP, zI, zS, zO]
  by_cases hb36 : (v.texts.length : Int) > 0
  ·refine xG (.bool true) rfl rfl (ex_gtr (k := .i64) (m := (v.texts.length : Int)) (n := 0) rfl rfl rfl (decide_eq_true hb36)) ?_
   refine xM (.bool true) rfl rfl rfl ?_
   refine xH 4 33 true (.pointer (some ⟨b2, 3, none⟩)) rfl rfl rfl rfl (ex_field rfl rfl (s1fa36_3 _ _ _)) ?_
   simp only [zP, zI, zS, zO]
   refine xH 4 33 true (.slice at2 v.texts.length ct) rfl rfl rfl rfl (ex_load rfl rfl (run_load1 s1na33 (hv.load 1 3 rfl rfl))) ?_
   refine wpi_callG s12callable80 tV wideC rfl (wanted_of (j := 4) (d := 33) (b := true) rfl rfl rfl) rfl (args := #[.slice at2 v.texts.length ct]) (by simp only [yA, yB, yC]; rfl) ((listRightX B _ _ _ _ _ hrt (by omega) hv).mono ?_)
   rintro e w38 ⟨bl37, rfl, hbl37, hv⟩
   refine ⟨_, rfl, ?_⟩
   cases bl37
   ·refine xK true (.bool false) rfl rfl rfl rfl ?_
    simp only [zP, zI, zS, zO]
    refine xF (.pointer (some ⟨b5, 3, none⟩)) rfl rfl rfl (s1fa36_3 _ _ _) ?_
    refine sl_storeAt 0 (v := .slice none 0 0) (L' := [.int .i64 v.kind, .string ⟨v.text.toArray⟩, .slice ap v.pairs.length cp, .slice none 0 0, .slice az v.zset.length cz]) tV (wn rfl) rfl rfl rfl hv rfl s1sz33 (by simp) rfl rfl rfl (fun w39 hv => ?_)
    simp only [List.set_cons_zero] at hv
    refine xA (.bool false) rfl rfl rfl ?_
    refine wL ?_
    simp only [zP, zN, zI, zS, zO]
    refine blk_normal ?_
    refine tN (hK8 _ _ ?_)
    clear hK8 K8
    refine sK fun K40 hK40 => rL ?_
    refine xM (.bool false) rfl rfl rfl ?_
    refine xM (.bool false) rfl rfl rfl ?_
    refine xT 1 64 true false rfl rfl rfl rfl rfl rfl rfl (by decide) ?_
    simp only [zP, zI, zS, zO]
    refine xK false (.bool false) rfl rfl rfl rfl ?_
    simp only [zP, zI, zS, zO]
    refine xM (.bool false) rfl rfl rfl ?_
    refine xT 6 69 true false rfl rfl rfl rfl rfl rfl rfl (by decide) ?_
    simp only [zP, zI, zS, zO]
    refine xT 6 69 true false rfl rfl rfl rfl rfl rfl rfl (by decide) ?_
    simp only [zP, zI, zS, zO]
    refine xT 6 69 true false rfl rfl rfl rfl rfl rfl rfl (by decide) ?_
    simp only [zP, zI, zS, zO]
    refine xT 6 69 true false rfl rfl rfl rfl rfl rfl rfl (by decide) ?_
    simp only [zP, zI, zS, zO]
    refine xK false (.bool false) rfl rfl rfl rfl ?_
    refine xA (.bool false) rfl rfl rfl ?_
    refine wL ?_
    simp only [zP, zI, zS, zO]
    refine tN (hK40 _ _ ?_)
    clear hK40 K40
    refine wpIn_ret ?_
    refine bR rfl rfl ?_
    exact ⟨false, rfl, ⟨fun h => (by cases h), fun h => by rcases h with ⟨h1, h2, h3, h4, h5⟩ | ⟨h1, h2, h3, h4, h5, h6⟩ | ⟨h1, h2, h3, h4, h5, h6⟩ | ⟨h1, h2, h3, h4, h5, h6⟩ | ⟨h1, h2, h3, h4, h5, h6⟩ <;> first | omega | contradiction | (have h9 := hbl37.2 h3; cases h9)⟩, (hv.sub (List.Sublist.cons _ (List.Sublist.cons _ (List.Sublist.refl _))))⟩
   refine xK true (.bool true) rfl rfl rfl rfl ?_
   simp only [zP, zI, zS, zO]
   refine xF (.pointer (some ⟨b5, 3, none⟩)) rfl rfl rfl (s1fa36_3 _ _ _) ?_
   refine sl_storeAt 0 (v := .slice none 0 0) (L' := [.int .i64 v.kind, .string ⟨v.text.toArray⟩, .slice ap v.pairs.length cp, .slice none 0 0, .slice az v.zset.length cz]) tV (wn rfl) rfl rfl rfl hv rfl s1sz33 (by simp) rfl rfl rfl (fun w41 hv => ?_)
   simp only [List.set_cons_zero] at hv
   refine xA (.bool true) rfl rfl rfl ?_
   refine wL ?_
   simp only [zP, zN, zI, zS, zO]
   refine blk_normal ?_
   refine tN (hK8 _ _ ?_)
   clear hK8 K8
   refine sK fun K42 hK42 => rL ?_
   refine xM (.bool true) rfl rfl rfl ?_
   refine xM (.bool true) rfl rfl rfl ?_
   refine xH 1 64 true (.pointer (some ⟨b5, 1, none⟩)) rfl rfl rfl rfl (ex_field rfl rfl (s12fa36_1 _ _ _)) ?_
   simp only [zP, zI, zS, zO]
   refine xH 1 64 true (.string ⟨v.text.toArray⟩) rfl rfl rfl rfl (ex_load rfl rfl (run_load1 s3na9 (hv.load 0 1 rfl rfl))) ?_
   by_cases hb43 : v.text = ([] : List UInt8)
   ·refine xH 1 64 true (.bool true) rfl rfl rfl rfl (ex_seql (s := v.text) (s' := ([] : List UInt8)) rfl rfl rfl (decide_eq_true hb43)) ?_
    refine xK true (.bool true) rfl rfl rfl rfl ?_
    simp only [zP, zI, zS, zO]
    refine xM (.bool true) rfl rfl rfl ?_
    refine xH 6 69 true (.pointer (some ⟨b5, 2, none⟩)) rfl rfl rfl rfl (ex_field rfl rfl (s1fa36_2 _ _ _)) ?_
    refine xH 6 69 true (.slice ap v.pairs.length cp) rfl rfl rfl rfl (ex_load rfl rfl (run_load1 s1na32 (hv.load 0 2 rfl rfl))) ?_
    simp only [zP, zI, zS, zO]
    refine xH 6 69 true (.int .i64 (v.pairs.length : Int)) rfl rfl rfl rfl (ex_len0 Try.underlying32 rfl rfl) ?_
    refine xH 6 69 true (.pointer (some ⟨b5, 3, none⟩)) rfl rfl rfl rfl (ex_field rfl rfl (s1fa36_3 _ _ _)) ?_
    refine xH 6 69 true (.slice none 0 0) rfl rfl rfl rfl (ex_load rfl rfl (run_load1 s1na33 (hv.load 0 3 rfl rfl))) ?_
    simp only [zP, zI, zS, zO]
    refine xH 6 69 true (.int .i64 0) rfl rfl rfl rfl (ex_len0 Try.underlying33 rfl rfl) ?_
    refine xH 6 69 true (.int .i64 ((v.pairs.length : Int) + 0)) rfl rfl rfl rfl (ex_add (m := (v.pairs.length : Int)) (n := 0) rfl rfl rfl (i64_in (by omega))) ?_
    refine xH 6 69 true (.pointer (some ⟨b5, 4, none⟩)) rfl rfl rfl rfl (ex_field rfl rfl (s1fa36_4 _ _ _)) ?_
    simp only [zP, zI, zS, zO]
    refine xH 6 69 true (.slice az v.zset.length cz) rfl rfl rfl rfl (ex_load rfl rfl (run_load1 s1na34 (hv.load 0 4 rfl rfl))) ?_
    refine xH 6 69 true (.int .i64 (v.zset.length : Int)) rfl rfl rfl rfl (ex_len0 Try.underlying34 rfl rfl) ?_
    refine xH 6 69 true (.int .i64 (((v.pairs.length : Int) + 0) + (v.zset.length : Int))) rfl rfl rfl rfl (ex_add (m := ((v.pairs.length : Int) + 0)) (n := (v.zset.length : Int)) rfl rfl rfl (i64_in (by omega))) ?_
    simp only [zP, zI, zS, zO]
    by_cases hb44 : (((v.pairs.length : Int) + 0) + (v.zset.length : Int)) = 0
    ·refine xH 6 69 true (.bool true) rfl rfl rfl rfl (ex_eql (k := .i64) (m := (((v.pairs.length : Int) + 0) + (v.zset.length : Int))) (n := 0) rfl rfl rfl (decide_eq_true hb44)) ?_
     refine xK true (.bool true) rfl rfl rfl rfl ?_
     refine xA (.bool true) rfl rfl rfl ?_
     refine wL ?_
     simp only [zP, zI, zS, zO]
     refine tN (hK42 _ _ ?_)
     clear hK42 K42
     refine wpIn_ret ?_
     refine bR rfl rfl ?_
     exact ⟨true, rfl, ⟨fun _ => by first | exact .inl ⟨by omega, by omega, by omega, by omega, by omega⟩ | exact .inr (.inl ⟨by omega, by omega, hbl37.1 rfl, by assumption, by omega, by omega⟩) | exact .inr (.inr (.inl ⟨by omega, by omega, hbl37.1 rfl, by assumption, by omega, by omega⟩)) | exact .inr (.inr (.inr (.inl ⟨by omega, by omega, hbl37.1 rfl, by assumption, by omega, by omega⟩))) | exact .inr (.inr (.inr (.inr (⟨by omega, by omega, hbl37.1 rfl, by assumption, by omega, by omega⟩)))), fun _ => rfl⟩, (hv.sub (List.Sublist.cons _ (List.Sublist.cons _ (List.Sublist.refl _))))⟩
    refine xH 6 69 true (.bool false) rfl rfl rfl rfl (ex_eql (k := .i64) (m := (((v.pairs.length : Int) + 0) + (v.zset.length : Int))) (n := 0) rfl rfl rfl (decide_eq_false hb44)) ?_
    refine xK true (.bool false) rfl rfl rfl rfl ?_
    refine xA (.bool false) rfl rfl rfl ?_
    refine wL ?_
    simp only [zP, zI, zS, zO]
    refine tN (hK42 _ _ ?_)
    clear hK42 K42
    refine wpIn_ret ?_
    refine bR rfl rfl ?_
    exact ⟨false, rfl, ⟨fun h => (by cases h), fun h => by rcases h with ⟨h1, h2, h3, h4, h5⟩ | ⟨h1, h2, h3, h4, h5, h6⟩ | ⟨h1, h2, h3, h4, h5, h6⟩ | ⟨h1, h2, h3, h4, h5, h6⟩ | ⟨h1, h2, h3, h4, h5, h6⟩ <;> first | omega | contradiction | (have h9 := hbl37.2 h3; cases h9)⟩, (hv.sub (List.Sublist.cons _ (List.Sublist.cons _ (List.Sublist.refl _))))⟩
   refine xH 1 64 true (.bool false) rfl rfl rfl rfl (ex_seql (s := v.text) (s' := ([] : List UInt8)) rfl rfl rfl (decide_eq_false hb43)) ?_
   refine xK true (.bool false) rfl rfl rfl rfl ?_
   simp only [zP, zI, zS, zO]
   refine xM (.bool false) rfl rfl rfl ?_
   refine xT 6 69 true false rfl rfl rfl rfl rfl rfl rfl (by decide) ?_
   simp only [zP, zI, zS, zO]
   refine xT 6 69 true false rfl rfl rfl rfl rfl rfl rfl (by decide) ?_
   simp only [zP, zI, zS, zO]
   refine xT 6 69 true false rfl rfl rfl rfl rfl rfl rfl (by decide) ?_
   simp only [zP, zI, zS, zO]
   refine xT 6 69 true false rfl rfl rfl rfl rfl rfl rfl (by decide) ?_
   simp only [zP, zI, zS, zO]
   refine xK false (.bool false) rfl rfl rfl rfl ?_
   refine xA (.bool false) rfl rfl rfl ?_
   refine wL ?_
   simp only [zP, zI, zS, zO]
   refine tN (hK42 _ _ ?_)
   clear hK42 K42
   refine wpIn_ret ?_
   refine bR rfl rfl ?_
   exact ⟨false, rfl, ⟨fun h => (by cases h), fun h => by rcases h with ⟨h1, h2, h3, h4, h5⟩ | ⟨h1, h2, h3, h4, h5, h6⟩ | ⟨h1, h2, h3, h4, h5, h6⟩ | ⟨h1, h2, h3, h4, h5, h6⟩ | ⟨h1, h2, h3, h4, h5, h6⟩ <;> first | omega | contradiction | (have h9 := hbl37.2 h3; cases h9)⟩, (hv.sub (List.Sublist.cons _ (List.Sublist.cons _ (List.Sublist.refl _))))⟩
  refine xG (.bool false) rfl rfl (ex_gtr (k := .i64) (m := (v.texts.length : Int)) (n := 0) rfl rfl rfl (decide_eq_false hb36)) ?_
  refine xM (.bool false) rfl rfl rfl ?_
  refine xT 4 33 true false rfl rfl rfl rfl rfl rfl rfl (by decide) ?_
  simp only [zP, zI, zS, zO]
  refine xK false (.bool false) rfl rfl rfl rfl ?_
  simp only [zP, zI, zS, zO]
  refine xF (.pointer (some ⟨b5, 3, none⟩)) rfl rfl rfl (s1fa36_3 _ _ _) ?_
  refine sl_storeAt 0 (v := .slice none 0 0) (L' := [.int .i64 v.kind, .string ⟨v.text.toArray⟩, .slice ap v.pairs.length cp, .slice none 0 0, .slice az v.zset.length cz]) tV (wn rfl) rfl rfl rfl hv rfl s1sz33 (by simp) rfl rfl rfl (fun w45 hv => ?_)
  simp only [List.set_cons_zero] at hv
  refine xA (.bool false) rfl rfl rfl ?_
  refine wL ?_
  simp only [zP, zN, zI, zS, zO]
  refine blk_normal ?_
  refine tN (hK8 _ _ ?_)
  clear hK8 K8
  refine sK fun K46 hK46 => rL ?_
  refine xM (.bool false) rfl rfl rfl ?_
  refine xM (.bool false) rfl rfl rfl ?_
  refine xT 1 64 true false rfl rfl rfl rfl rfl rfl rfl (by decide) ?_
  simp only [zP, zI, zS, zO]
  refine xK false (.bool false) rfl rfl rfl rfl ?_
  simp only [zP, zI, zS, zO]
  refine xM (.bool false) rfl rfl rfl ?_
  refine xT 6 69 true false rfl rfl rfl rfl rfl rfl rfl (by decide) ?_
  simp only [zP, zI, zS, zO]
  refine xT 6 69 true false rfl rfl rfl rfl rfl rfl rfl (by decide) ?_
  simp only [zP, zI, zS, zO]
  refine xT 6 69 true false rfl rfl rfl rfl rfl rfl rfl (by decide) ?_
  simp only [zP, zI, zS, zO]
  refine xT 6 69 true false rfl rfl rfl rfl rfl rfl rfl (by decide) ?_
  simp only [zP, zI, zS, zO]
  refine xK false (.bool false) rfl rfl rfl rfl ?_
  refine xA (.bool false) rfl rfl rfl ?_
  refine wL ?_
  simp only [zP, zI, zS, zO]
  refine tN (hK46 _ _ ?_)
  clear hK46 K46
  refine wpIn_ret ?_
  refine bR rfl rfl ?_
  exact ⟨false, rfl, ⟨fun h => (by cases h), fun h => by rcases h with ⟨h1, h2, h3, h4, h5⟩ | ⟨h1, h2, h3, h4, h5, h6⟩ | ⟨h1, h2, h3, h4, h5, h6⟩ | ⟨h1, h2, h3, h4, h5, h6⟩ | ⟨h1, h2, h3, h4, h5, h6⟩ <;> first | omega | contradiction⟩, (hv.sub (List.Sublist.cons _ (List.Sublist.cons _ (List.Sublist.refl _))))⟩
 refine xG (.bool false) rfl rfl (ex_eql (k := .i64) (m := v.kind) (n := 3) rfl rfl rfl (decide_eq_false hb35)) ?_
 refine xA (.bool false) rfl rfl rfl ?_
 refine wL ?_
 simp only [zP, zI, zS, zO]
 refine tN (hK34 _ _ ?_)
 clear hK34 K34
 refine wpIn_cond_false rfl ?_
 refine sK fun K47 hK47 => rL ?_
 by_cases hb48 : v.kind = 4
 ·refine xG (.bool true) rfl rfl (ex_eql (k := .i64) (m := v.kind) (n := 4) rfl rfl rfl (decide_eq_true hb48)) ?_
  refine xA (.bool true) rfl rfl rfl ?_
  refine wL ?_
  simp only [zP, zI, zS, zO]
  refine tN (hK47 _ _ ?_)
  clear hK47 K47
  refine wpIn_cond_true rfl ?_
  refine rL ?_
  refine xF (.pointer (some ⟨b2, 3, none⟩)) rfl rfl rfl (s1fa36_3 _ _ _) ?_
  refine xL (.slice at2 v.texts.length ct) rfl rfl rfl (run_load1 s1na33 (hv.load 1 3 rfl rfl)) ?_
  refine xG (.int .i64 (v.texts.length : Int)) rfl rfl (ex_len0 Try.underlying33 rfl rfl) ?_
  simp only [zP, zI, zS, zO]
  by_cases hb49 : (v.texts.length : Int) > 0
  ·refine xG (.bool true) rfl rfl (ex_gtr (k := .i64) (m := (v.texts.length : Int)) (n := 0) rfl rfl rfl (decide_eq_true hb49)) ?_
   refine xM (.bool true) rfl rfl rfl ?_
   refine xH 4 45 true (.pointer (some ⟨b2, 3, none⟩)) rfl rfl rfl rfl (ex_field rfl rfl (s1fa36_3 _ _ _)) ?_
   simp only [zP, zI, zS, zO]
   refine xH 4 45 true (.slice at2 v.texts.length ct) rfl rfl rfl rfl (ex_load rfl rfl (run_load1 s1na33 (hv.load 1 3 rfl rfl))) ?_
   refine wpi_callG s12callable81 tV wideC rfl (wanted_of (j := 4) (d := 45) (b := true) rfl rfl rfl) rfl (args := #[.slice at2 v.texts.length ct]) (by simp only [yA, yB, yC]; rfl) ((setRightC B _ _ _ _ _ hrt (by omega) hv).mono ?_)
   rintro e w51 ⟨bl50, rfl, hbl50, hv⟩
   refine ⟨_, rfl, ?_⟩
   cases bl50
   ·refine xK true (.bool false) rfl rfl rfl rfl ?_
    simp only [zP, zI, zS, zO]
    refine xF (.pointer (some ⟨b5, 3, none⟩)) rfl rfl rfl (s1fa36_3 _ _ _) ?_
    refine sl_storeAt 0 (v := .slice none 0 0) (L' := [.int .i64 v.kind, .string ⟨v.text.toArray⟩, .slice ap v.pairs.length cp, .slice none 0 0, .slice az v.zset.length cz]) tV (wn rfl) rfl rfl rfl hv rfl s1sz33 (by simp) rfl rfl rfl (fun w52 hv => ?_)
    simp only [List.set_cons_zero] at hv
    refine xA (.bool false) rfl rfl rfl ?_
    refine wL ?_
    simp only [zP, zN, zI, zS, zO]
    refine blk_normal ?_
    refine tN (hK8 _ _ ?_)
    clear hK8 K8
    refine sK fun K53 hK53 => rL ?_
    refine xM (.bool false) rfl rfl rfl ?_
    refine xM (.bool false) rfl rfl rfl ?_
    refine xT 1 64 true false rfl rfl rfl rfl rfl rfl rfl (by decide) ?_
    simp only [zP, zI, zS, zO]
    refine xK false (.bool false) rfl rfl rfl rfl ?_
    simp only [zP, zI, zS, zO]
    refine xM (.bool false) rfl rfl rfl ?_
    refine xT 6 69 true false rfl rfl rfl rfl rfl rfl rfl (by decide) ?_
    simp only [zP, zI, zS, zO]
    refine xT 6 69 true false rfl rfl rfl rfl rfl rfl rfl (by decide) ?_
    simp only [zP, zI, zS, zO]
    refine xT 6 69 true false rfl rfl rfl rfl rfl rfl rfl (by decide) ?_
    simp only [zP, zI, zS, zO]
    refine xT 6 69 true false rfl rfl rfl rfl rfl rfl rfl (by decide) ?_
    simp only [zP, zI, zS, zO]
    refine xK false (.bool false) rfl rfl rfl rfl ?_
    refine xA (.bool false) rfl rfl rfl ?_
    refine wL ?_
    simp only [zP, zI, zS, zO]
    refine tN (hK53 _ _ ?_)
    clear hK53 K53
    refine wpIn_ret ?_
    refine bR rfl rfl ?_
    exact ⟨false, rfl, ⟨fun h => (by cases h), fun h => by rcases h with ⟨h1, h2, h3, h4, h5⟩ | ⟨h1, h2, h3, h4, h5, h6⟩ | ⟨h1, h2, h3, h4, h5, h6⟩ | ⟨h1, h2, h3, h4, h5, h6⟩ | ⟨h1, h2, h3, h4, h5, h6⟩ <;> first | omega | contradiction | (have h9 := hbl50.2 h3; cases h9)⟩, (hv.sub (List.Sublist.cons _ (List.Sublist.cons _ (List.Sublist.refl _))))⟩
   refine xK true (.bool true) rfl rfl rfl rfl ?_
   simp only [zP, zI, zS, zO]
   refine xF (.pointer (some ⟨b5, 3, none⟩)) rfl rfl rfl (s1fa36_3 _ _ _) ?_
   refine sl_storeAt 0 (v := .slice none 0 0) (L' := [.int .i64 v.kind, .string ⟨v.text.toArray⟩, .slice ap v.pairs.length cp, .slice none 0 0, .slice az v.zset.length cz]) tV (wn rfl) rfl rfl rfl hv rfl s1sz33 (by simp) rfl rfl rfl (fun w54 hv => ?_)
   simp only [List.set_cons_zero] at hv
   refine xA (.bool true) rfl rfl rfl ?_
   refine wL ?_
   simp only [zP, zN, zI, zS, zO]
   refine blk_normal ?_
   refine tN (hK8 _ _ ?_)
   clear hK8 K8
   refine sK fun K55 hK55 => rL ?_
   refine xM (.bool true) rfl rfl rfl ?_
   refine xM (.bool true) rfl rfl rfl ?_
   refine xH 1 64 true (.pointer (some ⟨b5, 1, none⟩)) rfl rfl rfl rfl (ex_field rfl rfl (s12fa36_1 _ _ _)) ?_
   simp only [zP, zI, zS, zO]
   refine xH 1 64 true (.string ⟨v.text.toArray⟩) rfl rfl rfl rfl (ex_load rfl rfl (run_load1 s3na9 (hv.load 0 1 rfl rfl))) ?_
   by_cases hb56 : v.text = ([] : List UInt8)
   ·refine xH 1 64 true (.bool true) rfl rfl rfl rfl (ex_seql (s := v.text) (s' := ([] : List UInt8)) rfl rfl rfl (decide_eq_true hb56)) ?_
    refine xK true (.bool true) rfl rfl rfl rfl ?_
    simp only [zP, zI, zS, zO]
    refine xM (.bool true) rfl rfl rfl ?_
    refine xH 6 69 true (.pointer (some ⟨b5, 2, none⟩)) rfl rfl rfl rfl (ex_field rfl rfl (s1fa36_2 _ _ _)) ?_
    refine xH 6 69 true (.slice ap v.pairs.length cp) rfl rfl rfl rfl (ex_load rfl rfl (run_load1 s1na32 (hv.load 0 2 rfl rfl))) ?_
    simp only [zP, zI, zS, zO]
    refine xH 6 69 true (.int .i64 (v.pairs.length : Int)) rfl rfl rfl rfl (ex_len0 Try.underlying32 rfl rfl) ?_
    refine xH 6 69 true (.pointer (some ⟨b5, 3, none⟩)) rfl rfl rfl rfl (ex_field rfl rfl (s1fa36_3 _ _ _)) ?_
    refine xH 6 69 true (.slice none 0 0) rfl rfl rfl rfl (ex_load rfl rfl (run_load1 s1na33 (hv.load 0 3 rfl rfl))) ?_
    simp only [zP, zI, zS, zO]
    refine xH 6 69 true (.int .i64 0) rfl rfl rfl rfl (ex_len0 Try.underlying33 rfl rfl) ?_
    refine xH 6 69 true (.int .i64 ((v.pairs.length : Int) + 0)) rfl rfl rfl rfl (ex_add (m := (v.pairs.length : Int)) (n := 0) rfl rfl rfl (i64_in (by omega))) ?_
    refine xH 6 69 true (.pointer (some ⟨b5, 4, none⟩)) rfl rfl rfl rfl (ex_field rfl rfl (s1fa36_4 _ _ _)) ?_
    simp only [zP, zI, zS, zO]
    refine xH 6 69 true (.slice az v.zset.length cz) rfl rfl rfl rfl (ex_load rfl rfl (run_load1 s1na34 (hv.load 0 4 rfl rfl))) ?_
    refine xH 6 69 true (.int .i64 (v.zset.length : Int)) rfl rfl rfl rfl (ex_len0 Try.underlying34 rfl rfl) ?_
    refine xH 6 69 true (.int .i64 (((v.pairs.length : Int) + 0) + (v.zset.length : Int))) rfl rfl rfl rfl (ex_add (m := ((v.pairs.length : Int) + 0)) (n := (v.zset.length : Int)) rfl rfl rfl (i64_in (by omega))) ?_
    simp only [zP, zI, zS, zO]
    by_cases hb57 : (((v.pairs.length : Int) + 0) + (v.zset.length : Int)) = 0
    ·refine xH 6 69 true (.bool true) rfl rfl rfl rfl (ex_eql (k := .i64) (m := (((v.pairs.length : Int) + 0) + (v.zset.length : Int))) (n := 0) rfl rfl rfl (decide_eq_true hb57)) ?_
     refine xK true (.bool true) rfl rfl rfl rfl ?_
     refine xA (.bool true) rfl rfl rfl ?_
     refine wL ?_
     simp only [zP, zI, zS, zO]
     refine tN (hK55 _ _ ?_)
     clear hK55 K55
     refine wpIn_ret ?_
     refine bR rfl rfl ?_
     exact ⟨true, rfl, ⟨fun _ => by first | exact .inl ⟨by omega, by omega, by omega, by omega, by omega⟩ | exact .inr (.inl ⟨by omega, by omega, hbl50.1 rfl, by assumption, by omega, by omega⟩) | exact .inr (.inr (.inl ⟨by omega, by omega, hbl50.1 rfl, by assumption, by omega, by omega⟩)) | exact .inr (.inr (.inr (.inl ⟨by omega, by omega, hbl50.1 rfl, by assumption, by omega, by omega⟩))) | exact .inr (.inr (.inr (.inr (⟨by omega, by omega, hbl50.1 rfl, by assumption, by omega, by omega⟩)))), fun _ => rfl⟩, (hv.sub (List.Sublist.cons _ (List.Sublist.cons _ (List.Sublist.refl _))))⟩
    refine xH 6 69 true (.bool false) rfl rfl rfl rfl (ex_eql (k := .i64) (m := (((v.pairs.length : Int) + 0) + (v.zset.length : Int))) (n := 0) rfl rfl rfl (decide_eq_false hb57)) ?_
    refine xK true (.bool false) rfl rfl rfl rfl ?_
    refine xA (.bool false) rfl rfl rfl ?_
    refine wL ?_
    simp only [zP, zI, zS, zO]
    refine tN (hK55 _ _ ?_)
    clear hK55 K55
    refine wpIn_ret ?_
    refine bR rfl rfl ?_
    exact ⟨false, rfl, ⟨fun h => (by cases h), fun h => by rcases h with ⟨h1, h2, h3, h4, h5⟩ | ⟨h1, h2, h3, h4, h5, h6⟩ | ⟨h1, h2, h3, h4, h5, h6⟩ | ⟨h1, h2, h3, h4, h5, h6⟩ | ⟨h1, h2, h3, h4, h5, h6⟩ <;> first | omega | contradiction | (have h9 := hbl50.2 h3; cases h9)⟩, (hv.sub (List.Sublist.cons _ (List.Sublist.cons _ (List.Sublist.refl _))))⟩
   refine xH 1 64 true (.bool false) rfl rfl rfl rfl (ex_seql (s := v.text) (s' := ([] : List UInt8)) rfl rfl rfl (decide_eq_false hb56)) ?_
   refine xK true (.bool false) rfl rfl rfl rfl ?_
   simp only [zP, zI, zS, zO]
   refine xM (.bool false) rfl rfl rfl ?_
   refine xT 6 69 true false rfl rfl rfl rfl rfl rfl rfl (by decide) ?_
   simp only [zP, zI, zS, zO]
   refine xT 6 69 true false rfl rfl rfl rfl rfl rfl rfl (by decide) ?_
   simp only [zP, zI, zS, zO]
   refine xT 6 69 true false rfl rfl rfl rfl rfl rfl rfl (by decide) ?_
   simp only [zP, zI, zS, zO]
   refine xT 6 69 true false rfl rfl rfl rfl rfl rfl rfl (by decide) ?_
   simp only [zP, zI, zS, zO]
   refine xK false (.bool false) rfl rfl rfl rfl ?_
   refine xA (.bool false) rfl rfl rfl ?_
   refine wL ?_
   simp only [zP, zI, zS, zO]
   refine tN (hK55 _ _ ?_)
   clear hK55 K55
   refine wpIn_ret ?_
   refine bR rfl rfl ?_
   exact ⟨false, rfl, ⟨fun h => (by cases h), fun h => by rcases h with ⟨h1, h2, h3, h4, h5⟩ | ⟨h1, h2, h3, h4, h5, h6⟩ | ⟨h1, h2, h3, h4, h5, h6⟩ | ⟨h1, h2, h3, h4, h5, h6⟩ | ⟨h1, h2, h3, h4, h5, h6⟩ <;> first | omega | contradiction | (have h9 := hbl50.2 h3; cases h9)⟩, (hv.sub (List.Sublist.cons _ (List.Sublist.cons _ (List.Sublist.refl _))))⟩
  refine xG (.bool false) rfl rfl (ex_gtr (k := .i64) (m := (v.texts.length : Int)) (n := 0) rfl rfl rfl (decide_eq_false hb49)) ?_
  refine xM (.bool false) rfl rfl rfl ?_
  refine xT 4 45 true false rfl rfl rfl rfl rfl rfl rfl (by decide) ?_
  simp only [zP, zI, zS, zO]
  refine xK false (.bool false) rfl rfl rfl rfl ?_
  simp only [zP, zI, zS, zO]
  refine xF (.pointer (some ⟨b5, 3, none⟩)) rfl rfl rfl (s1fa36_3 _ _ _) ?_
  refine sl_storeAt 0 (v := .slice none 0 0) (L' := [.int .i64 v.kind, .string ⟨v.text.toArray⟩, .slice ap v.pairs.length cp, .slice none 0 0, .slice az v.zset.length cz]) tV (wn rfl) rfl rfl rfl hv rfl s1sz33 (by simp) rfl rfl rfl (fun w58 hv => ?_)
  simp only [List.set_cons_zero] at hv
  refine xA (.bool false) rfl rfl rfl ?_
  refine wL ?_
  simp only [zP, zN, zI, zS, zO]
  refine blk_normal ?_
  refine tN (hK8 _ _ ?_)
  clear hK8 K8
  refine sK fun K59 hK59 => rL ?_
  refine xM (.bool false) rfl rfl rfl ?_
  refine xM (.bool false) rfl rfl rfl ?_
  refine xT 1 64 true false rfl rfl rfl rfl rfl rfl rfl (by decide) ?_
  simp only [zP, zI, zS, zO]
  refine xK false (.bool false) rfl rfl rfl rfl ?_
  simp only [zP, zI, zS, zO]
  refine xM (.bool false) rfl rfl rfl ?_
  refine xT 6 69 true false rfl rfl rfl rfl rfl rfl rfl (by decide) ?_
  simp only [zP, zI, zS, zO]
  refine xT 6 69 true false rfl rfl rfl rfl rfl rfl rfl (by decide) ?_
  simp only [zP, zI, zS, zO]
  refine xT 6 69 true false rfl rfl rfl rfl rfl rfl rfl (by decide) ?_
  simp only [zP, zI, zS, zO]
  refine xT 6 69 true false rfl rfl rfl rfl rfl rfl rfl (by decide) ?_
  simp only [zP, zI, zS, zO]
  refine xK false (.bool false) rfl rfl rfl rfl ?_
  refine xA (.bool false) rfl rfl rfl ?_
  refine wL ?_
  simp only [zP, zI, zS, zO]
  refine tN (hK59 _ _ ?_)
  clear hK59 K59
  refine wpIn_ret ?_
  refine bR rfl rfl ?_
  exact ⟨false, rfl, ⟨fun h => (by cases h), fun h => by rcases h with ⟨h1, h2, h3, h4, h5⟩ | ⟨h1, h2, h3, h4, h5, h6⟩ | ⟨h1, h2, h3, h4, h5, h6⟩ | ⟨h1, h2, h3, h4, h5, h6⟩ | ⟨h1, h2, h3, h4, h5, h6⟩ <;> first | omega | contradiction⟩, (hv.sub (List.Sublist.cons _ (List.Sublist.cons _ (List.Sublist.refl _))))⟩
 refine xG (.bool false) rfl rfl (ex_eql (k := .i64) (m := v.kind) (n := 4) rfl rfl rfl (decide_eq_false hb48)) ?_
 refine xA (.bool false) rfl rfl rfl ?_
 refine wL ?_
 simp only [zP, zI, zS, zO]
 refine tN (hK47 _ _ ?_)
 clear hK47 K47
 refine wpIn_cond_false rfl ?_
 refine sK fun K60 hK60 => rL ?_
 by_cases hb61 : v.kind = 5
 ·refine xG (.bool true) rfl rfl (ex_eql (k := .i64) (m := v.kind) (n := 5) rfl rfl rfl (decide_eq_true hb61)) ?_
  refine xA (.bool true) rfl rfl rfl ?_
  refine wL ?_
  simp only [zP, zI, zS, zO]
  refine tN (hK60 _ _ ?_)
  clear hK60 K60
  refine wpIn_cond_true rfl ?_
  refine rL ?_
  refine xF (.pointer (some ⟨b2, 4, none⟩)) rfl rfl rfl (s1fa36_4 _ _ _) ?_
  refine xL (.slice az v.zset.length cz) rfl rfl rfl (run_load1 s1na34 (hv.load 1 4 rfl rfl)) ?_
  refine xG (.int .i64 (v.zset.length : Int)) rfl rfl (ex_len0 Try.underlying34 rfl rfl) ?_
  simp only [zP, zI, zS, zO]
  by_cases hb62 : (v.zset.length : Int) > 0
  ·refine xG (.bool true) rfl rfl (ex_gtr (k := .i64) (m := (v.zset.length : Int)) (n := 0) rfl rfl rfl (decide_eq_true hb62)) ?_
   refine xM (.bool true) rfl rfl rfl ?_
   refine xH 4 57 true (.pointer (some ⟨b2, 4, none⟩)) rfl rfl rfl rfl (ex_field rfl rfl (s1fa36_4 _ _ _)) ?_
   simp only [zP, zI, zS, zO]
   refine xH 4 57 true (.slice az v.zset.length cz) rfl rfl rfl rfl (ex_load rfl rfl (run_load1 s1na34 (hv.load 1 4 rfl rfl))) ?_
   refine wpi_callG s12callable82 tV wideC rfl (wanted_of (j := 4) (d := 57) (b := true) rfl rfl rfl) rfl (args := #[.slice az v.zset.length cz]) (by simp only [yA, yB, yC]; rfl) ((zsetRightC B _ _ _ _ _ hrz (by omega) hv).mono ?_)
   rintro e w64 ⟨bl63, rfl, hbl63, hv⟩
   refine ⟨_, rfl, ?_⟩
   cases bl63
   ·refine xK true (.bool false) rfl rfl rfl rfl ?_
    simp only [zP, zI, zS, zO]
    refine xF (.pointer (some ⟨b5, 4, none⟩)) rfl rfl rfl (s1fa36_4 _ _ _) ?_
    refine sl_storeAt 0 (v := .slice none 0 0) (L' := [.int .i64 v.kind, .string ⟨v.text.toArray⟩, .slice ap v.pairs.length cp, .slice at2 v.texts.length ct, .slice none 0 0]) tV (wn rfl) rfl rfl rfl hv rfl s1sz34 (by simp) rfl rfl rfl (fun w65 hv => ?_)
    simp only [List.set_cons_zero] at hv
    refine xA (.bool false) rfl rfl rfl ?_
    refine wL ?_
    simp only [zP, zN, zI, zS, zO]
    refine blk_normal ?_
    refine tN (hK8 _ _ ?_)
    clear hK8 K8
    refine sK fun K66 hK66 => rL ?_
    refine xM (.bool false) rfl rfl rfl ?_
    refine xM (.bool false) rfl rfl rfl ?_
    refine xT 1 64 true false rfl rfl rfl rfl rfl rfl rfl (by decide) ?_
    simp only [zP, zI, zS, zO]
    refine xK false (.bool false) rfl rfl rfl rfl ?_
    simp only [zP, zI, zS, zO]
    refine xM (.bool false) rfl rfl rfl ?_
    refine xT 6 69 true false rfl rfl rfl rfl rfl rfl rfl (by decide) ?_
    simp only [zP, zI, zS, zO]
    refine xT 6 69 true false rfl rfl rfl rfl rfl rfl rfl (by decide) ?_
    simp only [zP, zI, zS, zO]
    refine xT 6 69 true false rfl rfl rfl rfl rfl rfl rfl (by decide) ?_
    simp only [zP, zI, zS, zO]
    refine xT 6 69 true false rfl rfl rfl rfl rfl rfl rfl (by decide) ?_
    simp only [zP, zI, zS, zO]
    refine xK false (.bool false) rfl rfl rfl rfl ?_
    refine xA (.bool false) rfl rfl rfl ?_
    refine wL ?_
    simp only [zP, zI, zS, zO]
    refine tN (hK66 _ _ ?_)
    clear hK66 K66
    refine wpIn_ret ?_
    refine bR rfl rfl ?_
    exact ⟨false, rfl, ⟨fun h => (by cases h), fun h => by rcases h with ⟨h1, h2, h3, h4, h5⟩ | ⟨h1, h2, h3, h4, h5, h6⟩ | ⟨h1, h2, h3, h4, h5, h6⟩ | ⟨h1, h2, h3, h4, h5, h6⟩ | ⟨h1, h2, h3, h4, h5, h6⟩ <;> first | omega | contradiction | (have h9 := hbl63.2 h3; cases h9)⟩, (hv.sub (List.Sublist.cons _ (List.Sublist.cons _ (List.Sublist.refl _))))⟩
   refine xK true (.bool true) rfl rfl rfl rfl ?_
   simp only [zP, zI, zS, zO]
   refine xF (.pointer (some ⟨b5, 4, none⟩)) rfl rfl rfl (s1fa36_4 _ _ _) ?_
   refine sl_storeAt 0 (v := .slice none 0 0) (L' := [.int .i64 v.kind, .string ⟨v.text.toArray⟩, .slice ap v.pairs.length cp, .slice at2 v.texts.length ct, .slice none 0 0]) tV (wn rfl) rfl rfl rfl hv rfl s1sz34 (by simp) rfl rfl rfl (fun w67 hv => ?_)
   simp only [List.set_cons_zero] at hv
   refine xA (.bool true) rfl rfl rfl ?_
   refine wL ?_
   simp only [zP, zN, zI, zS, zO]
   refine blk_normal ?_
   refine tN (hK8 _ _ ?_)
   clear hK8 K8
   refine sK fun K68 hK68 => rL ?_
   refine xM (.bool true) rfl rfl rfl ?_
   refine xM (.bool true) rfl rfl rfl ?_
   refine xH 1 64 true (.pointer (some ⟨b5, 1, none⟩)) rfl rfl rfl rfl (ex_field rfl rfl (s12fa36_1 _ _ _)) ?_
   simp only [zP, zI, zS, zO]
   refine xH 1 64 true (.string ⟨v.text.toArray⟩) rfl rfl rfl rfl (ex_load rfl rfl (run_load1 s3na9 (hv.load 0 1 rfl rfl))) ?_
   by_cases hb69 : v.text = ([] : List UInt8)
   ·refine xH 1 64 true (.bool true) rfl rfl rfl rfl (ex_seql (s := v.text) (s' := ([] : List UInt8)) rfl rfl rfl (decide_eq_true hb69)) ?_
    refine xK true (.bool true) rfl rfl rfl rfl ?_
    simp only [zP, zI, zS, zO]
    refine xM (.bool true) rfl rfl rfl ?_
    refine xH 6 69 true (.pointer (some ⟨b5, 2, none⟩)) rfl rfl rfl rfl (ex_field rfl rfl (s1fa36_2 _ _ _)) ?_
    refine xH 6 69 true (.slice ap v.pairs.length cp) rfl rfl rfl rfl (ex_load rfl rfl (run_load1 s1na32 (hv.load 0 2 rfl rfl))) ?_
    simp only [zP, zI, zS, zO]
    refine xH 6 69 true (.int .i64 (v.pairs.length : Int)) rfl rfl rfl rfl (ex_len0 Try.underlying32 rfl rfl) ?_
    refine xH 6 69 true (.pointer (some ⟨b5, 3, none⟩)) rfl rfl rfl rfl (ex_field rfl rfl (s1fa36_3 _ _ _)) ?_
    refine xH 6 69 true (.slice at2 v.texts.length ct) rfl rfl rfl rfl (ex_load rfl rfl (run_load1 s1na33 (hv.load 0 3 rfl rfl))) ?_
    simp only [zP, zI, zS, zO]
    refine xH 6 69 true (.int .i64 (v.texts.length : Int)) rfl rfl rfl rfl (ex_len0 Try.underlying33 rfl rfl) ?_
    refine xH 6 69 true (.int .i64 ((v.pairs.length : Int) + (v.texts.length : Int))) rfl rfl rfl rfl (ex_add (m := (v.pairs.length : Int)) (n := (v.texts.length : Int)) rfl rfl rfl (i64_in (by omega))) ?_
    refine xH 6 69 true (.pointer (some ⟨b5, 4, none⟩)) rfl rfl rfl rfl (ex_field rfl rfl (s1fa36_4 _ _ _)) ?_
    simp only [zP, zI, zS, zO]
    refine xH 6 69 true (.slice none 0 0) rfl rfl rfl rfl (ex_load rfl rfl (run_load1 s1na34 (hv.load 0 4 rfl rfl))) ?_
    refine xH 6 69 true (.int .i64 0) rfl rfl rfl rfl (ex_len0 Try.underlying34 rfl rfl) ?_
    refine xH 6 69 true (.int .i64 (((v.pairs.length : Int) + (v.texts.length : Int)) + 0)) rfl rfl rfl rfl (ex_add (m := ((v.pairs.length : Int) + (v.texts.length : Int))) (n := 0) rfl rfl rfl (i64_in (by omega))) ?_
    simp only [zP, zI, zS, zO]
    by_cases hb70 : (((v.pairs.length : Int) + (v.texts.length : Int)) + 0) = 0
    ·refine xH 6 69 true (.bool true) rfl rfl rfl rfl (ex_eql (k := .i64) (m := (((v.pairs.length : Int) + (v.texts.length : Int)) + 0)) (n := 0) rfl rfl rfl (decide_eq_true hb70)) ?_
     refine xK true (.bool true) rfl rfl rfl rfl ?_
     refine xA (.bool true) rfl rfl rfl ?_
     refine wL ?_
     simp only [zP, zI, zS, zO]
     refine tN (hK68 _ _ ?_)
     clear hK68 K68
     refine wpIn_ret ?_
     refine bR rfl rfl ?_
     exact ⟨true, rfl, ⟨fun _ => by first | exact .inl ⟨by omega, by omega, by omega, by omega, by omega⟩ | exact .inr (.inl ⟨by omega, by omega, hbl63.1 rfl, by assumption, by omega, by omega⟩) | exact .inr (.inr (.inl ⟨by omega, by omega, hbl63.1 rfl, by assumption, by omega, by omega⟩)) | exact .inr (.inr (.inr (.inl ⟨by omega, by omega, hbl63.1 rfl, by assumption, by omega, by omega⟩))) | exact .inr (.inr (.inr (.inr (⟨by omega, by omega, hbl63.1 rfl, by assumption, by omega, by omega⟩)))), fun _ => rfl⟩, (hv.sub (List.Sublist.cons _ (List.Sublist.cons _ (List.Sublist.refl _))))⟩
    refine xH 6 69 true (.bool false) rfl rfl rfl rfl (ex_eql (k := .i64) (m := (((v.pairs.length : Int) + (v.texts.length : Int)) + 0)) (n := 0) rfl rfl rfl (decide_eq_false hb70)) ?_
    refine xK true (.bool false) rfl rfl rfl rfl ?_
    refine xA (.bool false) rfl rfl rfl ?_
    refine wL ?_
    simp only [zP, zI, zS, zO]
    refine tN (hK68 _ _ ?_)
    clear hK68 K68
    refine wpIn_ret ?_
    refine bR rfl rfl ?_
    exact ⟨false, rfl, ⟨fun h => (by cases h), fun h => by rcases h with ⟨h1, h2, h3, h4, h5⟩ | ⟨h1, h2, h3, h4, h5, h6⟩ | ⟨h1, h2, h3, h4, h5, h6⟩ | ⟨h1, h2, h3, h4, h5, h6⟩ | ⟨h1, h2, h3, h4, h5, h6⟩ <;> first | omega | contradiction | (have h9 := hbl63.2 h3; cases h9)⟩, (hv.sub (List.Sublist.cons _ (List.Sublist.cons _ (List.Sublist.refl _))))⟩
   refine xH 1 64 true (.bool false) rfl rfl rfl rfl (ex_seql (s := v.text) (s' := ([] : List UInt8)) rfl rfl rfl (decide_eq_false hb69)) ?_
   refine xK true (.bool false) rfl rfl rfl rfl ?_
   simp only [zP, zI, zS, zO]
   refine xM (.bool false) rfl rfl rfl ?_
   refine xT 6 69 true false rfl rfl rfl rfl rfl rfl rfl (by decide) ?_
   simp only [zP, zI, zS, zO]
   refine xT 6 69 true false rfl rfl rfl rfl rfl rfl rfl (by decide) ?_
   simp only [zP, zI, zS, zO]
   refine xT 6 69 true false rfl rfl rfl rfl rfl rfl rfl (by decide) ?_
   simp only [zP, zI, zS, zO]
   refine xT 6 69 true false rfl rfl rfl rfl rfl rfl rfl (by decide) ?_
   simp only [zP, zI, zS, zO]
   refine xK false (.bool false) rfl rfl rfl rfl ?_
   refine xA (.bool false) rfl rfl rfl ?_
   refine wL ?_
   simp only [zP, zI, zS, zO]
   refine tN (hK68 _ _ ?_)
   clear hK68 K68
   refine wpIn_ret ?_
   refine bR rfl rfl ?_
   exact ⟨false, rfl, ⟨fun h => (by cases h), fun h => by rcases h with ⟨h1, h2, h3, h4, h5⟩ | ⟨h1, h2, h3, h4, h5, h6⟩ | ⟨h1, h2, h3, h4, h5, h6⟩ | ⟨h1, h2, h3, h4, h5, h6⟩ | ⟨h1, h2, h3, h4, h5, h6⟩ <;> first | omega | contradiction | (have h9 := hbl63.2 h3; cases h9)⟩, (hv.sub (List.Sublist.cons _ (List.Sublist.cons _ (List.Sublist.refl _))))⟩
  refine xG (.bool false) rfl rfl (ex_gtr (k := .i64) (m := (v.zset.length : Int)) (n := 0) rfl rfl rfl (decide_eq_false hb62)) ?_
  refine xM (.bool false) rfl rfl rfl ?_
  refine xT 4 57 true false rfl rfl rfl rfl rfl rfl rfl (by decide) ?_
  simp only [zP, zI, zS, zO]
  refine xK false (.bool false) rfl rfl rfl rfl ?_
  simp only [zP, zI, zS, zO]
  refine xF (.pointer (some ⟨b5, 4, none⟩)) rfl rfl rfl (s1fa36_4 _ _ _) ?_
  refine sl_storeAt 0 (v := .slice none 0 0) (L' := [.int .i64 v.kind, .string ⟨v.text.toArray⟩, .slice ap v.pairs.length cp, .slice at2 v.texts.length ct, .slice none 0 0]) tV (wn rfl) rfl rfl rfl hv rfl s1sz34 (by simp) rfl rfl rfl (fun w71 hv => ?_)
  simp only [List.set_cons_zero] at hv
  refine xA (.bool false) rfl rfl rfl ?_
  refine wL ?_
  simp only [zP, zN, zI, zS, zO]
  refine blk_normal ?_
  refine tN (hK8 _ _ ?_)
  clear hK8 K8
  refine sK fun K72 hK72 => rL ?_
  refine xM (.bool false) rfl rfl rfl ?_
  refine xM (.bool false) rfl rfl rfl ?_
  refine xT 1 64 true false rfl rfl rfl rfl rfl rfl rfl (by decide) ?_
  simp only [zP, zI, zS, zO]
  refine xK false (.bool false) rfl rfl rfl rfl ?_
  simp only [zP, zI, zS, zO]
  refine xM (.bool false) rfl rfl rfl ?_
  refine xT 6 69 true false rfl rfl rfl rfl rfl rfl rfl (by decide) ?_
  simp only [zP, zI, zS, zO]
  refine xT 6 69 true false rfl rfl rfl rfl rfl rfl rfl (by decide) ?_
  simp only [zP, zI, zS, zO]
  refine xT 6 69 true false rfl rfl rfl rfl rfl rfl rfl (by decide) ?_
  simp only [zP, zI, zS, zO]
  refine xT 6 69 true false rfl rfl rfl rfl rfl rfl rfl (by decide) ?_
  simp only [zP, zI, zS, zO]
  refine xK false (.bool false) rfl rfl rfl rfl ?_
  refine xA (.bool false) rfl rfl rfl ?_
  refine wL ?_
  simp only [zP, zI, zS, zO]
  refine tN (hK72 _ _ ?_)
  clear hK72 K72
  refine wpIn_ret ?_
  refine bR rfl rfl ?_
  exact ⟨false, rfl, ⟨fun h => (by cases h), fun h => by rcases h with ⟨h1, h2, h3, h4, h5⟩ | ⟨h1, h2, h3, h4, h5, h6⟩ | ⟨h1, h2, h3, h4, h5, h6⟩ | ⟨h1, h2, h3, h4, h5, h6⟩ | ⟨h1, h2, h3, h4, h5, h6⟩ <;> first | omega | contradiction⟩, (hv.sub (List.Sublist.cons _ (List.Sublist.cons _ (List.Sublist.refl _))))⟩
 refine xG (.bool false) rfl rfl (ex_eql (k := .i64) (m := v.kind) (n := 5) rfl rfl rfl (decide_eq_false hb61)) ?_
 refine xA (.bool false) rfl rfl rfl ?_
 refine wL ?_
 simp only [zP, zI, zS, zO]
 refine tN (hK60 _ _ ?_)
 clear hK60 K60
 refine wpIn_cond_false rfl ?_
 refine wpIn_skip ?_
 refine blk_normal ?_
 refine tN (hK8 _ _ ?_)
 clear hK8 K8
 refine sK fun K73 hK73 => rL ?_
 refine xM (.bool false) rfl rfl rfl ?_
 refine xM (.bool false) rfl rfl rfl ?_
 refine xT 1 64 true false rfl rfl rfl rfl rfl rfl rfl (by decide) ?_
 simp only [zP, zI, zS, zO]
 refine xK false (.bool false) rfl rfl rfl rfl ?_
 simp only [zP, zI, zS, zO]
 refine xM (.bool false) rfl rfl rfl ?_
 refine xT 6 69 true false rfl rfl rfl rfl rfl rfl rfl (by decide) ?_
 simp only [zP, zI, zS, zO]
 refine xT 6 69 true false rfl rfl rfl rfl rfl rfl rfl (by decide) ?_
 simp only [zP, zI, zS, zO]
 refine xT 6 69 true false rfl rfl rfl rfl rfl rfl rfl (by decide) ?_
 simp only [zP, zI, zS, zO]
 refine xT 6 69 true false rfl rfl rfl rfl rfl rfl rfl (by decide) ?_
 simp only [zP, zI, zS, zO]
 refine xK false (.bool false) rfl rfl rfl rfl ?_
 refine xA (.bool false) rfl rfl rfl ?_
 refine wL ?_
 simp only [zP, zI, zS, zO]
 refine tN (hK73 _ _ ?_)
 clear hK73 K73
 refine wpIn_ret ?_
 refine bR rfl rfl ?_
 exact ⟨false, rfl, ⟨fun h => (by cases h), fun h => by rcases h with ⟨h1, h2, h3, h4, h5⟩ | ⟨h1, h2, h3, h4, h5, h6⟩ | ⟨h1, h2, h3, h4, h5, h6⟩ | ⟨h1, h2, h3, h4, h5, h6⟩ | ⟨h1, h2, h3, h4, h5, h6⟩ <;> first | omega | contradiction⟩, (hv.sub (List.Sublist.cons _ (List.Sublist.cons _ (List.Sublist.refl _))))⟩
theorem valueRight (B : Base) (H : List Res) (w : World) (v : Val) (p t z : Value) (h : ValAt B v p t z) (hv : Inv B H w) : Calls Try.prog 73 #[.agg (valCells v p t z).toArray] w fun e w' => ∃ b, e = .returned (.bool b) ∧ (b = true ↔ ValOk v) ∧ Inv B H w' := by
 obtain ⟨⟨ap, cp, rfl, -, hrp⟩, ⟨at2, ct, rfl, -, hrt⟩, ⟨az, cz, rfl, -, hrz⟩, hpm, htm, hzm⟩ := h
 exact valueRight0 B H w v ap at2 az cp ct cz hrp hrt hrz hpm htm hzm hv
theorem valueSameZ (B : Base) (H : List Res) (w : World) (v : Val) (p t z : Value) (h : ValAt B v p t z) (hv : Inv B H w) : Calls Try.prog 72 #[.agg (valCells v p t z).toArray, .agg #[.int .i64 0, .string ⟨([] : List UInt8).toArray⟩, .slice none 0 0, .slice none 0 0, .slice none 0 0]] w fun e w' => e = .returned (.bool (decide (ZeroVal v))) ∧ Inv B H w' := by
 obtain ⟨⟨ap, cp, rfl, -, -⟩, ⟨at2, ct, rfl, -, -⟩, ⟨az, cz, rfl, -, -⟩, -, -, -⟩ := h
 exact valueSame0 B H w v ap at2 az cp ct cz hv
def VerOk (v : Ver) : Prop := (v.gone = true ∧ v.expire = 0 ∧ ZeroVal v.val) ∨ (v.gone = false ∧ 0 ≤ v.expire ∧ v.expire ≤ 1099511627776 ∧ ValOk v.val)
end Go.Proofs.Ytffmbdagjpdieaa
