/- Decimal forms: what is parsed of what is printed. No program in it. -/
import Derived.Lib.ItoaNum
import Derived.Lib.AtoiAll
import Derived.Lib.ParseIntBTie
import Derived.Test.YtngpmolbphinnaaGreatDoorCkScnB
import Derived.Test.YtngpmolbphinnaaGreatDoorCkScnA
import Derived.Test.YtngpmolbphinnaaGreatDoorRows
import Derived.Test.YtngpmolbphinnaaGreatDoorCkScnD
import Derived.LaidLaws
import Derived.LaidSub
import Derived.Test.YtngpmolbphinnaaGreatDoorCkScnC
import Derived.Shelf.SlIter.Collect
import Derived.Shelf.Sort.Plain
import Derived.Shelf.Slices.In.CompactS
import Derived.Shelf.Slices.In.SortNone
import Derived.Ground.NamesProg
import Derived.Ground.GgzProg
import Derived.Sort.KeysCollected
import Derived.Sort.OwnSorted
import Derived.Laws.StructEq
set_option maxRecDepth 100000
set_option maxHeartbeats 16000000
set_option synthInstance.maxSize 4096
set_option synthInstance.maxHeartbeats 400000
namespace Go.Pm
open Go.Lib
theorem parseUint10_append {r : List UInt8} : ∀ (l : List UInt8) (a b : Nat), parseUint10 a l = .ok b → parseUint10 a (l ++ r) = parseUint10 b r
 | [], a, b, h => by
  simp only [parseUint10, NumEnd.ok.injEq] at h
  subst h; rfl
 | c :: l, a, b, h => by
  simp only [parseUint10] at h
  simp only [List.cons_append, parseUint10]
  split at h
  ·rename_i h1
   rw [if_pos h1]
   split at h
   ·cases h
   rename_i h2
   rw [if_neg h2]
   split at h
   ·cases h
   rename_i h3
   rw [if_neg h3]
   exact parseUint10_append l _ b h
  cases h
theorem dig_toNat {d : Nat} (h : d < 10) : (UInt8.ofNat (48 + d)).toNat = 48 + d := by
 rw [UInt8.toNat_ofNat']
 exact Nat.mod_eq_of_lt (by omega)
theorem parse_dec (u : Nat) (h : u < 18446744073709551616) : parseUint10 0 (decDigits u) = .ok u := by
 induction u using Nat.strongRecOn with
 | _ u ih =>
  rw [decDigits]
  split
  ·rename_i h1
   simp only [parseUint10, dig_toNat h1]
   rw [if_pos (by omega), if_neg (by omega), if_neg (by omega)]
   congr 1
   omega
  rename_i h1
  rw [parseUint10_append _ 0 (u / 10) (ih (u / 10) (by omega) (by omega))]
  have hd : u % 10 < 10 := Nat.mod_lt _ (by omega)
  simp only [parseUint10, dig_toNat hd]
  rw [if_pos (by omega), if_neg (by omega), if_neg (by omega)]
  congr 1
  omega
theorem dec_bytes (u : Nat) : ∀ c ∈ decDigits u, 48 ≤ c.toNat ∧ c.toNat ≤ 57 := by
 induction u using Nat.strongRecOn with
 | _ u ih =>
  intro c hc
  rw [decDigits] at hc
  split at hc
  ·rename_i h1
   simp only [List.mem_singleton] at hc
   subst hc
   rw [dig_toNat h1]; omega
  rename_i h1
  rcases List.mem_append.1 hc with hc | hc
  ·exact ih (u / 10) (by omega) c hc
  simp only [List.mem_singleton] at hc
  subst hc
  rw [dig_toNat (Nat.mod_lt _ (by omega))]; omega
theorem dec_ne (u : Nat) : decDigits u ≠ [] := by
 rw [decDigits]
 split <;> simp
theorem parseMag_dec (u : Nat) (h : u < 18446744073709551616) : parseMag (decDigits u) = .ok u := by
 unfold parseMag
 rw [if_neg (dec_ne u), parse_dec u h]
theorem parse_itoa (n : Int) (h0 : -9223372036854775808 ≤ n) (h1 : n ≤ 9223372036854775807) : parseIntB 64 (itoa n) = .ok n := by
 rw [parseIntB_64]
 unfold itoa
 split
 ·rename_i hn
  have h45 : (45 : UInt8).toNat = 45 := rfl
  simp only [atoiAll, h45]
  rw [if_pos (by simp), parseMag_dec _ (by omega)]
  simp only [not_true_eq_false, false_and, if_false, true_and, if_true]
  rw [if_neg (by omega)]
  congr 1
  omega
 rename_i hn
 have hm := parseMag_dec n.toNat (by omega)
 have hb := dec_bytes n.toNat
 cases hl : decDigits n.toNat with
 | nil => exact absurd hl (dec_ne _)
 | cons c r =>
  rw [hl] at hm hb
  have hc := hb c (by simp)
  have h43 : ¬ c.toNat = 43 := by omega
  have h45 : ¬ c.toNat = 45 := by omega
  simp only [atoiAll, h43, h45, or_self, if_false, hm, not_false_eq_true, true_and, false_and]
  rw [if_neg (by omega)]
  congr 1
  omega
theorem nDigits_le : ∀ (k u : Nat), u < 10 ^ (k + 1) → nDigits u ≤ k + 1
 | 0, u, h => by rw [nDigits_small (by simpa using h)]; exact Nat.le_refl _
 | k + 1, u, h => by
  by_cases hu : u < 10
  ·rw [nDigits_small hu]; omega
  rw [nDigits_big hu]
  have := nDigits_le k (u / 10) (by rw [Nat.pow_succ] at h; omega)
  omega
theorem itoa_length (n : Int) (h0 : -9223372036854775808 ≤ n) (h1 : n ≤ 9223372036854775807) : 1 ≤ (itoa n).length ∧ (itoa n).length ≤ 20 := by
 have hp : (10 : Nat) ^ 19 = 10000000000000000000 := by decide
 unfold itoa
 split
 ·have := nDigits_le 18 n.natAbs (by rw [hp]; omega)
  simp only [List.length_cons, decDigits_length]; omega
 have := nDigits_le 18 n.toNat (by rw [hp]; omega)
 have := nDigits_pos n.toNat
 rw [decDigits_length]; omega
end Go.Pm
namespace Go.Proofs.YtngpmolbphinnaaGreatDoor
open Go.RowKit Go.Pm
def FormatsInt (B : Base) (H : List Res) : Prop := ∀ (w : World) (n : Int), -9223372036854775808 ≤ n → n ≤ 9223372036854775807 → Inv B H w →
 Calls Tryz.prog 102 #[vI n, vI 10] w fun e w' => e = .returned (vS (Lib.itoa n)) ∧ Inv B H w'
theorem ex_ifaceNil {P : Program} {o : Oper} {a : Act} {w : World} {t u : TypeId} {x : Operand} {c : Value} (hu : P.underlying t = some (.interface (P.methodsAt t))) (ho : o.op = .binOp .neq t x (.const c) u) (hx : a.eval x = .nilIface) (hy : a.eval (.const c) = .nilIface) : Ex P a o w (.bool false) w := by
 have hg : (eqGuard .neq t x (.const c) .nilIface .nilIface).run P w = .ok () w := by simp [eqGuard]
 have hr : (binOp .neq t .nilIface .nilIface).run P w = .ok (.bool false) w := by simp [binOp, run_equal_nil_nil w t hu]
 unfold Ex; simp [execOp, ho, hx, hy, hg, hr]
theorem prcallable102 : Callable Tryz.prog 102 := cb Tryz.func102 (by kernel_rfl)
theorem numPrint (B : Base) (H : List Res) (hF : FormatsInt B H) (w : World) (n : Int) (h0 : -9223372036854775808 ≤ n) (h1 : n ≤ 9223372036854775807) (hv : Inv B H w) :
  Calls Tryz.prog 89 #[vI n] w fun e w' => e = .returned (vS (Lib.itoa n)) ∧ Inv B H w' := by
 refine cW Tryz.func89 rfl Tryz.ntmps89 ?_
 simp only [al]
 refine sK fun _ k1 => rL (uA rfl ?_)
 refine uW k1 (sK fun _ k2 => ?_)
 refine rL (uM rfl ?_)
 refine xC prcallable102 rfl ((hF _ n h0 h1 hv).mono ?_) rfl
 rintro e w3 ⟨rfl, hv⟩
 refine ⟨_, rfl, uA rfl ?_⟩
 refine uW k2 (rR ?_)
 refine bR rfl rfl (⟨rfl, hv⟩)
theorem bytesWorld_ext (w : World) (e : TypeId) (t : ByteArray) : Ext w (Lib.bytesWorld w e t) := by
 have h : ∀ k, k < w.heap.size → (Lib.bytesWorld w e t).heap[k]? = w.heap[k]? := by
  intro k hk
  unfold Lib.bytesWorld World.freeze
  split
  ·show (w.heap.push _)[k]? = _
   rw [Array.getElem?_push_lt hk, Array.getElem?_eq_getElem hk]
  show ((w.heap.push _).modify w.heap.size _)[k]? = _
  rw [Array.getElem?_modify, if_neg (by omega), Array.getElem?_push_lt hk, Array.getElem?_eq_getElem hk]
 have hs : w.heap.size ≤ (Lib.bytesWorld w e t).heap.size := by
  unfold Lib.bytesWorld World.freeze
  split
  ·show _ ≤ (w.heap.push _).size
   simp
  show _ ≤ ((w.heap.push _).modify _ _).size
  simp
 refine ⟨?_, ?_, ?_, hs, h⟩ <;> (unfold Lib.bytesWorld World.freeze; split <;> rfl)
theorem growN_ext (w : World) (k : Nat) (os : Array Obj) : Ext w (Go.Sort.grow (w.drewN k) os) := by
 refine ⟨rfl, rfl, rfl, ?_, fun b hb => ?_⟩
 ·show _ ≤ (w.heap ++ os).size
  simp
 show (w.heap ++ os)[b]? = _
 rw [Array.getElem?_append_left hb]
theorem tab_below {P : Program} {W w : World} {n : String} {k : IntKind} {l : List Int} (h : Lib.TabIs P W n k l) (hb : Below W.heap.size W w) : Lib.TabIs P w n k l := by
 unfold Lib.TabIs World.var? at h ⊢
 cases hg : P.globalNamed n with
 | none => rw [hg] at h; cases h
 | some g =>
  rw [hg] at h
  simp only [Option.bind_some] at h ⊢
  have hlt : g < W.heap.size := by
   rcases Nat.lt_or_ge g W.heap.size with hlt | hge
   ·exact hlt
   rw [Array.getElem?_eq_none hge] at h; cases h
  rw [hb.block g hlt]; exact h
theorem formatsInt (B : Base) (H : List Res) (W : World) (hB : (Base.of W).Le B) (ht : Lib.TabIs Tryz.prog W "internal/strconv.uint64pow10" .u64 Lib.pow10Tab) : FormatsInt B H := fun w n h0 h1 hv => by
 have h : Calls Tryz.prog 102 #[vI n, vI 10] w _ := Any.strconv_FormatInt_10 Tryz.laysFI n h0 h1 w (tab_below ht (hv.below hB))
 refine h.mono ?_
 rintro e w' ⟨rfl, k, os, rfl⟩
 exact ⟨rfl, hv.ext (growN_ext w k os)⟩
def NumP (s : List UInt8) (n : Int) (b : Bool) : Prop := (b = true ∧ -9223372036854775808 ≤ n ∧ n ≤ 9223372036854775807 ∧ s = Lib.itoa n) ∨ (b = false ∧ n = 0 ∧ ∀ m : Int, -9223372036854775808 ≤ m → m ≤ 9223372036854775807 → s ≠ Lib.itoa m)
def ParsesAny (B : Base) (H : List Res) : Prop := ∀ (w : World) (s : List UInt8), s.length ≤ 20 → Inv B H w →
 Calls Tryz.prog 109 #[vS s, vI 10, vI 64] w fun e w' => ∃ (n : Int) (ev : Value), e = .returned (.tuple #[vI n, ev]) ∧ (ev = .nilIface ∨ ∃ t v, ev = .iface t v) ∧ (-9223372036854775808 ≤ n ∧ n ≤ 9223372036854775807) ∧ (∀ m : Int, -9223372036854775808 ≤ m → m ≤ 9223372036854775807 → s = Lib.itoa m → ev = .nilIface ∧ n = m) ∧ Inv B H w'
theorem ex_ifaceNe {P : Program} {o : Oper} {a : Act} {w : World} {t u d : TypeId} {v : Value} {ms : Array (String × TypeId)} {x : Operand} {c : Value} (hu : P.underlying t = some (.interface ms)) (ho : o.op = .binOp .neq t x (.const c) u) (hx : a.eval x = .iface d v) (hc : c = .nilIface) : Ex P a o w (.bool true) w := by
 subst hc
 have hg : (eqGuard .neq t x (.const .nilIface) (.iface d v) .nilIface).run P w = .ok () w := by simp [eqGuard]
 have h : ∀ k : Nat, (Op.equalIn (k + 1) t (.iface d v) .nilIface).run P w = .ok false w := fun k => by simp [Op.equalIn, run_underlying hu]
 have hr : (binOp .neq t (.iface d v) .nilIface).run P w = .ok (.bool true) w := by
  simp only [binOp]; simp [Op.equal, Op.maxDepth, h 9999]
 have hy : a.eval (.const .nilIface) = .nilIface := rfl
 unfold Ex; simp [execOp, ho, hx, hy, hg, hr]
def HasErr (B : Base) (g : Nat) : Prop := ∃ t v, ∀ C K w, B.Le C → Inv C K w → w.cell? ⟨g, 0, none⟩ = some (.iface t v)
theorem HasErr.more {B C : Base} {g : Nat} (h : HasErr B g) (hB : B.Le C) : HasErr C g := by
 obtain ⟨t, v, h⟩ := h
 exact ⟨t, v, fun D K w hD hv => h D K w (hB.trans hD) hv⟩
theorem hasErr_of {W : World} {g : Nat} {t : TypeId} {v : Value} (h : W.cell? ⟨g, 0, none⟩ = some (.iface t v)) : HasErr (Base.of W) g := by
 have hlt : g < W.heap.size := Lib.lt_of_cell h
 exact ⟨t, v, fun C K w hC hv => ((hv.below hC).cell (show (⟨g, 0, none⟩ : Addr).block < W.heap.size from hlt)).trans h⟩
theorem errOf {W : World} {l : List (String × DataW Unit)} {name nm : String} {d : DataW Unit} {g t : Nat} {ms : Array (String × TypeId)} (hl : l.filter (fun x => x.1 == name) = [(name, .iface nm d)]) (he : ([(name, (DataW.iface nm d : DataW Unit))].filter fun x => x.2.handleName?.isNone) = [(name, .iface nm d)])
  (hg : Tryz.prog.globalNamed name = some g) (hty : (Tryz.prog.globals[g]?).map (·.type) = some t) (ht : Tryz.prog.underlying t = some (.interface ms)) (hL : laidMetH Tryz.prog l W) : ∃ u v, W.cell? ⟨g, 0, none⟩ = some (.iface u v) := by
 have h := hL.filter (fun x => x.1 == name)
 rw [hl] at h
 have h2 := (laidMetH_iff.1 h).1
 rw [he] at h2
 obtain ⟨ps, ⟨g', t', cs, fuel, p, q, hg', ht', hvar, hd, _, _⟩, _⟩ := h2
 obtain rfl := Option.some.inj (hg.symm.trans hg')
 obtain rfl := Option.some.inj (hty.symm.trans ht')
 obtain ⟨f', u, v, hcs, -, -⟩ := iface_of_trod ht hd
 refine ⟨u, v, ?_⟩
 have := World.var?_cell hg hvar 0
 rw [this]
 have hcs' : cs.toList = [.iface u v] := hcs
 rw [← Array.getElem?_toList, hcs']; rfl
theorem pzcallable109 : Callable Tryz.prog 109 := cb Tryz.func109 (by kernel_rfl)
theorem pzcallable89 : Callable Tryz.prog 89 := cb Tryz.func89 (by kernel_rfl)
theorem numParseAny (B : Base) (H : List Res) (hF : FormatsInt B H) (hP : ParsesAny B H) (w : World) (s : List UInt8) (hv : Inv B H w) :
  Calls Tryz.prog 96 #[vS s] w fun e w' => ∃ n b, e = .returned (.tuple #[vI n, .bool b]) ∧ NumP s n b ∧ Inv B H w' := by
 refine cW Tryz.func96 rfl Tryz.ntmps96 ?_
 simp only [al]
 refine sK fun _ k1 => rL (uA rfl ?_)
 refine uA rfl (uW k1 ?_)
 refine sK fun _ k2 => sK fun _ k3 => rL (uM rfl ?_)
 refine uG (vI (s.length : Int)) rfl (ex_lenStr Tryz.underlying9 rfl rfl) ?_
 by_cases hb4 : (s.length : Int) > 20
 ·refine uG (.bool true) rfl (ex_gtr rfl rfl rfl (qT hb4)) (uW k3 ?_)
  refine cT rfl (sK fun _ k5 => ?_)
  refine rL (uA rfl ?_)
  refine uA rfl (uW k5 ?_)
  refine rR (tR ?_)
  refine bodyPost_ret (results_tmp2 rfl _ _ _) rfl (⟨_, _, rfl, .inr ⟨rfl, rfl, fun m h0 h1 e9 => by have := itoa_length m h0 h1; rw [← e9] at this; omega⟩, hv⟩)
 refine uG (.bool false) rfl (ex_gtr rfl rfl rfl (qF hb4)) (uW k3 ?_)
 refine cF rfl (kS ?_)
 refine tK k2 (sK fun _ k6 => ?_)
 refine rL (uM rfl ?_)
 refine xC pzcallable109 rfl ((hP _ s (by omega) hv).mono ?_) rfl
 rintro e w7 ⟨n, ev, rfl, hev, hn, hno, hv⟩
 refine ⟨_, rfl, ?_⟩
 rcases hev with rfl | ⟨t9, v9, rfl⟩
 ·refine uM rfl (uE rfl ?_)
  refine uE rfl (uA rfl ?_)
  refine uA rfl (uW k6 ?_)
  refine sK fun _ k8 => sK fun _ k9 => rL (uM rfl ?_)
  refine uG (.bool false) rfl (ex_ifaceNil Tryz.underlying198 rfl rfl rfl) (uW k9 ?_)
  refine cF rfl (kS ?_)
  refine tK k8 (sK fun _ k10 => ?_)
  refine rL (uM rfl ?_)
  refine uA rfl (uW k10 ?_)
  refine sK fun _ k11 => sK fun _ k12 => rL (uM rfl ?_)
  refine xC pzcallable89 rfl ((numPrint B H hF _ n hn.1 hn.2 hv).mono ?_) rfl
  rintro e w13 ⟨rfl, hv⟩
  refine ⟨_, rfl, uM rfl ?_⟩
  by_cases hb14 : (Lib.itoa n) ≠ s
  ·refine uG (.bool true) rfl (ex_sneq rfl rfl rfl (qT hb14)) (uW k12 ?_)
   refine cT rfl (sK fun _ k15 => ?_)
   refine rL (uA rfl ?_)
   refine uA rfl (uW k15 ?_)
   refine rR (tR ?_)
   refine bodyPost_ret (results_tmp2 rfl _ _ _) rfl (⟨_, _, rfl, .inr ⟨rfl, rfl, fun m h0 h1 e9 => by have h8 := (hno m h0 h1 e9).2; subst h8; exact hb14 e9.symm⟩, hv⟩)
  refine uG (.bool false) rfl (ex_sneq rfl rfl rfl (qF hb14)) (uW k12 ?_)
  refine cF rfl (kS ?_)
  refine tK k11 (sK fun _ k16 => ?_)
  refine rL (uM rfl ?_)
  refine uA rfl (uA rfl ?_)
  refine uW k16 (rR ?_)
  refine bodyPost_ret (results_tmp2 rfl _ _ _) rfl (⟨_, _, rfl, .inl ⟨rfl, hn.1, hn.2, (Classical.byContradiction fun h9 => hb14 (fun e9 => h9 e9.symm))⟩, hv⟩)
 refine uM rfl (uE rfl ?_)
 refine uE rfl (uA rfl ?_)
 refine uA rfl (uW k6 ?_)
 refine sK fun _ k17 => sK fun _ k18 => rL (uM rfl ?_)
 refine uG (.bool true) rfl (ex_ifaceNe Tryz.underlying198 rfl rfl rfl) (uW k18 ?_)
 refine cT rfl (sK fun _ k19 => ?_)
 refine rL (uA rfl ?_)
 refine uA rfl (uW k19 ?_)
 refine rR (tR ?_)
 refine bodyPost_ret (results_tmp2 rfl _ _ _) rfl (⟨_, _, rfl, .inr ⟨rfl, rfl, fun m h0 h1 e9 => by have := (hno m h0 h1 e9).1; cases this⟩, hv⟩)
end Go.Proofs.YtngpmolbphinnaaGreatDoor
namespace Go.Pm
open Go.RowKit
section
variable {α : Type} {f : α → List Value} {k : Nat}
theorem rowk_len (hk : ∀ x, (f x).length = k) (l : List α) : (l.flatMap f).length = l.length * k := by
 induction l with
 | nil => simp
 | cons a l ih => rw [List.flatMap_cons, List.length_append, ih, hk, List.length_cons, Nat.succ_mul]; omega
theorem rowk_get (hk : ∀ x, (f x).length = k) {l : List α} {i j : Nat} {x : α} (hx : l[i]? = some x) (hj : j < k) : (l.flatMap f)[i * k + j]? = (f x)[j]? := by
 have hi := (List.getElem?_eq_some_iff.1 hx).1
 have h : l = l.take i ++ x :: l.drop (i + 1) := by
  have h9 := (List.take_append_drop i l).symm
  rw [List.drop_eq_getElem_cons hi, (List.getElem?_eq_some_iff.1 hx).2] at h9
  exact h9
 rw [h, List.flatMap_append, List.flatMap_cons, List.getElem?_append_right (by rw [rowk_len hk, List.length_take, Nat.min_eq_left (by omega)]; omega),
  rowk_len hk, List.length_take, Nat.min_eq_left (by omega), Nat.add_sub_cancel_left, List.getElem?_append_left (by rw [hk]; exact hj)]
theorem rowk_reads (hk : ∀ x, (f x).length = k) (h0 : 0 < k) {B : Base} {l : List α} {ad : Option Addr} {i : Nat} {x : α} (hr : RdV B [] ad (l.flatMap f)) (hx : l[i]? = some x) : ∃ b off, ad = some ⟨b, off, none⟩ ∧ Reads B [] b (off + i * k) (f x) := by
 have hi := (List.getElem?_eq_some_iff.1 hx).1
 have hle : i * k + k ≤ l.length * k := by have := Nat.mul_le_mul_right k (show i + 1 ≤ l.length by omega); rw [Nat.succ_mul] at this; exact this
 exact rdW_reads (k := i * k) (m := k) (hr.rdW []) (by rw [rowk_len hk]; exact hle) h0 (hk x) (fun j hj => (rowk_get hk hx hj).symm)
end
end Go.Pm
namespace Go.Proofs.YtngpmolbphinnaaGreatDoor
open Go.RowKit Go.Pm
def NumB (B : Base) : Prop := ∀ C H, B.Le C → FormatsInt C H ∧ ParsesAny C H
theorem NumB.more {B C : Base} (h : NumB B) (hB : B.Le C) : NumB C := fun D H hD => h D H (hB.trans hD)
def intCells (l : List Int) : List Value := l.flatMap fun n => [vI n]
theorem int_reads {B : Base} {l : List Int} {ad : Option Addr} {i : Nat} {x : Int} (hr : RdV B [] ad (intCells l)) (hx : l[i]? = some x) : ∃ b off, ad = some ⟨b, off, none⟩ ∧ Reads B [] b (off + i) [vI x] := by
 have := rowk_reads (f := fun n : Int => [vI n]) (k := 1) (fun _ => rfl) (by decide) hr hx
 simpa using this
theorem int_snoc (l : List Int) (x : Int) : intCells l ++ [vI x] = intCells (l ++ [x]) := by simp [intCells]
def IntsR (ts : List (List UInt8)) (ns : List Int) (ec : Int) : Prop := (ec = 0 ∧ ns.length = ts.length ∧ ∀ (i : Nat) t n, ts[i]? = some t → ns[i]? = some n → NumP t n true) ∨ (ec = 41 ∧ ns = [] ∧ ∃ t ∈ ts, NumP t 0 false)
theorem itmk3 : (Tryz.prog.info? 3).map (fun i => (i.zero, i.size, i.bytes)) = some (some (vI 0), 1, 8) := by kernel_rfl
theorem itel145 : Elem Tryz.prog 145 3 (vI 0) 1 8 := elem_of Tryz.underlying145 itmk3 (by rfl) (by decide)
theorem ites26 (w : World) : (sizeOf (Tryz.prog.elem 26)).run Tryz.prog w = .ok 1 w := by kernel_rfl
theorem itna9 (w : World) : (isAgg 9).run Tryz.prog w = .ok false w := by kernel_rfl
theorem itcallable96 : Callable Tryz.prog 96 := cb Tryz.func96 (by kernel_rfl)
theorem viewInts (B : Base) (H : List Res) (w : World) (ta : Option Addr) (tc : Nat) (ts : List (List UInt8)) (hr : RdV B [] ta (textCells ts)) (hm : ts.length ≤ 1000000) (hN : NumB B) (hv : Inv B H w) :
  Calls Tryz.prog 82 #[.slice ta ts.length tc] w fun e w' => ∃ C oa oc ns ec, B.Le C ∧ e = .returned (.tuple #[.slice oa ns.length oc, vI ec]) ∧ RdV C [] oa (intCells ns) ∧ IntsR ts ns ec ∧ Inv C H w' := by
 refine cW Tryz.func82 rfl Tryz.ntmps82 ?_
 simp only [al]
 refine sK fun _ k1 => rL (uA rfl ?_)
 refine uA rfl (uW k1 ?_)
 refine sK fun _ k2 => rL (uM rfl ?_)
 refine uG (vI (ts.length : Int)) rfl (ex_len0 Tryz.underlying26 rfl rfl) ?_
 refine sl_makeRow (cap := ts.length) tV (wn rfl) rfl rfl rfl itel145 (by unfold maxLen; omega) (by omega) hv (fun b3 w4 hv => ?_)
 refine uA rfl (uW k2 ?_)
 refine sK fun _ k5 => sK fun _ k6 => rL (uM rfl ?_)
 refine uG (vI (ts.length : Int)) rfl (ex_len0 Tryz.underlying26 rfl rfl) (uM rfl ?_)
 refine uW k6 (bB ?_)
 gi_loopw [14, 4] (fun x14 x4 wr => ∃ (i : Nat) (ns : List Int) (ra : Option Addr) (rc : Nat), x14 = vI i ∧ x4 = .slice ra ns.length rc ∧ i ≤ ts.length ∧ ns.length = i ∧ (∀ (j : Nat) t n, ts[j]? = some t → ns[j]? = some n → NumP t n true) ∧ Inv B (Res.row 3 1 (.slice ra ns.length rc) ns.length (intCells ns) :: H) wr) (fun x14 x4 _ => ts.length - (intOf x14).toNat)
 case atStart => exact ⟨0, [], _, _, rfl, rfl, Nat.zero_le _, rfl, fun j t n _ h => by simp at h, hv⟩
 case round =>
  obtain ⟨i, ns, ra, rc, rfl, rfl, hi, hnl, hall, hv⟩ := hrel
  refine sK fun _ k8 => rL ?_
  by_cases hb9 : (i : Int) < (ts.length : Int)
  ·refine uG (.bool true) rfl (ex_lss rfl rfl rfl (qT hb9)) (uW k8 ?_)
   refine sK fun _ k10 => cT rfl (kS ?_)
   refine tK k10 (sK fun _ k11 => ?_)
   refine bB (sK fun _ k12 => ?_)
   obtain ⟨x, hx⟩ : ∃ x, ts[i]? = some x := ⟨_, List.getElem?_eq_getElem (show i < ts.length by omega)⟩
   obtain ⟨bb, bo, had, hrdx⟩ := text_reads hr hx
   subst had
   refine rL (uG (.pointer (some ⟨bb, bo + i, none⟩)) rfl (ex_index rfl rfl rfl (run_idx1 (k := i) Tryz.underlying26 ites26 (by omega))) ?_)
   refine uL _ rfl (run_load1 itna9 (hrdx _ _ _ (Base.Le.refl _) no_res hv 0 _ rfl)) (uA rfl ?_)
   refine uW k12 (sK fun _ k13 => ?_)
   refine rL (uM rfl ?_)
   refine xC itcallable96 rfl ((numParseAny B _ (hN B _ (Base.Le.refl _)).1 (hN B _ (Base.Le.refl _)).2 _ x hv).mono ?_) rfl
   rintro e w14 ⟨n, b, rfl, hnp, hv⟩
   refine ⟨_, rfl, ?_⟩
   cases b
   ·refine uM rfl (uE rfl ?_)
    refine uE rfl (uA rfl ?_)
    refine uA rfl (uW k13 ?_)
    refine sK fun _ k15 => sK fun _ k16 => rL (uM rfl ?_)
    refine uG (.bool true) rfl (ex_not rfl rfl rfl) (uW k16 ?_)
    refine cT rfl (sK fun _ k17 => ?_)
    refine rL (uA rfl ?_)
    refine uA rfl (uW k17 ?_)
    refine rR (tR ?_)
    refine bZ (tR ?_)
    refine tR (bZ ?_)
    refine tR (bodyPost_ret (results_tmp2 rfl _ _ _) rfl ?_)
    obtain rfl : n = 0 := hnp.elim (fun h => absurd h.1 (by decide)) (fun h => h.2.1)
    exact ⟨B, none, 0, [], 41, Base.Le.refl _, rfl, rdV_nil, .inr ⟨rfl, rfl, x, List.mem_of_getElem? hx, hnp⟩, (hv.kp [] 0 1)⟩
   refine uM rfl (uE rfl ?_)
   refine uE rfl (uA rfl ?_)
   refine uA rfl (uW k13 ?_)
   refine sK fun _ k18 => sK fun _ k19 => rL (uM rfl ?_)
   refine uG (.bool false) rfl (ex_not rfl rfl rfl) (uW k19 ?_)
   refine cF rfl (kS ?_)
   refine tK k18 (rL ?_)
   refine uM rfl (uM rfl ?_)
   refine sl_rowOne (v := vI n) tV (wn rfl) rfl rfl hv itel145 rfl (fun b20 w21 hv => ?_)
   simp only [zP, po]
   replace hv := hv.front 1 rfl
   simp only [eS, eZ] at hv
   refine sl_append (news := [vI n]) tV (wn rfl) rfl rfl rfl itel145 hv (ok_full (by omega)) rfl (rd_all (hv.get 1 rfl)) (by intro u hu; simp only [List.mem_cons, List.not_mem_nil, or_false] at hu; rcases hu with rfl <;> rfl) (by unfold maxLen; omega) (by omega) (fun rv22 w25 hv => ?_)
   obtain ⟨ra23, rc24, rfl⟩ := row_slice hv.head
   refine uA rfl (uZ ?_)
   refine bN (tK k11 ?_)
   refine rL (uG (vI ((i + 1 : Nat) : Int)) rfl (ex_add rfl rfl rfl (by rw [i64_in (by omega)]; omega)) ?_)
   refine uM rfl (uZ ?_)
   refine then_normal ?_
   go_roundw
   case rel => exact ⟨i + 1, ns ++ [n], _, _, rfl, by rw [List.length_append, List.length_singleton], by omega, by rw [List.length_append, List.length_singleton, hnl], fun j t' n' ht' hn' => (by
      rcases Nat.lt_or_ge j ns.length with h | h
      ·rw [List.getElem?_append_left h] at hn'; exact hall j t' n' ht' hn'
      have hj := (List.getElem?_eq_some_iff.1 hn').1
      rw [List.length_append, List.length_singleton] at hj
      obtain rfl : j = ns.length := by omega
      rw [List.getElem?_append_right (Nat.le_refl _), Nat.sub_self] at hn'
      rw [hnl, hx] at ht'
      cases ht'; cases hn'; exact hnp), by rw [List.length_append, List.length_singleton, ← int_snoc]; exact (hv.kp [] 1 1)⟩
   case measure => show ts.length - (((i + 1 : Nat) : Int)).toNat < ts.length - ((i : Int)).toNat; omega
  refine uG (.bool false) rfl (ex_lss rfl rfl rfl (qF hb9)) (uW k8 ?_)
  refine sK fun _ k26 => cF rfl (xE ?_)
  refine tX (tX ?_)
  refine bH (tK k5 ?_)
  refine sK fun _ k27 => rL (uM rfl ?_)
  refine uA rfl (uA rfl ?_)
  refine uW k27 (rR ?_)
  refine bodyPost_ret (results_tmp2 rfl _ _ _) rfl ?_
  obtain rfl : i = ts.length := by omega
  obtain ⟨D, hD, hv, hro, hoko, -⟩ := (hv).rowBy
  exact ⟨D, ra, rc, ns, 0, hD, rfl, hro, .inl ⟨rfl, hnl, hall⟩, hv⟩
theorem rtal34 : AL Tryz.prog 34 [vI 0, vS [], vI 0, vN] := fun w => by kernel_rfl
theorem rtfa34_3 : FA Tryz.prog 34 3 3 := fun w b o => by kernel_rfl
theorem rtna32 (w : World) : (isAgg 32).run Tryz.prog w = .ok false w := by kernel_rfl
theorem rtcallable84 : Callable Tryz.prog 84 := cb Tryz.func84 (by kernel_rfl)
theorem rtmk34 : (Tryz.prog.info? 34).map (fun i => (i.zero, i.size, i.bytes)) = some (some (.agg #[vI 0, vS [], vI 0, vN]), 4, 56) := by kernel_rfl
theorem rtel32 : Elem Tryz.prog 32 34 (.agg #[vI 0, vS [], vI 0, vN]) 4 56 := elem_of Tryz.underlying32 rtmk34 (by rfl) (by decide)
theorem rtsz32 : (Tryz.prog.info? 32).map (·.size) = some 1 := by kernel_rfl
theorem respStrsR (B : Base) (H : List Res) (w : World) (sa : Option Addr) (sc : Nat) (ss : List (List UInt8)) (hr : RdV B [] sa (textCells ss)) (hm : ss.length ≤ 1000000) (hv : Inv B H w) :
  Calls Tryz.prog 59 #[.slice sa ss.length sc] w fun e w' => ∃ C da dc, B.Le C ∧ e = .returned (.agg #[vI 5, vS (([] : List UInt8)), vI 0, .slice da ss.length dc]) ∧ SliceOk da ss.length dc ∧ RdV C [] da (strsCells ss) ∧ Inv C H w' := by
 refine cW Tryz.func59 rfl Tryz.ntmps59 ?_
 simp only [al]
 refine sK fun _ k1 => rL (sl_alloc tV (wn rfl) rfl hv rtal34 (fun b2 w3 hv => ?_))
 refine uW k1 (sK fun _ k4 => ?_)
 refine rL (uG (.agg #[vI 5, vS [], vI 0, vN]) rfl (ex_buildN (vs := #[(0, vI 5)]) rfl (by simp only [List.map_toArray, List.map_cons, List.map_nil]; rfl) (by kernel_rfl)) ?_)
 refine sl_alloc tV (wn rfl) rfl hv rtal34 (fun b5 w6 hv => ?_)
 refine xS 0 rfl hv rssz34 rfl (by exact ⟨rfl, rfl, rfl, rfl, trivial⟩) (fun w7 hv => ?_)
 simp only [zO, sp] at hv
 refine uW k4 (sK fun _ k8 => ?_)
 refine sK fun _ k9 => rL (uM rfl ?_)
 refine uG (vI (ss.length : Int)) rfl (ex_len0 Tryz.underlying26 rfl rfl) (uM rfl ?_)
 refine uW k9 (bB ?_)
 gi_loopw [9] (fun x9 wr => ∃ (i : Nat) (ra : Option Addr) (rc : Nat), x9 = vI i ∧ i ≤ ss.length ∧ Inv B (Res.row 34 4 (.slice ra i rc) i (strsCells (ss.take i)) :: Res.cell b5 [vI 5, vS [], vI 0, .slice ra i rc] 34 :: Res.cell b2 [vI 0, vS [], vI 0, vN] 34 :: H) wr) (fun x9 _ => ss.length - (intOf x9).toNat)
 case atStart => exact ⟨0, none, 0, rfl, Nat.zero_le _, (((hv.front 1 rfl).front 1 rfl)).rowNil 34 4⟩
 case round =>
  obtain ⟨i, ra, rc, rfl, hi, hv⟩ := hrel
  refine sK fun _ k11 => rL ?_
  by_cases hb12 : (i : Int) < (ss.length : Int)
  ·refine uG (.bool true) rfl (ex_lss rfl rfl rfl (qT hb12)) (uW k11 ?_)
   refine sK fun _ k13 => cT rfl (kS ?_)
   refine tK k13 (sK fun _ k14 => ?_)
   refine bB (sK fun _ k15 => ?_)
   obtain ⟨x, hx⟩ : ∃ x, ss[i]? = some x := ⟨_, List.getElem?_eq_getElem (show i < ss.length by omega)⟩
   obtain ⟨bb, bo, had, hrdx⟩ := text_reads hr hx
   subst had
   refine rL (uG (.pointer (some ⟨bb, bo + i, none⟩)) rfl (ex_index rfl rfl rfl (run_idx1 (k := i) Tryz.underlying26 ites26 (by omega))) ?_)
   refine uL _ rfl (run_load1 itna9 (hrdx _ _ _ (Base.Le.refl _) no_res hv 0 _ rfl)) (uA rfl ?_)
   refine uW k15 (rW mixed [3, 4, 5, 7] [0,1,2,3,4,5,6,7] 22 rfl (by kernel_rfl) hv ?_)
   simp only [qm, opAt]
   refine dG (.pointer (some ⟨b5, 3, none⟩)) rfl (ex_field rfl rfl (rtfa34_3 _ _ _)) (dF _ rfl (fun hv => ex_load rfl rfl (run_load1 rtna32 (hv.load 1 3 rfl rfl))) fun f16 hf16 => ?_)
   refine dM (vS x) rfl ?_
   simp only [zP, po]
   refine dS rfl fun w17 hv => mC rtcallable84 rfl ((respStr B _ _ x hv).mono ?_) rfl
   rintro e w18 ⟨rfl, hv⟩
   refine ⟨_, rfl, dV hv (fC (fun ww hv => hf16 ww (ex_load rfl rfl (run_load1 rtna32 (hv.load 1 3 rfl rfl)))) fN) ?_⟩
   refine dS rfl fun w19 hv => mem_rowAgg (L := [vI 3, vS x, vI 0, vN]) rfl rfl rfl hv rtel32 rfl (by decide) (fun b20 w21 hv => ?_)
   refine dV hv (fC (fun ww hv => hf16 ww (ex_load rfl rfl (run_load1 rtna32 (hv.load 2 3 rfl rfl)))) fN) (dS rfl fun w22 hv => ?_)
   replace hv := hv.front 1 rfl
   simp only [eS, eZ] at hv
   refine mem_append (news := [vI 3, vS x, vI 0, vN]) rfl rfl rfl rfl rtel32 hv (ok_full (by omega)) rfl (rd_all (hv.get 1 rfl)) (by intro u hu; simp only [List.mem_cons, List.not_mem_nil, or_false] at hu; rcases hu with rfl | rfl | rfl | rfl <;> rfl) (by unfold maxLen; omega) (by omega) (fun rv23 w26 hv => ?_)
   obtain ⟨ra24, rc25, rfl⟩ := row_slice hv.head
   refine dV hv (fK rfl fN) ?_
   simp only [zP, po]
   refine dG (.pointer (some ⟨b5, 3, none⟩)) rfl (ex_field rfl rfl (rtfa34_3 _ _ _)) (dS rfl fun w27 hv => ?_)
   refine mV 2 (.slice ra24 (i + 1) rc25) rfl hv rtsz32 rfl rfl (fun w28 hv => ?_)
   simp only [zS, zO, sp] at hv
   refine dV hv (fK rfl fN) (dE fun w29 hv => ?_)
   simp only [zP, po]
   refine bN (tK k14 ?_)
   refine rL (uG (vI ((i + 1 : Nat) : Int)) rfl (ex_add rfl rfl rfl (by rw [i64_in (by omega)]; omega)) ?_)
   refine uM rfl (uZ ?_)
   refine then_normal ?_
   go_roundw
   case rel => exact ⟨i + 1, _, _, rfl, by omega, by rw [strsCells_next hx]; exact (hv.kp [3, 3, 2] 3 1)⟩
   case measure => show ss.length - (((i + 1 : Nat) : Int)).toNat < ss.length - ((i : Int)).toNat; omega
  refine uG (.bool false) rfl (ex_lss rfl rfl rfl (qF hb12)) (uW k11 ?_)
  refine sK fun _ k30 => cF rfl (xE ?_)
  refine tX (tX ?_)
  refine bH (tK k8 ?_)
  refine sK fun _ k31 => rL (uL (.agg #[vI 5, vS [], vI 0, .slice ra i rc]) rfl (lM 1 rswd34 hv rfl rfl rfl rfl) ?_)
  refine xS 2 rfl hv rssz34 rfl (by exact ⟨rfl, rfl, rfl, rfl, trivial⟩) (fun w32 hv => ?_)
  simp only [zS, zO, sp] at hv
  refine uW k31 (rR ?_)
  refine bC 2 rswd34 hv rfl rfl rfl rfl ?_
  obtain rfl : i = ss.length := by omega
  obtain ⟨C, hC, hv, hro, hoko, -⟩ := ((hv.sub (sC _ (sD _ (sD _ (sR _)))))).rowBy
  rw [List.take_length] at hro
  exact ⟨C, ra, rc, hC, rfl, hoko, hro, hv⟩
end Go.Proofs.YtngpmolbphinnaaGreatDoor
namespace Go.Pm
open Go.RowKit
section
variable {P : Program} {ops : Array Oper} {mem perm pre is : List Nat} {R : Act → World → Prop} {Q : Exit → Act → World → Prop} {a0 a aS : Act} {listed : Array Bool} {w w' : World} {val : Nat → Value} {Fl : List (Nat × (World → Prop))} {J : World → Prop} {i : Nat} {o : Oper} {K : Act → World → Prop}
end
section
variable {n : Nat} {P : Program} {ops : Array Oper} {Q : Exit → Act → World → Prop} {a0 : Act} {w0 : World} {B : Base} {H : List Res}
end
section
variable {P : Program} {ops : Array Oper} {mem : List Nat} {R : Act → World → Prop} {l1 l2 : List (Nat × Oper)} {i : Nat} {o : Oper} {is : List (Nat × Oper)} {Fl : List (Nat × (World → Prop))} {J : World → Prop} {a : Act} {v : Value} {x y z : Operand}
end
end Go.Pm
namespace Go.Proofs
open Go.Shelf
def Tryz.laysKeys_ren : Go.Shelf.Ren := ⟨fun | 7 => 220 | 10 => 227 | n => n, fun | 23 => 168 | 26 => 9 | 3 => 50 | 28 => 302 | 0 => 0 | 27 => 301 | 33 => 141 | 4 => 4 | n => n, fun | n => n⟩
theorem Tryz.laysKeys : Go.Proofs.SlLaysZ.n7 Tryz.prog Tryz.laysKeys_ren := {
 mixed := by kernel_rfl
 f7 := ⟨Tryz.f220.name, by decide, Tryz.func220.trans (congrArg some (by kernel_rfl))⟩
 f10 := ⟨Tryz.f227.name, by decide, Tryz.func227.trans (congrArg some (by kernel_rfl))⟩
 t0 := Tryz.underlying0
 a0 := Tryz.isAgg0
 z0 := Tryz.sizeOf0
 v0 := Tryz.zeroValue0
 t4 := Tryz.underlying4
 a4 := Tryz.isAgg4
 z4 := Tryz.sizeOf4
 v4 := Tryz.zeroValue4
 t23 := Tryz.underlying168
 a23 := Tryz.isAgg168
 z23 := Tryz.sizeOf168
 v23 := Tryz.zeroValue168
 t26 := Tryz.underlying9
 a26 := Tryz.isAgg9
 z26 := Tryz.sizeOf9
 v26 := Tryz.zeroValue9
 t27 := Tryz.underlying301
 a27 := Tryz.isAgg301
 z27 := Tryz.sizeOf301
 v27 := Tryz.zeroValue301
 t28 := Tryz.underlying302
 a28 := Tryz.isAgg302
 z28 := Tryz.sizeOf302
 v28 := Tryz.zeroValue302
 t33 := Tryz.underlying141
 a33 := Tryz.isAgg141
 z33 := Tryz.sizeOf141
 v33 := Tryz.zeroValue141 }
def Tryz.laysKeys1_ren : Go.Shelf.Ren := ⟨fun | 10 => 227 | n => n, fun | 33 => 141 | 23 => 168 | 0 => 0 | 4 => 4 | 26 => 9 | 3 => 50 | n => n, fun | n => n⟩
theorem Tryz.laysKeys1 : Go.Proofs.SlLaysZ.n10 Tryz.prog Tryz.laysKeys1_ren := {
 mixed := by kernel_rfl
 f10 := ⟨Tryz.f227.name, by decide, Tryz.func227.trans (congrArg some (by kernel_rfl))⟩
 t0 := Tryz.underlying0
 a0 := Tryz.isAgg0
 z0 := Tryz.sizeOf0
 v0 := Tryz.zeroValue0
 t4 := Tryz.underlying4
 a4 := Tryz.isAgg4
 z4 := Tryz.sizeOf4
 v4 := Tryz.zeroValue4
 t23 := Tryz.underlying168
 a23 := Tryz.isAgg168
 z23 := Tryz.sizeOf168
 v23 := Tryz.zeroValue168
 t26 := Tryz.underlying9
 a26 := Tryz.isAgg9
 z26 := Tryz.sizeOf9
 v26 := Tryz.zeroValue9
 t33 := Tryz.underlying141
 a33 := Tryz.isAgg141
 z33 := Tryz.sizeOf141
 v33 := Tryz.zeroValue141 }
def Tryz.laysApp_ren : Go.Shelf.Ren := ⟨fun | 11 => 219 | n => n, fun | 24 => 26 | 26 => 9 | 28 => 302 | 0 => 0 | 33 => 141 | 4 => 4 | n => n, fun | n => n⟩
theorem Tryz.laysApp : Go.Proofs.SlLaysZ.n11 Tryz.prog Tryz.laysApp_ren := {
 mixed := by kernel_rfl
 f11 := ⟨Tryz.f219.name, by decide, Tryz.func219.trans (congrArg some (by kernel_rfl))⟩
 t0 := Tryz.underlying0
 a0 := Tryz.isAgg0
 z0 := Tryz.sizeOf0
 v0 := Tryz.zeroValue0
 t24 := Tryz.underlying26
 a24 := Tryz.isAgg26
 z24 := Tryz.sizeOf26
 v24 := Tryz.zeroValue26
 t26 := Tryz.underlying9
 a26 := Tryz.isAgg9
 z26 := Tryz.sizeOf9
 v26 := Tryz.zeroValue9
 t28 := Tryz.underlying302
 a28 := Tryz.isAgg302
 z28 := Tryz.sizeOf302
 v28 := Tryz.zeroValue302
 i26 := by kernel_rfl }
def Tryz.laysSort_ren : Go.Shelf.Ren := ⟨fun | 190 => 103 | 125 => 116 | 258 => 115 | 128 => 139 | 129 => 140 | 302 => 130 | 303 => 131 | 304 => 132 | 305 => 133 | 306 => 134 | 307 => 135 | 308 => 136 | 309 => 137 | 310 => 138 | 333 => 159 | 329 => 160 | 330 => 161 | 334 => 162 | 335 => 163 | 336 => 164 | 344 => 175 | n => n, fun | 31 => 26 | 9 => 9 | 3 => 3 | 46 => 209 | 0 => 0 | 51 => 231 | 53 => 110 | 4 => 4 | 183 => 225 | 182 => 224 | 131 => 148 | 5 => 5 | 218 => 246 | 222 => 250 | 228 => 258 | 229 => 259 | n => n, fun | n => n⟩
theorem Tryz.laysSort : Go.Proofs.Lays.n190 Tryz.prog Tryz.laysSort_ren := {
 mixed := by kernel_rfl
 f125 := Tryz.func116.trans (congrArg some (by kernel_rfl))
 f128 := Tryz.func139.trans (congrArg some (by kernel_rfl))
 f129 := Tryz.func140.trans (congrArg some (by kernel_rfl))
 f190 := Tryz.func103.trans (congrArg some (by kernel_rfl))
 f258 := Tryz.func115.trans (congrArg some (by kernel_rfl))
 f302 := Tryz.func130.trans (congrArg some (by kernel_rfl))
 f303 := Tryz.func131.trans (congrArg some (by kernel_rfl))
 f304 := Tryz.func132.trans (congrArg some (by kernel_rfl))
 f305 := Tryz.func133.trans (congrArg some (by kernel_rfl))
 f306 := Tryz.func134.trans (congrArg some (by kernel_rfl))
 f307 := Tryz.func135.trans (congrArg some (by kernel_rfl))
 f308 := Tryz.func136.trans (congrArg some (by kernel_rfl))
 f309 := Tryz.func137.trans (congrArg some (by kernel_rfl))
 f310 := Tryz.func138.trans (congrArg some (by kernel_rfl))
 f329 := Tryz.func160.trans (congrArg some (by kernel_rfl))
 f330 := Tryz.func161.trans (congrArg some (by kernel_rfl))
 f333 := Tryz.func159.trans (congrArg some (by kernel_rfl))
 f334 := Tryz.func162.trans (congrArg some (by kernel_rfl))
 f335 := Tryz.func163.trans (congrArg some (by kernel_rfl))
 f336 := Tryz.func164.trans (congrArg some (by kernel_rfl))
 f344 := Tryz.func175.trans (congrArg some (by kernel_rfl))
 t0 := Tryz.underlying0
 a0 := Tryz.isAgg0
 z0 := Tryz.sizeOf0
 v0 := Tryz.zeroValue0
 t3 := Tryz.underlying3
 a3 := Tryz.isAgg3
 z3 := Tryz.sizeOf3
 v3 := Tryz.zeroValue3
 t4 := Tryz.underlying4
 a4 := Tryz.isAgg4
 z4 := Tryz.sizeOf4
 v4 := Tryz.zeroValue4
 t5 := Tryz.underlying5
 a5 := Tryz.isAgg5
 z5 := Tryz.sizeOf5
 v5 := Tryz.zeroValue5
 t9 := Tryz.underlying9
 a9 := Tryz.isAgg9
 z9 := Tryz.sizeOf9
 v9 := Tryz.zeroValue9
 t31 := Tryz.underlying26
 a31 := Tryz.isAgg26
 z31 := Tryz.sizeOf26
 v31 := Tryz.zeroValue26
 t46 := Tryz.underlying209
 a46 := Tryz.isAgg209
 z46 := Tryz.sizeOf209
 v46 := Tryz.zeroValue209
 t51 := Tryz.underlying231
 a51 := Tryz.isAgg231
 z51 := Tryz.sizeOf231
 v51 := Tryz.zeroValue231
 t53 := Tryz.underlying110
 a53 := Tryz.isAgg110
 z53 := Tryz.sizeOf110
 v53 := Tryz.zeroValue110
 t131 := Tryz.underlying148
 a131 := Tryz.isAgg148
 z131 := Tryz.sizeOf148
 v131 := Tryz.zeroValue148
 t182 := Tryz.underlying224
 a182 := Tryz.isAgg224
 z182 := Tryz.sizeOf224
 v182 := Tryz.zeroValue224
 t183 := Tryz.underlying225
 a183 := Tryz.isAgg225
 z183 := Tryz.sizeOf225
 v183 := Tryz.zeroValue225
 t218 := Tryz.underlying246
 a218 := Tryz.isAgg246
 z218 := Tryz.sizeOf246
 v218 := Tryz.zeroValue246
 t222 := Tryz.underlying250
 a222 := Tryz.isAgg250
 z222 := Tryz.sizeOf250
 v222 := Tryz.zeroValue250
 t228 := Tryz.underlying258
 a228 := Tryz.isAgg258
 z228 := Tryz.sizeOf258
 v228 := Tryz.zeroValue258
 t229 := Tryz.underlying259
 a229 := Tryz.isAgg259
 z229 := Tryz.sizeOf259
 v229 := Tryz.zeroValue259 }
end Go.Proofs
namespace Go.Proofs.YtngpmolbphinnaaGreatDoor
open Go.RowKit Go.Pm Go.Sort Go.Shelf
abbrev keyT : TypeId := 9
theorem mapKeys (B : Base) (H : List Res) (w : World) (mb : Option Nat) (hv : Pm.Inv B H w) : Calls Tryz.prog 220 #[.map mb] w fun e w' => ∃ b, e = .returned (.func (.func 227) #[] #[.pointer (some ⟨b, 0, none⟩)]) ∧ Pm.Inv B (Res.cell b [.map mb] 168 :: H) w' := by
 have h := AnyZ.keys_in Tryz.laysKeys Fence.wide 5 trivial rfl mb w
 refine (callsIn_wide (n := 5)).1 (h.mono ?_)
 rintro e w' ⟨rfl, rfl⟩
 exact ⟨_, rfl, hv.alloc _ _⟩
abbrev RN (_ : Value) : Option (DataW Unit × List MemPlace) := some (.nil, [])
theorem rd_key (k : List UInt8) (hk : k.length ≤ maxLen) (v : Value) (n : Nat) : WideElems.rd Tryz.prog keyT RN { key := strV k, val := v, born := n } = some (.string k, .nil) := by
 have h : keyOf Tryz.prog keyT (strV k) = some (.string k) := by
  have h1 := WideMaps.keyOf_string_mk (P := Tryz.prog) (k := keyT) Tryz.underlying9 (s := ⟨k.toArray⟩) (by show k.toArray.size ≤ maxLen; simpa using hk)
  simpa using h1
 simp [WideElems.rd, h, RN]
theorem vmap_owns {w : World} {b : Nat} {es : List (List UInt8 × Value)} (h : (Res.vmap b es).holds w) (hk : ∀ x ∈ es, x.1.length ≤ maxLen) (hm : es.length ≤ maxLen) :
  ∃ D : DataW Unit, w.ownsMap Tryz.prog keyT RN b es.length D ∧ (strKeys D).Perm (es.map (·.1)) := by
 obtain ⟨E, clock, h1, h2, h3⟩ := h
 have hl : E.size = es.length := by have := congrArg List.length h3; simpa using this
 have hrd : ∀ x ∈ E.toList, ∃ k, (∃ v, (k, v) ∈ es) ∧ x.key = strV k ∧ WideElems.rd Tryz.prog keyT RN x = some (.string k, .nil) := by
  intro x hx
  obtain ⟨j, hj⟩ := List.mem_iff_getElem?.1 hx
  have h9 := congrArg (fun l => l[j]?) h3
  simp only [List.getElem?_map, hj, Option.map_some] at h9
  cases hx2 : es[j]? with
  | none => rw [hx2] at h9; simp at h9
  | some y =>
   rw [hx2] at h9
   simp only [Option.map_some, kv, Option.some.injEq, Prod.mk.injEq] at h9
   have hy := List.mem_of_getElem? hx2
   obtain ⟨xk, xv, xb⟩ := x
   simp only at h9
   obtain ⟨rfl, rfl⟩ := h9
   exact ⟨y.1, ⟨y.2, hy⟩, rfl, rd_key y.1 (hk y hy) _ _⟩
 refine ⟨_, ⟨E, clock, h1, ⟨by omega, h2, fun x hx => by obtain ⟨k, -, -, h⟩ := hrd x hx; exact ⟨_, h⟩⟩, by omega, rfl⟩, ?_⟩
 have hp : (strKeys (DataW.map ((E.toList.map (WideElems.rg Tryz.prog keyT RN)).foldr DataW.insert []))).Perm ((E.toList.map (WideElems.rg Tryz.prog keyT RN)).map fun p => strOf p.1) := (WideShapes.sorted_perm _).map _
 refine hp.trans (List.Perm.of_eq ?_)
 rw [List.map_map]
 have h4 : E.toList.map (fun e => e.key) = es.map (fun x => strV x.1) := by
  have := congrArg (List.map Prod.fst) h3
  simpa [List.map_map, Function.comp_def, kv] using this
 have h5 : ∀ x ∈ E.toList, strV (((fun p : Lit × DataW Unit => strOf p.1) ∘ WideElems.rg Tryz.prog keyT RN) x) = x.key := by
  intro x hx
  obtain ⟨k, -, hk1, h⟩ := hrd x hx
  simp [Function.comp, WideElems.rg, h, hk1, strOf]
 have h6 : (E.toList.map ((fun p : Lit × DataW Unit => strOf p.1) ∘ WideElems.rg Tryz.prog keyT RN)).map strV = (es.map (·.1)).map strV := by
  rw [List.map_map, List.map_map]
  have : E.toList.map (strV ∘ ((fun p : Lit × DataW Unit => strOf p.1) ∘ WideElems.rg Tryz.prog keyT RN)) = E.toList.map (fun e => e.key) := List.map_congr_left fun x hx => h5 x hx
  rw [this, h4]; rfl
 exact (List.map_inj_right (fun a b e => strV_inj e)).1 h6
theorem row_new {B : Base} {H : List Res} {w w' : World} {e : TypeId} {size n : Nat} {v : Value} {xs : List Value} (hv : Pm.Inv B H w) (h : w'.ownsRow w.heap.size e size v n xs) (hb : Below w.heap.size w w') : Pm.Inv B (Res.row e size v n xs :: H) w' := by
 have h0 : w'.ownsRow 0 e size v n xs := ⟨h.1, h.2.imp id fun ⟨g, cap, cur, h1, _, h3⟩ => ⟨g, cap, cur, h1, Nat.zero_le _, h3⟩⟩
 refine hv.new hb (Res.row e size v n xs) h0 (fun b hb9 => ?_) ?_
 ·rcases h.2 with ⟨rfl, -⟩ | ⟨g, cap, cur, rfl, h2, h3, -⟩
  ·simp [Value.ownBlock] at hb9
  simp [Value.ownBlock] at hb9
  subst hb9
  exact ⟨h2, (Array.getElem?_eq_some_iff.1 h3).1⟩
 show v.ownBlock.toList.Nodup
 cases v.ownBlock with
 | none => exact List.Pairwise.nil
 | some b => simp
theorem appendKeys (B : Base) (H : List Res) (w : World) (b wb : Nat) (es : List (List UInt8 × Value)) (hk : ∀ x ∈ es, x.1.length ≤ maxLen) (hm : es.length ≤ 1000000) (hv : Pm.Inv B (Res.cell b [.map (some wb)] 168 :: Res.vmap wb es :: H) w) :
  Calls Tryz.prog 219 #[.slice none 0 0, .func (.func 227) #[] #[.pointer (some ⟨b, 0, none⟩)]] w fun e w' => ∃ v ss, e = .returned v ∧ ss.Perm (es.map (·.1)) ∧ Pm.Inv B (Res.row keyT 1 v ss.length (textCells ss) :: Res.cell b [.map (some wb)] 168 :: Res.vmap wb es :: H) w' := by
 obtain ⟨D, hown, hperm⟩ := vmap_owns (hv.get 1 rfl) hk (by unfold maxLen; omega)
 have hsz := hown.size_le
 have hg := AnyZ.keys_gives Tryz.laysKeys1 Fence.wide 4 trivial rfl (by omega) b wb es.length D w (hv.lt _ (List.mem_cons_self) b (by simp)) (hv.load 0 0 rfl rfl) hown
 have he : ∀ args w, (callFunc 227 args).run Tryz.prog w = .ok (.enter 227 args) w := Tryz.laysKeys1.f10.enters rfl
 have h := AnyZ.appendSeq_in Tryz.laysApp Fence.wide 5 trivial rfl (by omega) 227 #[.pointer (some ⟨b, 0, none⟩)] trivial he _ (Maps.size D) (by unfold maxLen; omega) (by omega) w hg
 refine (callsIn_wide (n := 5)).1 (h.mono ?_)
 rintro e w' ⟨v, ss, rfl, hS, hrow, -, hb⟩
 exact ⟨v, ss, rfl, hS.trans hperm, row_new hv hrow hb⟩
theorem sortTexts (B : Base) (H : List Res) (w : World) (v : Value) (l : List (List UInt8)) (hm : l.length ≤ 1000000) (hv : Pm.Inv B (Res.row keyT 1 v l.length (textCells l) :: H) w) :
  Calls Tryz.prog 103 #[v] w fun e w' => e = .returned (.tuple #[]) ∧ Pm.Inv B (Res.row keyT 1 v l.length (textCells (l.mergeSort leB)) :: H) w' := by
 rcases (hv.head : w.ownsRow 0 keyT 1 v l.length (textCells l)).2 with ⟨rfl, hz⟩ | ⟨g, cap, cur, rfl, h0, hgb, r1, r2, r3, r4⟩
 ·have hl : l = [] := List.eq_nil_of_length_eq_zero hz
  subst hl
  refine (Any.slices_Sort_string_none Tryz.laysSort none 0 w).mono ?_
  rintro e w' ⟨rfl, rfl⟩
  exact ⟨rfl, by simpa using hv⟩
 have hH : Holds encStr w g 0 l.toArray := holds_of_block hgb (by rw [Nat.mul_one] at r4; exact r4)
 refine (Any.slices_Sort_string Tryz.laysSort g 0 cap l w hH (Array.getElem?_eq_some_iff.1 hgb).1 (by omega)).mono ?_
 rintro e w' ⟨rfl, n, os, rfl⟩
 have hgr := grownBy_sorted (w := w) (g := g) (n := n) (os := os) (l.mergeSort leB).toArray
 have hr := ownsRow_sorted (n := n) (os := os) (ss := l) (ts := l.mergeSort leB) (by simp) h0 hgb r1 r2 r3
 refine ⟨rfl, hv.upd _ ⟨hgr.os, hgr.tape, hgr.output, hgr.size, fun k hk hn => hgr.block k hk (fun e => hn (by cases e; simp [Value.ownBlock]))⟩ hr (fun b hb => .inl hb) (fun b hb => Nat.lt_of_lt_of_le (hv.headLt b hb) hgr.size) (by simp [Value.ownBlock])⟩
end Go.Proofs.YtngpmolbphinnaaGreatDoor
namespace Go.Pm
open Go.RowKit
section
variable {kept mid l : List (List UInt8)} {j : Nat} {x g : List UInt8} {p : List UInt8 → Bool}
theorem textCells_app (a b : List (List UInt8)) : textCells (a ++ b) = textCells a ++ textCells b := by simp [textCells]
theorem textCells_get (h : l[j]? = some x) : (textCells l)[j]? = some (strV x) := by rw [textCells, List.getElem?_map, h]; rfl
theorem textCells_set (l : List (List UInt8)) (i : Nat) (x : List UInt8) : (textCells l).set i (strV x) = textCells (l.set i x) := by simp [textCells, List.map_set]
theorem textCells_n (l : List (List UInt8)) : (textCells l).length = l.length := by simp [textCells]
theorem df_get (h : l[j]? = some x) (hl : kept.length + mid.length = j) : (textCells (kept ++ mid ++ l.drop j))[j]? = some (strV x) := by
 refine textCells_get ?_
 rw [List.getElem?_append_right (by rw [List.length_append]; omega), List.length_append, hl, Nat.sub_self, List.getElem?_drop]
 exact h
theorem df_drop (h : l[j]? = some x) : l.drop j = x :: l.drop (j + 1) := by
 obtain ⟨hj, rfl⟩ := List.getElem?_eq_some_iff.1 h
 exact List.drop_eq_getElem_cons hj
theorem df_set (h : l[j]? = some x) : (textCells (kept ++ (g :: mid) ++ l.drop j)).set kept.length (strV x) = textCells (kept ++ [x] ++ (mid ++ [x]) ++ l.drop (j + 1)) := by
 rw [textCells_set, df_drop h, List.append_assoc, List.set_append_right _ _ (Nat.le_refl _), Nat.sub_self]
 simp
theorem df_skip (h : l[j]? = some x) : kept ++ mid ++ l.drop j = kept ++ (mid ++ [x]) ++ l.drop (j + 1) := by
 rw [df_drop h]; simp
theorem df_filter (h : l[j]? = some x) : (l.take (j + 1)).filter p = (l.take j).filter p ++ if p x then [x] else [] := by
 rw [take_next h, List.filter_append]
 cases hp : p x <;> simp [hp]
theorem df_start (h : l[j]? = some x) (hx : p x = true) (hn : ∀ y ∈ l.take j, p y = false) : (l.take (j + 1)).filter (fun y => !p y) = l.take j ∧ l = l.take j ++ [x] ++ l.drop (j + 1) := by
 constructor
 ·rw [df_filter h, hx, List.filter_eq_self.2 (fun y hy => by rw [hn y hy]; rfl)]
  simp
 conv => lhs; rw [← List.take_append_drop j l, df_drop h]
 simp
end
end Go.Pm
namespace Go.Proofs.YtngpmolbphinnaaGreatDoor
open Go.RowKit Go.Pm
theorem s24es26 (w : World) : (sizeOf (Tryz.prog.elem 26)).run Tryz.prog w = .ok 1 w := by kernel_rfl
theorem s24na9 (w : World) : (isAgg 9).run Tryz.prog w = .ok false w := by kernel_rfl
theorem indexFuncO (B : Base) (H : List Res) (w : World) (f : FuncId) (cb : Array Value) (ra : Option Addr) (rc : Nat) (l : List (List UInt8)) (pr : List UInt8 → Bool) (hm : l.length ≤ 1000000) (hcal : Callable Tryz.prog f) (hf : ∀ (x : List UInt8) (r : Res) (w : World), Inv B (r :: H) w → Calls Tryz.prog f (#[vS x] ++ cb) w fun e w' => e = .returned (.bool (pr x)) ∧ Inv B (r :: H) w') (hv : Inv B (Res.row 9 1 (.slice ra l.length rc) l.length (textCells l) :: H) w) :
  Calls Tryz.prog 206 #[.slice ra l.length rc, .func (.func f) #[] cb] w fun e w' => ∃ r : Int, e = .returned (vI r) ∧ ((r = -1 ∧ ∀ y ∈ l, pr y = false) ∨ ∃ (i : Nat) (x : List UInt8), r = (i : Int) ∧ l[i]? = some x ∧ pr x = true ∧ ∀ y ∈ l.take i, pr y = false) ∧ Inv B (Res.row 9 1 (.slice ra l.length rc) l.length (textCells l) :: H) w' := by
 refine cW Tryz.func206 rfl Tryz.ntmps206 ?_
 simp only [al]
 refine sK fun _ k1 => rL (uA rfl ?_)
 refine uW k1 (sK fun _ k2 => ?_)
 refine sK fun _ k3 => rL (uM rfl ?_)
 refine uG (vI (l.length : Int)) rfl (ex_len0 Tryz.underlying26 rfl rfl) (uM rfl ?_)
 refine uW k3 (bB ?_)
 gi_loopw [8] (fun x8 wr => ∃ (i : Nat), x8 = vI i ∧ i ≤ l.length ∧ (∀ j x, j < i → l[j]? = some x → pr x = false) ∧ Inv B (Res.row 9 1 (.slice ra l.length rc) l.length (textCells l) :: H) wr) (fun x8 _ => l.length - (intOf x8).toNat)
 case atStart => exact ⟨0, rfl, Nat.zero_le _, fun j x h => by omega, hv⟩
 case round =>
  obtain ⟨i, rfl, hi, hno, hv⟩ := hrel
  refine sK fun _ k5 => rL ?_
  by_cases hb6 : (i : Int) < (l.length : Int)
  ·refine uG (.bool true) rfl (ex_lss rfl rfl rfl (qT hb6)) (uW k5 ?_)
   refine sK fun _ k7 => cT rfl (kS ?_)
   refine tK k7 (sK fun _ k8 => ?_)
   refine bB (sK fun _ k9 => ?_)
   refine rL (uM rfl ?_)
   refine uA rfl (uW k9 ?_)
   refine sK fun _ k10 => ?_
   obtain ⟨x, hx⟩ : ∃ x, l[i]? = some x := ⟨_, List.getElem?_eq_getElem (show i < l.length by omega)⟩
   obtain ⟨b, rfl⟩ := row_some hv.head (by omega)
   refine rL (uM rfl ?_)
   refine uM rfl (uM rfl ?_)
   refine uG (.pointer (some ⟨b, 0 + i, none⟩)) rfl (ex_index rfl rfl rfl (run_idx1 (k := i) Tryz.underlying26 s24es26 (by omega))) ?_
   refine uL _ rfl (run_load1 s24na9 (row_load (hv.get 0 rfl) (textCells_get hx))) ?_
   refine wpi_callV hcal tV wideC rfl (wn rfl) rfl rfl (args := #[vS x]) (by simp only [List.map_toArray, List.map_cons, List.map_nil]; rfl) ((hf x _ _ hv).mono ?_)
   rintro e w11 ⟨rfl, hv⟩
   refine ⟨_, rfl, uW k10 ?_⟩
   refine wpIn_cond_split (t := pr x) rfl (fun hc12 => ?_) (fun hc12 => ?_)
   ·refine sK fun _ k13 => rL (uM rfl ?_)
    refine uA rfl (uW k13 ?_)
    refine rR (bZ ?_)
    refine tR (tR ?_)
    refine bZ (tR ?_)
    refine bR rfl rfl (⟨_, rfl, .inr ⟨i, x, rfl, hx, by simpa using hc12, fun y hy => (by obtain ⟨j, hj⟩ := List.mem_iff_getElem?.1 hy; have h9 := (List.getElem?_eq_some_iff.1 hj).1; rw [List.length_take] at h9; rw [List.getElem?_take_of_lt (by omega)] at hj; exact hno j y (by omega) hj)⟩, hv⟩)
   refine kS (bN ?_)
   refine tK k8 (rL ?_)
   refine uG (vI ((i + 1 : Nat) : Int)) rfl (ex_add rfl rfl rfl (by rw [i64_in (by omega)]; omega)) (uM rfl ?_)
   refine uZ (then_normal ?_)
   go_roundw
   case rel => exact ⟨i + 1, rfl, by omega, fun j x' hj hx' => (by
      rcases Nat.lt_or_ge j i with h | h
      ·exact hno j x' h hx'
      obtain rfl : j = i := by omega
      rw [hx] at hx'; cases hx'
      simpa using hc12), hv⟩
   case measure => show l.length - (((i + 1 : Nat) : Int)).toNat < l.length - ((i : Int)).toNat; omega
  refine uG (.bool false) rfl (ex_lss rfl rfl rfl (qF hb6)) (uW k5 ?_)
  refine sK fun _ k14 => cF rfl (xE ?_)
  refine tX (tX ?_)
  refine bH (tK k2 ?_)
  refine sK fun _ k15 => rL (uA rfl ?_)
  refine uW k15 (rR ?_)
  refine bR rfl rfl ?_
  obtain rfl : i = l.length := by omega
  exact ⟨_, rfl, .inl ⟨rfl, fun y hy => (by obtain ⟨j, hj⟩ := List.mem_iff_getElem?.1 hy; exact hno j y (List.getElem?_eq_some_iff.1 hj).1 hj)⟩, hv⟩
theorem s24callable206 : Callable Tryz.prog 206 := cb Tryz.func206 (by kernel_rfl)
theorem s24sz9 : (Tryz.prog.info? 9).map (·.size) = some 1 := by kernel_rfl
theorem s24mk9 : (Tryz.prog.info? 9).map (fun i => (i.zero, i.size, i.bytes)) = some (some (vS []), 1, 16) := by kernel_rfl
theorem s24el26 : Elem Tryz.prog 26 9 (vS []) 1 16 := elem_of Tryz.underlying26 s24mk9 (by rfl) (by decide)
theorem deleteFunc (B : Base) (H : List Res) (w : World) (f : FuncId) (cb : Array Value) (ra : Option Addr) (rc : Nat) (l : List (List UInt8)) (pr : List UInt8 → Bool) (hm : l.length ≤ 1000000) (hcal : Callable Tryz.prog f) (hf : ∀ (x : List UInt8) (r : Res) (w : World), Inv B (r :: H) w → Calls Tryz.prog f (#[vS x] ++ cb) w fun e w' => e = .returned (.bool (pr x)) ∧ Inv B (r :: H) w') (hv : Inv B (Res.row 9 1 (.slice ra l.length rc) l.length (textCells l) :: H) w) :
  Calls Tryz.prog 199 #[.slice ra l.length rc, .func (.func f) #[] cb] w fun e w' => ∃ ra' rc', e = .returned (.slice ra' (l.filter fun y => !pr y).length rc') ∧ Inv B (Res.row 9 1 (.slice ra' (l.filter fun y => !pr y).length rc') (l.filter fun y => !pr y).length (textCells (l.filter fun y => !pr y)) :: H) w' := by
 refine cW Tryz.func199 rfl Tryz.ntmps199 ?_
 simp only [al]
 refine sK fun _ k1 => rL (uA rfl ?_)
 refine uW k1 (sK fun _ k2 => ?_)
 refine rL (uM rfl ?_)
 refine uM rfl ?_
 refine xC s24callable206 rfl ((indexFuncO B H _ f cb ra rc l pr hm hcal hf hv).mono ?_) rfl
 rintro e w3 ⟨r, rfl, hor, hv⟩
 refine ⟨_, rfl, ?_⟩
 rcases hor with ⟨rfl, hno⟩ | ⟨i0, x0, rfl, hx0, hp0, hno⟩
 ·refine uA rfl (uW k2 ?_)
  refine sK fun _ k4 => sK fun _ k5 => rL (uM rfl ?_)
  refine uG (.bool true) rfl (ex_eql rfl rfl rfl (by decide)) (uW k5 ?_)
  refine cT rfl (sK fun _ k6 => ?_)
  refine rL (uM rfl ?_)
  refine uA rfl (uW k6 ?_)
  refine rR (tR ?_)
  refine bR rfl rfl ?_
  have hfl : l.filter (fun y => !pr y) = l := List.filter_eq_self.2 (fun y hy => by rw [hno y hy]; rfl)
  rw [hfl]
  exact ⟨_, _, rfl, hv⟩
 have hi0 : i0 < l.length := (List.getElem?_eq_some_iff.1 hx0).1
 obtain ⟨b, rfl⟩ := row_some hv.head (by omega)
 obtain ⟨hst, hsl⟩ := df_start hx0 hp0 hno
 refine uA rfl (uW k2 ?_)
 refine sK fun _ k7 => sK fun _ k8 => rL (uM rfl ?_)
 refine uG (.bool false) rfl (ex_eql rfl rfl rfl (qF (by omega))) (uW k8 ?_)
 refine cF rfl (kS ?_)
 refine tK k7 (sK fun _ k9 => ?_)
 refine sK fun _ k10 => rL (uM rfl ?_)
 refine uG (vI ((i0 + 1 : Nat) : Int)) rfl (ex_add rfl rfl rfl (by rw [i64_in (by omega)]; omega)) (uA rfl ?_)
 refine uW k10 (bB ?_)
 gi_loopw [5, 6] (fun x5 x6 wr => ∃ (i j : Nat) (kept mid : List (List UInt8)), x5 = vI i ∧ x6 = vI j ∧ j ≤ l.length ∧ kept = (l.take j).filter (fun y => !pr y) ∧ i = kept.length ∧ 0 < mid.length ∧ i + mid.length = j ∧ Inv B (Res.row 9 1 (.slice (some ⟨b, 0, none⟩) l.length rc) l.length (textCells (kept ++ mid ++ l.drop j)) :: H) wr) (fun x5 x6 _ => l.length - (intOf x6).toNat)
 case atStart => exact ⟨i0, i0 + 1, l.take i0, [x0], rfl, rfl, by omega, hst.symm, by rw [List.length_take]; omega, by simp, by simp, by rw [← hsl]; exact hv⟩
 case round =>
  obtain ⟨i, j, kept, mid, rfl, rfl, hj, hkept, hik, hmid, hij, hv⟩ := hrel
  refine sK fun _ k12 => sK fun _ k13 => rL (uM rfl ?_)
  refine uM rfl ?_
  refine uG (vI (l.length : Int)) rfl (ex_len0 Tryz.underlying26 rfl rfl) ?_
  by_cases hb14 : (j : Int) < (l.length : Int)
  ·refine uG (.bool true) rfl (ex_lss rfl rfl rfl (qT hb14)) (uW k13 ?_)
   refine cT rfl (kS ?_)
   refine tK k12 (sK fun _ k15 => ?_)
   refine bB (sK fun _ k16 => ?_)
   obtain ⟨x, hx⟩ : ∃ x, l[j]? = some x := ⟨_, List.getElem?_eq_getElem (show j < l.length by omega)⟩
   refine rL (uM rfl ?_)
   refine uM rfl ?_
   refine uG (.pointer (some ⟨b, 0 + j, none⟩)) rfl (ex_index rfl rfl rfl (run_idx1 (k := j) Tryz.underlying26 s24es26 (by omega))) ?_
   refine uL (vS x) rfl (run_load1 s24na9 (row_load (hv.get 0 rfl) (df_get (kept := kept) (mid := mid) hx (by omega)))) (uA rfl ?_)
   refine uW k16 (sK fun _ k17 => ?_)
   refine rL (uM rfl ?_)
   refine uM rfl ?_
   refine wpi_callV hcal tV wideC rfl (wn rfl) rfl rfl (args := #[vS x]) (by simp only [List.map_toArray, List.map_cons, List.map_nil]; rfl) ((hf x _ _ hv).mono ?_)
   rintro e w18 ⟨rfl, hv⟩
   refine ⟨_, rfl, uG (.bool (!(pr x))) rfl (ex_not rfl rfl rfl) ?_⟩
   refine uW k17 (wpIn_cond_split (t := !(pr x)) rfl (fun hc19 => ?_) (fun hc19 => ?_))
   ·refine sK fun _ k20 => ?_
    have hpx : pr x = false := by simpa using hc19
    obtain ⟨g0, mid2, hmg⟩ : ∃ g0 m2, mid = g0 :: m2 := (by cases mid with | nil => simp at hmid | cons a m => exact ⟨a, m, rfl⟩)
    subst hmg
    refine rL (uM rfl ?_)
    refine uM rfl (uM rfl ?_)
    refine uG (.pointer (some ⟨b, 0 + i, none⟩)) rfl (ex_index rfl rfl rfl (run_idx1 (k := i) Tryz.underlying26 s24es26 (by omega))) ?_
    refine sl_storeRow (v := vS x) tV (wn rfl) rfl rfl rfl hv s24sz9 (by rw [textCells_n]; simp only [List.length_append, List.length_cons, List.length_drop]; omega) rfl rfl (fun w21 hv => ?_)
    rw [Nat.zero_add] at hv
    refine uW k20 (rL ?_)
    refine uM rfl ?_
    refine uG (vI ((i + 1 : Nat) : Int)) rfl (ex_add rfl rfl rfl (by rw [i64_in (by omega)]; omega)) (uA rfl ?_)
    refine uZ (bN ?_)
    refine tK k15 (rL ?_)
    refine uM rfl ?_
    refine uG (vI ((j + 1 : Nat) : Int)) rfl (ex_add rfl rfl rfl (by rw [i64_in (by omega)]; omega)) (uA rfl ?_)
    refine uZ (then_normal ?_)
    go_roundw
    case rel => exact ⟨i + 1, j + 1, kept ++ [x], mid2 ++ [x], rfl, rfl, by omega, by rw [df_filter hx, ← hkept, hpx]; rfl, by rw [List.length_append]; simp; exact hik, by simp, by simp at hij ⊢; omega, by rw [hik, df_set hx] at hv; exact hv⟩
    case measure => show l.length - (((j + 1 : Nat) : Int)).toNat < l.length - ((j : Int)).toNat; omega
   refine kS (bN ?_)
   refine tK k15 ?_
   have hpx : pr x = true := by simpa using hc19
   refine rL (uM rfl ?_)
   refine uG (vI ((j + 1 : Nat) : Int)) rfl (ex_add rfl rfl rfl (by rw [i64_in (by omega)]; omega)) (uA rfl ?_)
   refine uZ (then_normal ?_)
   go_roundw
   case rel => exact ⟨i, j + 1, kept, mid ++ [x], rfl, rfl, by omega, by rw [df_filter hx, ← hkept, hpx]; simp, hik, by simp, by simp; omega, by rw [← df_skip hx]; exact hv⟩
   case measure => show l.length - (((j + 1 : Nat) : Int)).toNat < l.length - ((j : Int)).toNat; omega
  refine uG (.bool false) rfl (ex_lss rfl rfl rfl (qF hb14)) (uW k13 ?_)
  refine cF rfl (xE ?_)
  refine tX (tX ?_)
  refine bH (tK k9 ?_)
  refine sK fun _ k22 => ?_
  obtain rfl : j = l.length := by omega
  rw [List.drop_length, List.append_nil, textCells_app] at hv
  rw [List.take_length] at hkept
  obtain ⟨L, hL1, hL2, hL3, hL4, hv⟩ := hv.rowCell
  obtain ⟨tl, hLe⟩ : ∃ tl, L = textCells kept ++ textCells mid ++ tl := ⟨L.drop (l.length * 1), by rw [← hL2, List.take_append_drop]⟩
  subst hLe
  have hkn : (textCells kept).length = i := by rw [textCells_n]; exact hik.symm
  refine rL (uM rfl ?_)
  refine uM rfl ?_
  refine uG (.slice (some ⟨b, 0 + i, none⟩) (l.length - i) (rc - i)) rfl (ex_slice (lo' := some (vI i)) rfl rfl (congrArg some rfl) rfl rfl (run_from1 Tryz.underlying26 s24es26 (by omega) (by omega))) ?_
  refine sl_clearAt 0 (pre := textCells kept) (mid := textCells mid) (post := tl) (m := l.length - i) tV (wn rfl) rfl rfl s24el26 (one_cons rfl one_nil) hv rfl rfl (by rw [hkn, Nat.zero_add]) (by rw [textCells_n]; omega) (fun zs w23 hzs hv => ?_)
  simp only [zO] at hv
  refine uW k22 (sK fun _ k24 => ?_)
  refine rL (uM rfl ?_)
  refine uM rfl ?_
  refine uG (.slice (some ⟨b, 0, none⟩) i rc) rfl (ex_slice (hi' := some (vI i)) rfl rfl rfl (congrArg some rfl) rfl (run_hi Tryz.underlying26 s24es26 (by omega))) (uA rfl ?_)
  refine uW k24 (rR ?_)
  refine bR rfl rfl ?_
  have h8 := hv.cellRow (n := i) (c := rc) (size := 1) (by simp only [List.length_append, hzs] at hL1 ⊢; exact hL1) (by omega) hL4
  rw [List.append_assoc, Nat.mul_one, List.take_left' hkn, hik, hkept] at h8
  rw [hik, hkept]
  exact ⟨_, _, rfl, h8⟩
open Go.Sort
def deadNow (M : List (List UInt8 × Ver)) (clk : Int) (k : List UInt8) : Bool := match lookA M k with
 | some y => !aliveB y clk
 | none => false
def namesT (M : List (List UInt8 × Ver)) (clk : Int) : List (List UInt8) := ((M.map (·.1)).mergeSort leB).filter fun k => !deadNow M clk k
theorem namesT_le (M : List (List UInt8 × Ver)) (clk : Int) : (namesT M clk).length ≤ M.length := by
 refine Nat.le_trans (List.length_filter_le _ _) ?_
 simp
theorem vmap_nodup {w : World} {b : Nat} {es : List (List UInt8 × Value)} (h : (Res.vmap b es).holds w) : (es.map (·.1)).Nodup := by
 obtain ⟨E, clock, -, ⟨-, -, h2⟩, h3⟩ := h
 have h4 : E.toList.map (fun e => e.key) = (es.map (·.1)).map strV := by
  have := congrArg (List.map Prod.fst) h3
  simpa [List.map_map, Function.comp_def, kv] using this
 rw [h4] at h2
 exact List.Pairwise.imp (fun hab e => hab (by rw [e])) (List.pairwise_map.1 h2)
theorem adj_ne {l : List (List UInt8)} (h : l.Nodup) (j : Nat) (x y : List UInt8) (hx : l[j]? = some x) (hy : l[j + 1]? = some y) : ¬ y = x := by
 intro e; subst e
 have hj := (List.getElem?_eq_some_iff.1 hx).1
 have := (List.getElem?_inj hj h).1 (hx.trans hy.symm)
 omega
theorem compactTexts (B : Base) (H : List Res) (w : World) (ra : Option Addr) (rc : Nat) (l : List (List UInt8)) (hnd : l.Nodup) (hm : l.length ≤ 1000000) (hv : Inv B (Res.row 9 1 (.slice ra l.length rc) l.length (textCells l) :: H) w) :
  Calls Tryz.prog 221 #[.slice ra l.length rc] w fun e w' => e = .returned (.slice ra l.length rc) ∧ Inv B (Res.row 9 1 (.slice ra l.length rc) l.length (textCells l) :: H) w' := by
 refine cW Tryz.func221 rfl Tryz.ntmps221 ?_
 simp only [al]
 refine sK fun _ k1 => rL (uA rfl ?_)
 refine uW k1 (sK fun _ k2 => ?_)
 refine sK fun _ k3 => rL (uM rfl ?_)
 refine uG (vI (l.length : Int)) rfl (ex_len0 Tryz.underlying26 rfl rfl) ?_
 by_cases hb4 : (l.length : Int) < 2
 ·refine uG (.bool true) rfl (ex_lss rfl rfl rfl (qT hb4)) (uW k3 ?_)
  refine cT rfl (sK fun _ k5 => ?_)
  refine rL (uM rfl ?_)
  refine uA rfl (uW k5 ?_)
  refine rR (tR ?_)
  refine bR rfl rfl (⟨rfl, hv⟩)
 refine uG (.bool false) rfl (ex_lss rfl rfl rfl (qF hb4)) (uW k3 ?_)
 refine cF rfl (kS ?_)
 refine tK k2 (sK fun _ k6 => ?_)
 refine sK fun _ k7 => rL (uA rfl ?_)
 refine uW k7 (bB ?_)
 gi_loopw [3] (fun x3 wr => ∃ (j : Nat), x3 = vI ((j + 1 : Nat) : Int) ∧ j + 1 ≤ l.length ∧ Inv B (Res.row 9 1 (.slice ra l.length rc) l.length (textCells l) :: H) wr) (fun x3 _ => l.length - (intOf x3).toNat)
 case atStart => exact ⟨0, rfl, by omega, hv⟩
 case round =>
  obtain ⟨j, rfl, hj, hv⟩ := hrel
  refine sK fun _ k9 => sK fun _ k10 => rL (uM rfl ?_)
  refine uM rfl ?_
  refine uG (vI (l.length : Int)) rfl (ex_len0 Tryz.underlying26 rfl rfl) ?_
  by_cases hb11 : ((j + 1 : Nat) : Int) < (l.length : Int)
  ·refine uG (.bool true) rfl (ex_lss rfl rfl rfl (qT hb11)) (uW k10 ?_)
   refine cT rfl (kS ?_)
   refine tK k9 (sK fun _ k12 => ?_)
   refine bB (sK fun _ k13 => ?_)
   obtain ⟨x, hx⟩ : ∃ x, l[j]? = some x := ⟨_, List.getElem?_eq_getElem (show j < l.length by omega)⟩
   obtain ⟨y, hy⟩ : ∃ y, l[j + 1]? = some y := ⟨_, List.getElem?_eq_getElem (show j + 1 < l.length by omega)⟩
   obtain ⟨b, rfl⟩ := row_some hv.head (by omega)
   refine rW mixed [] [0,1,2,3,4,5,6,7,8,9] 61 rfl (by kernel_rfl) hv ?_
   simp only [qm, opAt]
   refine dM (.slice (some ⟨b, 0, none⟩) l.length rc) rfl (dM (vI ((j + 1 : Nat) : Int)) rfl ?_)
   refine dG (.pointer (some ⟨b, 0 + (j + 1 : Nat), none⟩)) rfl (ex_index rfl rfl rfl (run_idx1 (k := (j + 1 : Nat)) Tryz.underlying26 s9es26 (by omega))) ?_
   simp only [zP, po]
   refine dL _ rfl (fun hv => ex_load rfl rfl (run_load1 s9na9 (row_load (hv.get 0 rfl) (textCells_get hy)))) (dM (.slice (some ⟨b, 0, none⟩) l.length rc) rfl ?_)
   refine dM (vI ((j + 1 : Nat) : Int)) rfl ?_
   simp only [zP, po]
   refine dG (vI j) rfl (ex_sub rfl rfl rfl (by rw [i64_in (by omega)]; omega)) (dG (.pointer (some ⟨b, 0 + j, none⟩)) rfl (ex_index rfl rfl rfl (run_idx1 (k := j) Tryz.underlying26 s9es26 (by omega))) ?_)
   refine dL _ rfl (fun hv => ex_load rfl rfl (run_load1 s9na9 (row_load (hv.get 0 rfl) (textCells_get hx)))) ?_
   simp only [zP, po]
   refine dG (.bool false) rfl (ex_seql rfl rfl rfl (qF (adj_ne hnd j x y hx hy))) (dE fun w14 hv => ?_)
   simp only [zP, po]
   refine tK k13 (cF rfl ?_)
   refine kS (bN ?_)
   refine tK k12 (rL ?_)
   refine uM rfl ?_
   refine uG (vI ((j + 1 + 1 : Nat) : Int)) rfl (ex_add rfl rfl rfl (by rw [i64_in (by omega)]; omega)) (uA rfl ?_)
   refine uZ (then_normal ?_)
   go_roundw
   case rel => exact ⟨j + 1, rfl, by omega, hv⟩
   case measure => show l.length - (((j + 1 + 1 : Nat) : Int)).toNat < l.length - (((j + 1 : Nat) : Int)).toNat; omega
  refine uG (.bool false) rfl (ex_lss rfl rfl rfl (qF hb11)) (uW k10 ?_)
  refine cF rfl (xE ?_)
  refine tX (tX ?_)
  refine bH (tK k6 ?_)
  refine sK fun _ k15 => rL (uM rfl ?_)
  refine uA rfl (uW k15 ?_)
  refine rR (bR rfl rfl ?_)
  exact ⟨rfl, hv⟩
theorem x6al50 : AL Tryz.prog 50 [vI 0, .bool false, vI 0, vI 0, vS [], vN, vN, vN] := fun w => by kernel_rfl
theorem namesDead (B : Base) (H : List Res) (w : World) (g1 t m wb : Nat) (clk : Int) (es : List (List UInt8 × Value)) (M : List (List UInt8 × Ver)) (key : List UInt8) (hM : VM B es M) (hv : Inv B (Res.cell g1 [vP t] 100 :: Res.cell t [vP m, vI 0, vI clk, .bool false, .map (some wb)] 170 :: Res.vmap wb es :: H) w) :
  Calls Tryz.prog 222 #[vS key, vP g1] w fun e w' => e = .returned (.bool (deadNow M clk key)) ∧ Inv B (Res.cell g1 [vP t] 100 :: Res.cell t [vP m, vI 0, vI clk, .bool false, .map (some wb)] 170 :: Res.vmap wb es :: H) w' := by
 refine cW Tryz.func222 rfl Tryz.ntmps222 ?_
 simp only [al]
 refine sK fun _ k1 => rL (uA rfl ?_)
 refine uW k1 (sK fun _ k2 => ?_)
 refine rL (uL _ rfl (run_load1 x1na100 (hv.load 0 0 rfl rfl)) ?_)
 refine uG (vP t) rfl (ex_nil rfl rfl) ?_
 refine uF (.pointer (some ⟨t, 4, none⟩)) rfl (x2fa170_4 _ _ _) ?_
 refine uL _ rfl (run_load1 x2na168 (hv.load 1 4 rfl rfl)) (uM rfl ?_)
 rcases VM.look key hM with ⟨hl, hlM⟩ | ⟨x, xp, xt, xz, hl, hlM, hxv⟩
 ·refine uG (.tuple #[.agg #[vI 0, .bool false, vI 0, vI 0, vS [], vN, vN, vN], .bool false]) rfl (ex_lookN (z := .agg #[vI 0, .bool false, vI 0, vI 0, vS [], vN, vN, vN]) 2 rfl rfl rfl Tryz.underlying168 Tryz.underlying9 (fun w => by kernel_rfl) hv rfl hl) (uM rfl ?_)
  refine uE rfl (uE rfl ?_)
  refine sl_alloc tV (wn rfl) rfl hv x6al50 (fun b3 w4 hv => ?_)
  refine xS 0 rfl hv x0sz50 rfl (by exact ⟨rfl, rfl, rfl, rfl, rfl, rfl, rfl, rfl, trivial⟩) (fun w5 hv => ?_)
  simp only [zO, sp] at hv
  refine uA rfl (uW k2 ?_)
  refine sK fun _ k6 => rW mixed [7] [0,1,2,3,4,5,6,7,8,9,10] 25 rfl (by kernel_rfl) hv ?_
  simp only [qm, opAt]
  refine dM (.bool false) rfl (dM (.bool false) rfl ?_)
  iterate 7 refine dN rfl ?_
  refine dK false (.bool false) rfl ?_
  simp only [zP, po]
  refine dA (.bool false) rfl (dE fun w7 hv => ?_)
  simp only [zP, po]
  refine tK k6 (rR ?_)
  refine bR rfl rfl (⟨congrArg (fun b => Ending.returned (Value.bool b)) (by unfold deadNow; rw [hlM]), (hv.kp [3, 3, 3] 3 1)⟩)
 refine uG (.tuple #[.agg #[vI x.stamp, .bool x.gone, vI x.expire, vI x.val.kind, vS x.val.text, xp, xt, xz], .bool true]) rfl (ex_lookS (z := .agg #[vI 0, .bool false, vI 0, vI 0, vS [], vN, vN, vN]) 2 rfl rfl rfl Tryz.underlying168 Tryz.underlying9 (fun w => by kernel_rfl) hv rfl hl) (uM rfl ?_)
 refine uE rfl (uE rfl ?_)
 refine sl_alloc tV (wn rfl) rfl hv x6al50 (fun b8 w9 hv => ?_)
 refine xS 0 rfl hv x0sz50 rfl (by exact ⟨rfl, rfl, rfl, rfl, rfl, hxv.p.one, hxv.t.one, hxv.z.one, trivial⟩) (fun w10 hv => ?_)
 simp only [zO, sp] at hv
 refine uA rfl (uW k2 ?_)
 refine sK fun _ k11 => rW mixed [7] [0,1,2,3,4,5,6,7,8,9,10] 25 rfl (by kernel_rfl) hv ?_
 simp only [qm, opAt]
 refine dM (.bool true) rfl (dM (.bool true) rfl ?_)
 refine dL (.agg #[vI x.stamp, .bool x.gone, vI x.expire, vI x.val.kind, vS x.val.text, xp, xt, xz]) rfl (fun hv => ex_load rfl rfl (lM 0 x0wd50 hv rfl rfl rfl rfl)) ?_
 simp only [zP, po]
 refine dL _ rfl (fun hv => ex_load rfl rfl (run_load1 x1na100 (hv.load 1 0 rfl rfl))) (dG (vP t) rfl (ex_nil rfl rfl) ?_)
 refine dG (.pointer (some ⟨t, 2, none⟩)) rfl (ex_field rfl rfl (x2fa170_2 _ _ _)) ?_
 simp only [zP, po]
 refine dL _ rfl (fun hv => ex_load rfl rfl (run_load1 s2na3 (hv.load 2 2 rfl rfl))) (dS rfl fun w12 hv => ?_)
 refine mC x2callable208 rfl ((chainAlive B _ _ x xp xt xz clk hv).mono ?_) rfl
 rintro e w13 ⟨rfl, hv⟩
 refine ⟨_, rfl, dW hv ?_⟩
 refine dG (.bool (!(aliveB x clk))) rfl (ex_not rfl rfl rfl) ?_
 simp only [zP, po]
 refine dK true (.bool (!(aliveB x clk))) rfl (dA (.bool (!(aliveB x clk))) rfl ?_)
 refine dE fun w14 hv => ?_
 simp only [zP, po]
 refine tK k11 (rR ?_)
 refine bR rfl rfl (⟨congrArg (fun b => Ending.returned (Value.bool b)) (by unfold deadNow; rw [hlM]), (hv.kp [3, 3, 3] 3 1)⟩)
theorem x6callable196 : Callable Tryz.prog 196 := cb Tryz.func196 (by kernel_rfl)
theorem x6callable220 : Callable Tryz.prog 220 := cb Tryz.func220 (by kernel_rfl)
theorem x6callable219 : Callable Tryz.prog 219 := cb Tryz.func219 (by kernel_rfl)
theorem x6callable103 : Callable Tryz.prog 103 := cb Tryz.func103 (by kernel_rfl)
theorem x6callable221 : Callable Tryz.prog 221 := cb Tryz.func221 (by kernel_rfl)
theorem x6callable222 : Callable Tryz.prog 222 := cb Tryz.func222 (by kernel_rfl)
theorem txnNames (B : Base) (H : List Res) (w : World) (t m s p wb : Nat) (va : Option Addr) (vc : Nat) (sv : Value) (clk : Int) (es : List (List UInt8 × Value)) (M : List (List UInt8 × Ver)) (hM : VM B es M) (hkl : ∀ k ∈ M.map (·.1), k.length ≤ 256) (hMl : M.length ≤ 1000000) (hv : Inv B (txR t m s p wb va vc sv clk es :: H) w) :
  Calls Tryz.prog 216 #[vP t] w fun e w' => ∃ ra rc, e = .returned (.slice ra (namesT M clk).length rc) ∧ Inv B (Res.row 9 1 (.slice ra (namesT M clk).length rc) (namesT M clk).length (textCells (namesT M clk)) :: txR t m s p wb va vc sv clk es :: H) w' := by
 refine cW Tryz.func216 rfl Tryz.ntmps216 ?_
 simp only [al]
 refine sK fun _ k1 => ?_
 replace hv := Inv.unstar hv
 simp only [txL, List.cons_append, List.nil_append] at hv
 refine rL (sl_box (L := [vP t]) tV (wn rfl) rfl rfl hv (fun w => by kernel_rfl) (fun b2 w3 hv => ?_))
 refine uA rfl (uW k1 ?_)
 refine sK fun _ k4 => rW mixed [15] [0,1,2,3,4,5,6,7,8,9,10,11,12,13,14,15,16] 33 rfl (by kernel_rfl) hv ?_
 simp only [qm, opAt]
 refine dL _ rfl (fun hv => ex_load rfl rfl (run_load1 x1na100 (hv.load 0 0 rfl rfl))) (dG (vP t) rfl (ex_nil rfl rfl) ?_)
 refine dG (vP t) rfl (ex_field rfl rfl (x1fa170_0 _ _ _)) ?_
 simp only [zP, po]
 refine dL _ rfl (fun hv => ex_load rfl rfl (run_load1 x1na92 (hv.load 1 0 rfl rfl))) (dG (vP m) rfl (ex_nil rfl rfl) ?_)
 refine dG (vP m) rfl (ex_field rfl rfl (x2fa130_0 _ _ _)) ?_
 simp only [zP, po]
 refine dL _ rfl (fun hv => ex_load rfl rfl (run_load1 x0na95 (hv.load 2 0 rfl rfl))) (dL _ rfl (fun hv => ex_load rfl rfl (run_load1 x1na100 (hv.load 0 0 rfl rfl))) ?_)
 refine dG (vP t) rfl (ex_nil rfl rfl) ?_
 simp only [zP, po]
 refine dG (.pointer (some ⟨t, 1, none⟩)) rfl (ex_field rfl rfl (x2fa170_1 _ _ _)) (dL _ rfl (fun hv => ex_load rfl rfl (run_load1 s2na3 (hv.load 1 1 rfl rfl))) ?_)
 refine dL _ rfl (fun hv => ex_load rfl rfl (run_load1 x1na100 (hv.load 0 0 rfl rfl))) ?_
 simp only [zP, po]
 refine dG (vP t) rfl (ex_nil rfl rfl) (dG (.pointer (some ⟨t, 2, none⟩)) rfl (ex_field rfl rfl (x2fa170_2 _ _ _)) ?_)
 refine dL _ rfl (fun hv => ex_load rfl rfl (run_load1 s2na3 (hv.load 1 2 rfl rfl))) ?_
 simp only [zP, po]
 refine dS rfl fun w5 hv => ?_
 replace hv := hv.front 6 rfl
 simp only [eS, eZ] at hv
 replace hv := hv.front 6 rfl
 simp only [eS, eZ] at hv
 refine mC x6callable196 rfl ((storeNames0 B _ _ s p 0 clk hv).mono ?_) rfl
 rintro e w6 ⟨rfl, hv⟩
 refine ⟨_, rfl, dW hv ?_⟩
 refine dA (vN) rfl (dE fun w7 hv => ?_)
 simp only [zP, po]
 refine tK k4 (sK fun _ k8 => ?_)
 refine rL (uM rfl ?_)
 refine uL _ rfl (run_load1 x1na100 (hv.load 2 0 rfl rfl)) ?_
 refine uG (vP t) rfl (ex_nil rfl rfl) ?_
 refine uF (.pointer (some ⟨t, 4, none⟩)) rfl (x2fa170_4 _ _ _) ?_
 refine uL _ rfl (run_load1 x2na168 (hv.load 3 4 rfl rfl)) ?_
 refine xC x6callable220 rfl ((mapKeys B _ _ (some wb) hv).mono ?_) rfl
 rintro e w9 ⟨b9, rfl, hv⟩
 refine ⟨_, rfl, ?_⟩
 simp only [zP, po]
 replace hv := hv.front 7 rfl
 simp only [eS, eZ] at hv
 replace hv := hv.front 1 rfl
 simp only [eS, eZ] at hv
 have hnd := vmap_nodup (hv.get 1 rfl)
 have hke := VM.keys hM
 have hle : es.length = M.length := by have := congrArg List.length hke; simpa using this
 refine xC x6callable219 rfl ((appendKeys B _ _ b9 wb es (fun x hx => Nat.le_trans (hkl x.1 (by rw [← hke]; exact List.mem_map.2 ⟨x, hx, rfl⟩)) (by unfold maxLen; omega)) (by omega) hv).mono ?_) rfl
 rintro e w10 ⟨v9, ss, rfl, hperm, hv⟩
 refine ⟨_, rfl, ?_⟩
 obtain ⟨va9, vc9, rfl⟩ := row_slice hv.head
 have hsl : ss.length = M.length := by have := hperm.length_eq; rw [List.length_map] at this; omega
 refine uA rfl (uW k8 ?_)
 refine sK fun _ k11 => rL (uM rfl ?_)
 refine xC x6callable103 rfl ((sortTexts B _ _ _ ss (by omega) hv).mono ?_) rfl
 rintro e w12 ⟨rfl, hv⟩
 refine ⟨_, rfl, ?_⟩
 have hms : ss.mergeSort leB = (M.map (·.1)).mergeSort leB := by rw [mergeSort_of_perm hperm, hke]
 rw [hms] at hv
 obtain ⟨l, hl⟩ : ∃ l, (M.map (·.1)).mergeSort leB = l := ⟨_, rfl⟩
 rw [hl] at hv hms
 have hll : ss.length = l.length := by rw [← hms]; simp
 rw [hll] at hv ⊢
 have hln : l.Nodup := by rw [← hms]; exact ((List.mergeSort_perm ss leB).nodup_iff).2 ((hperm.nodup_iff).2 hnd)
 refine uW k11 (sK fun _ k13 => ?_)
 refine rL (uM rfl ?_)
 refine xC x6callable221 rfl ((compactTexts B _ _ va9 vc9 l hln (by omega) hv).mono ?_) rfl
 rintro e w14 ⟨rfl, hv⟩
 refine ⟨_, rfl, uG (.func (.func 222) #[] #[vP b2]) rfl (ex_makeFunc (c' := #[vP b2]) rfl (by simp only [List.map_toArray, List.map_nil]) (by simp only [List.map_toArray, List.map_cons, List.map_nil]; rfl)) ?_⟩
 have hfn : ∀ (x : List UInt8) (r9 : Res) (w : World), Inv B (r9 :: (Res.cell b9 [.map (some wb)] 168 :: Res.vmap wb es :: Res.cell s [vP p, vI 0, vI 0] 134 :: Res.cell p [vN, vI 0] 167 :: Res.cell b2 [vP t] 100 :: Res.cell t [vP m, vI 0, vI clk, .bool false, .map (some wb)] 170 :: Res.cell m [vP s, sv, vI clk, .slice va 1 vc] 130 :: Res.row 100 1 (.slice va 1 vc) 1 [vP t] :: H)) w → Calls Tryz.prog 222 (#[vS x] ++ #[vP b2]) w fun e w' => e = .returned (.bool (deadNow M clk x)) ∧ Inv B (r9 :: (Res.cell b9 [.map (some wb)] 168 :: Res.vmap wb es :: Res.cell s [vP p, vI 0, vI 0] 134 :: Res.cell p [vN, vI 0] 167 :: Res.cell b2 [vP t] 100 :: Res.cell t [vP m, vI 0, vI clk, .bool false, .map (some wb)] 170 :: Res.cell m [vP s, sv, vI clk, .slice va 1 vc] 130 :: Res.row 100 1 (.slice va 1 vc) 1 [vP t] :: H)) w' := fun x r9 w hv =>
  (namesDead B _ w b2 t m wb clk es M x hM (((((((((hv.front 8 rfl).front 8 rfl).front 6 rfl).front 6 rfl).front 5 rfl).front 5 rfl).front 6 rfl).front 8 rfl).front 8 rfl)).mono fun e w' ⟨h7, h8⟩ => ⟨h7, (((((((((h8.front 8 rfl).front 8 rfl).front 3 rfl).front 3 rfl).front 8 rfl).front 8 rfl).front 6 rfl).front 8 rfl).front 8 rfl)⟩
 refine xC x0callable199 rfl ((deleteFunc B _ _ 222 _ va9 vc9 l (deadNow M clk) (by omega) x6callable222 hfn hv).mono ?_) rfl
 rintro e w15 ⟨ra, rc, rfl, hv⟩
 refine ⟨_, rfl, uA rfl ?_⟩
 refine uW k13 (rR ?_)
 refine bR rfl rfl ?_
 subst hl
 exact ⟨_, _, rfl, Inv.front (Inv.star (K := txL _ _ _ _ _ _ _ _ _ _) ((hv.kp [4, 4, 4, 8, 8, 8] 7 2))) 1 rfl⟩
def liveK (clk : Int) (x : KeyR) : Bool := decide (x.exp = 0) || decide (x.exp > clk)
def getK (K : List KeyR) (clk : Int) (name : List UInt8) : Option KeyR := K.find? fun x => decide (x.name = name) && liveK clk x
def zkey : KeyR := ⟨[], ⟨0, [], [], [], []⟩, 0⟩
theorem zkey_at (B : Base) : ValAt B zkey.val (vN) (vN) (vN) := zver0_at B
theorem getK_some {K : List KeyR} {clk : Int} {name : List UInt8} {i : Nat} {x : KeyR} (hx : K[i]? = some x) (hn : x.name = name) (hl : liveK clk x = true) (hno : ∀ j y, j < i → K[j]? = some y → ¬ (y.name = name ∧ liveK clk y = true)) : getK K clk name = some x := by
 unfold getK
 rw [List.find?_eq_some_iff_getElem]
 obtain ⟨hi, rfl⟩ := List.getElem?_eq_some_iff.1 hx
 refine ⟨by simp [hn, hl], i, hi, rfl, fun j hj => ?_⟩
 have h7 := hno j _ hj (List.getElem?_eq_getElem (by omega))
 cases h8 : (decide (K[j].name = name) && liveK clk K[j]) with
 | false => rfl
 | true => exact absurd (by simpa using h8) h7
theorem getK_none {K : List KeyR} {clk : Int} {name : List UInt8} (hno : ∀ (j : Nat) (y : KeyR), K[j]? = some y → ¬ (y.name = name ∧ liveK clk y = true)) : getK K clk name = none := by
 unfold getK
 rw [List.find?_eq_none]
 intro y hy
 obtain ⟨j, hj⟩ := List.mem_iff_getElem?.1 hy
 cases h8 : (decide (y.name = name) && liveK clk y) with
 | false => simp
 | true => exact absurd (by simpa using h8) (hno j y hj)
structure RefV (B : Base) (K : List KeyR) (wl : List (List UInt8)) (ka wa : Option Addr) (kc wc : Nat) (xs : List Value) : Prop where
 ok1 : SliceOk ka K.length kc
 keys : RdV B [] ka xs
 at_ : KeysAt B K xs
 ok2 : SliceOk wa wl.length wc
 wr : RdV B [] wa (textCells wl)
theorem RefV.more {B C : Base} {K : List KeyR} {wl : List (List UInt8)} {ka wa : Option Addr} {kc wc : Nat} {xs : List Value} (h : RefV B K wl ka wa kc wc xs) (hB : B.Le C) : RefV C K wl ka wa kc wc xs := ⟨h.ok1, h.keys.more hB (fun _ h => h), h.at_.more hB, h.ok2, h.wr.more hB (fun _ h => h)⟩
theorem v2al82 : AL Tryz.prog 82 [vS [], vI 0, vS [], vN, vN, vN, vI 0] := fun w => by kernel_rfl
theorem v2fa28_0 : FA Tryz.prog 28 0 0 := fun w b o => by kernel_rfl
theorem v2na25 (w : World) : (isAgg 25).run Tryz.prog w = .ok false w := by kernel_rfl
theorem v2es25 (w : World) : (sizeOf (Tryz.prog.elem 25)).run Tryz.prog w = .ok 7 w := by kernel_rfl
theorem v2wd82 : Wide Tryz.prog 82 7 := wide_of (fun w => by kernel_rfl) (by kernel_rfl)
theorem v2sz82 : (Tryz.prog.info? 82).map (·.size) = some 7 := by kernel_rfl
theorem v2fa82_0 : FA Tryz.prog 82 0 0 := fun w b o => by kernel_rfl
theorem v2fa82_2 : FA Tryz.prog 82 2 6 := fun w b o => by kernel_rfl
theorem v2fa28_1 : FA Tryz.prog 28 1 1 := fun w b o => by kernel_rfl
theorem refGet20 (B : Base) (H : List Res) (w : World) (K : List KeyR) (wl : List (List UInt8)) (ka wa : Option Addr) (kc wc : Nat) (xs : List Value) (clk : Int) (hR : RefV B K wl ka wa kc wc xs) (hm : K.length ≤ 10000) (_ : wl.length ≤ 10000) (name : List UInt8) (hv : Inv B H w) :
  Calls Tryz.prog 32 #[.agg #[.slice ka K.length kc, vI clk, .slice wa wl.length wc], vS name] w fun e w' => ∃ x p' t' z' ok, e = .returned (.tuple #[.agg (krCells x p' t' z').toArray, .bool ok]) ∧ ((ok = true ∧ getK K clk name = some x ∧ ∃ i, K[i]? = some x ∧ (xs.drop (i * 7)).take 7 = krCells x p' t' z') ∨ (ok = false ∧ x = zkey ∧ getK K clk name = none ∧ p' = vN ∧ t' = vN ∧ z' = vN)) ∧ ValAt B x.val p' t' z' ∧ Inv B H w' := by
 refine cW Tryz.func32 rfl Tryz.ntmps32 ?_
 simp only [al]
 refine sK fun _ k1 => rL (sl_box (L := [.slice ka K.length kc, vI clk, .slice wa wl.length wc]) tV (wn rfl) rfl rfl hv (fun w => by kernel_rfl) (fun b2 w3 hv => ?_))
 refine sl_alloc tV (wn rfl) rfl hv v2al82 (fun b4 w5 hv => ?_)
 refine uA rfl (uW k1 ?_)
 refine sK fun _ k6 => sK fun _ k7 => rL (uA rfl ?_)
 refine uW k7 (bB ?_)
 gi_loopw [6] (fun x6 wr => ∃ (i : Nat), x6 = vI i ∧ i ≤ K.length ∧ (∀ j y, j < i → K[j]? = some y → ¬ (y.name = name ∧ liveK clk y = true)) ∧ Inv B (Res.cell b4 [vS [], vI 0, vS [], vN, vN, vN, vI 0] 82 :: Res.cell b2 [.slice ka K.length kc, vI clk, .slice wa wl.length wc] 28 :: H) wr) (fun x6 _ => K.length - (intOf x6).toNat)
 case atStart => exact ⟨0, rfl, Nat.zero_le _, fun j y h => by omega, hv⟩
 case round =>
  obtain ⟨i, rfl, hi, hno, hv⟩ := hrel
  refine sK fun _ k9 => sK fun _ k10 => rL (uM rfl ?_)
  refine uF (vP b2) rfl (v2fa28_0 _ _ _) ?_
  refine uL _ rfl (run_load1 v2na25 (hv.load 1 0 rfl rfl)) ?_
  refine uG (vI (K.length : Int)) rfl (ex_len0 Tryz.underlying25 rfl rfl) ?_
  by_cases hb11 : (i : Int) < (K.length : Int)
  ·refine uG (.bool true) rfl (ex_lss rfl rfl rfl (qT hb11)) (uW k10 ?_)
   refine cT rfl (kS ?_)
   refine tK k9 (sK fun _ k12 => ?_)
   refine bB (sK fun _ k13 => ?_)
   obtain ⟨x, hx⟩ : ∃ x, K[i]? = some x := ⟨_, List.getElem?_eq_getElem (show i < K.length by omega)⟩
   obtain ⟨bb, bo, xp, xt, xz, had, hvalx, hrdx, hcsx⟩ := KeysAt.reads2 hR.at_ hR.keys hx
   subst had
   refine rL (uF (vP b2) rfl (v2fa28_0 _ _ _) ?_)
   refine uL _ rfl (run_load1 v2na25 (hv.load 1 0 rfl rfl)) (uM rfl ?_)
   refine uG (.pointer (some ⟨bb, bo + i * 7, none⟩)) rfl (ex_index rfl rfl rfl (run_idx (k := i) Tryz.underlying25 v2es25 (by omega))) ?_
   refine uL (.agg #[vS x.name, vI x.val.kind, vS x.val.text, xp, xt, xz, vI x.exp]) rfl (run_loadR (cs := [vS x.name, vI x.val.kind, vS x.val.text, xp, xt, xz, vI x.exp]) v2wd82 (Reads.mid (pre := []) (mid := [vS x.name, vI x.val.kind, vS x.val.text, xp, xt, xz, vI x.exp]) (post := []) hrdx _ _ _ (Base.Le.refl _) no_res hv)) ?_
   refine sl_alloc tV (wn rfl) rfl hv v2al82 (fun b14 w15 hv => ?_)
   simp only [zP, po]
   refine xS 0 rfl hv v2sz82 rfl (by exact ⟨rfl, rfl, rfl, hvalx.p.one, hvalx.t.one, hvalx.z.one, rfl, trivial⟩) (fun w16 hv => ?_)
   simp only [zO, sp] at hv
   refine uW k13 (sK fun _ k17 => ?_)
   refine rL (uF (vP b14) rfl (v2fa82_0 _ _ _) ?_)
   refine uL _ rfl (run_load1 s9na9 (hv.load 0 0 rfl rfl)) (uM rfl ?_)
   by_cases hb18 : x.name = name
   ·refine uG (.bool true) rfl (ex_seql rfl rfl rfl (qT hb18)) (uM rfl ?_)
    refine uF (.pointer (some ⟨b14, 6, none⟩)) rfl (v2fa82_2 _ _ _) ?_
    refine uL _ rfl (run_load1 s2na3 (hv.load 0 6 rfl rfl)) ?_
    by_cases hb19 : x.exp = 0
    ·refine uG (.bool true) rfl (ex_eql rfl rfl rfl (qT hb19)) ?_
     refine uM rfl ?_
     iterate 5 refine uP rfl ?_
     refine uK rfl (uK rfl ?_)
     refine uW k17 (cT rfl ?_)
     refine sK fun _ k20 => rL (uL (.agg #[vS x.name, vI x.val.kind, vS x.val.text, xp, xt, xz, vI x.exp]) rfl (lM 0 v2wd82 hv rfl rfl rfl rfl) ?_)
     refine xS 1 rfl hv v2sz82 rfl (by exact ⟨rfl, rfl, rfl, hvalx.p.one, hvalx.t.one, hvalx.z.one, rfl, trivial⟩) (fun w21 hv => ?_)
     simp only [zS, zO, sp] at hv
     refine uA rfl (uW k20 ?_)
     refine rR (bZ ?_)
     refine tR (tR ?_)
     refine bZ (tR ?_)
     refine bodyPost_ret (res_cell2 rfl rfl (lM 1 v2wd82 hv rfl rfl rfl rfl)) rfl (⟨x, _, _, _, true, rfl, .inl ⟨rfl, getK_some hx hb18 (by simp only [liveK, Bool.or_eq_true, decide_eq_true_eq]; omega) hno, i, hx, hcsx⟩, hvalx, (hv.kp [] 0 3)⟩)
    refine uG (.bool false) rfl (ex_eql rfl rfl rfl (qF hb19)) ?_
    refine uM rfl ?_
    refine uF (.pointer (some ⟨b14, 6, none⟩)) rfl (v2fa82_2 _ _ _) ?_
    refine uL _ rfl (run_load1 s2na3 (hv.load 0 6 rfl rfl)) ?_
    refine uF (.pointer (some ⟨b2, 1, none⟩)) rfl (v2fa28_1 _ _ _) ?_
    refine uL _ rfl (run_load1 s2na3 (hv.load 2 1 rfl rfl)) ?_
    by_cases hb22 : x.exp > clk
    ·refine uG (.bool true) rfl (ex_gtr rfl rfl rfl (qT hb22)) ?_
     refine uK rfl (uK rfl ?_)
     refine uW k17 (cT rfl ?_)
     refine sK fun _ k23 => rL (uL (.agg #[vS x.name, vI x.val.kind, vS x.val.text, xp, xt, xz, vI x.exp]) rfl (lM 0 v2wd82 hv rfl rfl rfl rfl) ?_)
     refine xS 1 rfl hv v2sz82 rfl (by exact ⟨rfl, rfl, rfl, hvalx.p.one, hvalx.t.one, hvalx.z.one, rfl, trivial⟩) (fun w24 hv => ?_)
     simp only [zS, zO, sp] at hv
     refine uA rfl (uW k23 ?_)
     refine rR (bZ ?_)
     refine tR (tR ?_)
     refine bZ (tR ?_)
     refine bodyPost_ret (res_cell2 rfl rfl (lM 1 v2wd82 hv rfl rfl rfl rfl)) rfl (⟨x, _, _, _, true, rfl, .inl ⟨rfl, getK_some hx hb18 (by simp only [liveK, Bool.or_eq_true, decide_eq_true_eq]; omega) hno, i, hx, hcsx⟩, hvalx, (hv.kp [] 0 3)⟩)
    refine uG (.bool false) rfl (ex_gtr rfl rfl rfl (qF hb22)) ?_
    refine uK rfl (uK rfl ?_)
    refine uW k17 (cF rfl ?_)
    refine kS (bN ?_)
    refine tK k12 (rL ?_)
    refine uM rfl ?_
    refine uG (vI ((i + 1 : Nat) : Int)) rfl (ex_add rfl rfl rfl (by rw [i64_in (by omega)]; omega)) (uA rfl ?_)
    refine uZ (then_normal ?_)
    go_roundw
    case rel => exact ⟨i + 1, rfl, by omega, fun j y hj hy => (by
       rcases Nat.lt_or_ge j i with h | h
       ·exact hno j y h hy
       obtain rfl : j = i := by omega
       rw [hx] at hy; cases hy
       rintro ⟨h1, h2⟩
       simp only [liveK, Bool.or_eq_true, decide_eq_true_eq] at h2
       first | exact absurd rfl h1 | (rcases h2 with h2 | h2 <;> omega)), (hv.kp [2, 2] 2 1)⟩
    case measure => show K.length - (((i + 1 : Nat) : Int)).toNat < K.length - ((i : Int)).toNat; omega
   refine uG (.bool false) rfl (ex_seql rfl rfl rfl (qF hb18)) (uM rfl ?_)
   iterate 10 refine uP rfl ?_
   refine uK rfl (uW k17 ?_)
   refine cF rfl (kS ?_)
   refine bN (tK k12 ?_)
   refine rL (uM rfl ?_)
   refine uG (vI ((i + 1 : Nat) : Int)) rfl (ex_add rfl rfl rfl (by rw [i64_in (by omega)]; omega)) (uA rfl ?_)
   refine uZ (then_normal ?_)
   go_roundw
   case rel => exact ⟨i + 1, rfl, by omega, fun j y hj hy => (by
      rcases Nat.lt_or_ge j i with h | h
      ·exact hno j y h hy
      obtain rfl : j = i := by omega
      rw [hx] at hy; cases hy
      rintro ⟨h1, h2⟩
      simp only [liveK, Bool.or_eq_true, decide_eq_true_eq] at h2
      first | exact hb18 h1 | (rcases h2 with h2 | h2 <;> omega)), (hv.kp [2, 2] 2 1)⟩
   case measure => show K.length - (((i + 1 : Nat) : Int)).toNat < K.length - ((i : Int)).toNat; omega
  refine uG (.bool false) rfl (ex_lss rfl rfl rfl (qF hb11)) (uW k10 ?_)
  refine cF rfl (xE ?_)
  refine tX (tX ?_)
  refine bH (tK k6 ?_)
  refine sK fun _ k25 => rL (uG (.agg #[vS [], vI 0, vS [], vN, vN, vN, vI 0]) rfl (ex_buildN (vs := #[]) rfl (by simp only [List.map_toArray, List.map_nil]) (by kernel_rfl)) ?_)
  refine xS 0 rfl hv v2sz82 rfl (by exact ⟨rfl, rfl, rfl, rfl, rfl, rfl, rfl, trivial⟩) (fun w26 hv => ?_)
  simp only [zO, sp] at hv
  refine uA rfl (uW k25 ?_)
  refine rR (bodyPost_ret (res_cell2 rfl rfl (lM 0 v2wd82 hv rfl rfl rfl rfl)) rfl ?_)
  obtain rfl : i = K.length := by omega
  exact ⟨zkey, _, _, _, false, rfl, .inr ⟨rfl, rfl, getK_none fun j y hy => hno j y (List.getElem?_eq_some_iff.1 hy).1 hy, rfl, rfl, rfl⟩, zkey_at _, (hv.kp [] 0 2)⟩
theorem v2fa28_2 : FA Tryz.prog 28 2 2 := fun w b o => by kernel_rfl
theorem v2mk9 : (Tryz.prog.info? 9).map (fun i => (i.zero, i.size, i.bytes)) = some (some (vS []), 1, 16) := by kernel_rfl
theorem v2el26 : Elem Tryz.prog 26 9 (vS []) 1 16 := elem_of Tryz.underlying26 v2mk9 (by rfl) (by decide)
theorem refWrote20 (B : Base) (H : List Res) (w : World) (K : List KeyR) (wl : List (List UInt8)) (ka wa : Option Addr) (kc wc : Nat) (xs : List Value) (clk : Int) (hR : RefV B K wl ka wa kc wc xs) (_ : K.length ≤ 10000) (hmw : wl.length ≤ 10000) (name : List UInt8) (hv : Inv B H w) :
  Calls Tryz.prog 51 #[.agg #[.slice ka K.length kc, vI clk, .slice wa wl.length wc], vS name] w fun e w' => ∃ C a c, B.Le C ∧ e = .returned (.slice a (wl.length + 1) c) ∧ SliceOk a (wl.length + 1) c ∧ RdV C [] a (textCells (wl ++ [name])) ∧ Inv C H w' := by
 refine cW Tryz.func51 rfl Tryz.ntmps51 ?_
 simp only [al]
 refine sK fun _ k1 => rL (sl_box (L := [.slice ka K.length kc, vI clk, .slice wa wl.length wc]) tV (wn rfl) rfl rfl hv (fun w => by kernel_rfl) (fun b2 w3 hv => ?_))
 refine uA rfl (uW k1 ?_)
 refine sK fun _ k4 => rL (uA rfl ?_)
 refine uW k4 (sK fun _ k5 => ?_)
 replace hv := hv.rowNil 9 1
 refine rL (uM rfl ?_)
 refine uF (.pointer (some ⟨b2, 2, none⟩)) rfl (v2fa28_2 _ _ _) ?_
 refine uL _ rfl (run_load1 s1na26 (hv.load 1 2 rfl rfl)) ?_
 refine sl_append (news := textCells wl) tV (wn rfl) rfl rfl rfl v2el26 hv hR.ok2 (by rw [textCells_len]) ((hR.wr.more (Base.Le.refl _) (fun _ h => by cases h)).src hv) ((textCells_one _)) (by unfold maxLen; omega) (by omega) (fun rv6 w9 hv => ?_)
 obtain ⟨ra7, rc8, rfl⟩ := row_slice hv.head
 refine uA rfl (uW k5 ?_)
 refine sK fun _ k10 => rL (uM rfl ?_)
 refine uM rfl ?_
 refine sl_rowOne (v := vS name) tV (wn rfl) rfl rfl hv v2el26 rfl (fun b11 w12 hv => ?_)
 simp only [zP, po]
 replace hv := hv.front 1 rfl
 simp only [eS, eZ] at hv
 refine sl_append (news := [vS name]) tV (wn rfl) rfl rfl rfl v2el26 hv (ok_full (by omega)) rfl (rd_all (hv.get 1 rfl)) (by intro u hu; simp only [List.mem_cons, List.not_mem_nil, or_false] at hu; rcases hu with rfl <;> rfl) (by unfold maxLen; omega) (by omega) (fun rv13 w16 hv => ?_)
 obtain ⟨ra14, rc15, rfl⟩ := row_slice hv.head
 refine uA rfl (uW k10 ?_)
 refine rR (bR rfl rfl ?_)
 obtain ⟨C, hB, hv2, hr2, hok2, -⟩ := ((hv.sub (sC _ (sD _ (sD _ (sR _)))))).rowBy
 exact ⟨C, _, _, hB, congrArg (fun n => Ending.returned (Value.slice ra14 n rc15)) (show 0 + wl.length + 1 = wl.length + 1 by omega), by simpa using hok2, by simpa [textCells] using hr2, hv2⟩
def others (K : List KeyR) (name : List UInt8) : List KeyR := K.filter fun x => !decide (x.name = name)
theorem others_yes {K : List KeyR} {name : List UInt8} {i : Nat} {x : KeyR} (hx : K[i]? = some x) (h : x.name ≠ name) : others (K.take (i + 1)) name = others (K.take i) name ++ [x] := by
 unfold others; rw [take_next hx, List.filter_append]; simp [h]
theorem others_no {K : List KeyR} {name : List UInt8} {i : Nat} {x : KeyR} (hx : K[i]? = some x) (h : ¬ x.name ≠ name) : others (K.take (i + 1)) name = others (K.take i) name := by
 unfold others; rw [take_next hx, List.filter_append]; simp [h]
theorem others_le (K : List KeyR) (name : List UInt8) : (others K name).length ≤ K.length := List.length_filter_le _ _
theorem v2mk82 : (Tryz.prog.info? 82).map (fun i => (i.zero, i.size, i.bytes)) = some (some (.agg #[vS [], vI 0, vS [], vN, vN, vN, vI 0]), 7, 120) := by kernel_rfl
theorem v2el25 : Elem Tryz.prog 25 82 (.agg #[vS [], vI 0, vS [], vN, vN, vN, vI 0]) 7 120 := elem_of Tryz.underlying25 v2mk82 (by rfl) (by decide)
theorem refWithout20 (B : Base) (H : List Res) (w : World) (K : List KeyR) (wl : List (List UInt8)) (ka wa : Option Addr) (kc wc : Nat) (xs : List Value) (clk : Int) (hR : RefV B K wl ka wa kc wc xs) (hm : K.length ≤ 10000) (_ : wl.length ≤ 10000) (name : List UInt8) (hv : Inv B H w) :
  Calls Tryz.prog 49 #[.agg #[.slice ka K.length kc, vI clk, .slice wa wl.length wc], vS name] w fun e w' => ∃ C a c ys, B.Le C ∧ e = .returned (.slice a (others K name).length c) ∧ SliceOk a (others K name).length c ∧ RdV C [] a ys ∧ KeysAt C (others K name) ys ∧ Inv C H w' := by
 refine cW Tryz.func49 rfl Tryz.ntmps49 ?_
 simp only [al]
 refine sK fun _ k1 => rL (sl_box (L := [.slice ka K.length kc, vI clk, .slice wa wl.length wc]) tV (wn rfl) rfl rfl hv (fun w => by kernel_rfl) (fun b2 w3 hv => ?_))
 refine uA rfl (uW k1 ?_)
 refine sK fun _ k4 => rL (uA rfl ?_)
 refine uW k4 (sK fun _ k5 => ?_)
 refine sK fun _ k6 => rL (uA rfl ?_)
 refine uW k6 (bB ?_)
 gi_loopw [5, 6] (fun x5 x6 wr => ∃ (i n1 : Nat) (ra : Option Addr) (rc : Nat) (ys : List Value), x5 = .slice ra n1 rc ∧ x6 = vI i ∧ i ≤ K.length ∧ n1 = (others (K.take i) name).length ∧ KeysAt B (others (K.take i) name) ys ∧ Inv B (Res.row 82 7 (.slice ra n1 rc) n1 ys :: Res.cell b2 [.slice ka K.length kc, vI clk, .slice wa wl.length wc] 28 :: H) wr) (fun x5 x6 _ => K.length - (intOf x6).toNat)
 case atStart => exact ⟨0, 0, none, 0, [], rfl, rfl, Nat.zero_le _, rfl, rfl, (hv).rowNil 82 7⟩
 case round =>
  obtain ⟨i, n1, ra, rc, ys, rfl, rfl, hi, hn1, hys, hv⟩ := hrel
  have hn1b := others_le (K.take i) name
  rw [List.length_take] at hn1b
  refine sK fun _ k8 => sK fun _ k9 => rL (uM rfl ?_)
  refine uF (vP b2) rfl (v2fa28_0 _ _ _) ?_
  refine uL _ rfl (run_load1 v2na25 (hv.load 1 0 rfl rfl)) ?_
  refine uG (vI (K.length : Int)) rfl (ex_len0 Tryz.underlying25 rfl rfl) ?_
  by_cases hb10 : (i : Int) < (K.length : Int)
  ·refine uG (.bool true) rfl (ex_lss rfl rfl rfl (qT hb10)) (uW k9 ?_)
   refine cT rfl (kS ?_)
   refine tK k8 (sK fun _ k11 => ?_)
   refine bB (sK fun _ k12 => ?_)
   obtain ⟨x, hx⟩ : ∃ x, K[i]? = some x := ⟨_, List.getElem?_eq_getElem (show i < K.length by omega)⟩
   obtain ⟨bb, bo, xp, xt, xz, had, hvalx, hrdx⟩ := KeysAt.reads hR.at_ hR.keys hx
   subst had
   refine rL (uF (vP b2) rfl (v2fa28_0 _ _ _) ?_)
   refine uL _ rfl (run_load1 v2na25 (hv.load 1 0 rfl rfl)) (uM rfl ?_)
   refine uG (.pointer (some ⟨bb, bo + i * 7, none⟩)) rfl (ex_index rfl rfl rfl (run_idx (k := i) Tryz.underlying25 v2es25 (by omega))) ?_
   refine uF (.pointer (some ⟨bb, bo + i * 7, none⟩)) rfl (v2fa82_0 _ _ _) ?_
   refine uL _ rfl (run_load1 s9na9 (hrdx _ _ _ (Base.Le.refl _) no_res hv 0 _ rfl)) (uM rfl ?_)
   by_cases hb13 : x.name ≠ name
   ·refine uG (.bool true) rfl (ex_sneq rfl rfl rfl (qT hb13)) (uW k12 ?_)
    refine cT rfl (rL ?_)
    refine uM rfl ?_
    refine uF (vP b2) rfl (v2fa28_0 _ _ _) ?_
    refine uL _ rfl (run_load1 v2na25 (hv.load 1 0 rfl rfl)) (uM rfl ?_)
    refine uG (.pointer (some ⟨bb, bo + i * 7, none⟩)) rfl (ex_index rfl rfl rfl (run_idx (k := i) Tryz.underlying25 v2es25 (by omega))) ?_
    refine uL (.agg #[vS x.name, vI x.val.kind, vS x.val.text, xp, xt, xz, vI x.exp]) rfl (run_loadR (cs := [vS x.name, vI x.val.kind, vS x.val.text, xp, xt, xz, vI x.exp]) v2wd82 (Reads.mid (pre := []) (mid := [vS x.name, vI x.val.kind, vS x.val.text, xp, xt, xz, vI x.exp]) (post := []) hrdx _ _ _ (Base.Le.refl _) no_res hv)) ?_
    refine sl_rowAgg (L := [vS x.name, vI x.val.kind, vS x.val.text, xp, xt, xz, vI x.exp]) tV (wn rfl) rfl rfl hv v2el25 rfl (by decide) (fun b14 w15 hv => ?_)
    replace hv := hv.front 1 rfl
    simp only [eS, eZ] at hv
    refine sl_append (news := [vS x.name, vI x.val.kind, vS x.val.text, xp, xt, xz, vI x.exp]) tV (wn rfl) rfl rfl rfl v2el25 hv (ok_full (by omega)) rfl (rd_all (hv.get 1 rfl)) (krCells_one (v := x) hvalx) (by unfold maxLen; omega) (by omega) (fun rv16 w19 hv => ?_)
    obtain ⟨ra17, rc18, rfl⟩ := row_slice hv.head
    refine uA rfl (uZ ?_)
    refine bN (tK k11 ?_)
    refine rL (uM rfl ?_)
    refine uG (vI ((i + 1 : Nat) : Int)) rfl (ex_add rfl rfl rfl (by rw [i64_in (by omega)]; omega)) (uA rfl ?_)
    refine uZ (then_normal ?_)
    go_roundw
    case rel => exact ⟨i + 1, n1 + 1, _, _, _, rfl, rfl, by omega, by rw [others_yes hx hb13, List.length_append, ← hn1]; rfl, by rw [others_yes hx hb13]; exact KeysAt.append (KeysAt.single hvalx) hys, (hv.kp [2, 1] 2 1)⟩
    case measure => show K.length - (((i + 1 : Nat) : Int)).toNat < K.length - ((i : Int)).toNat; omega
   refine uG (.bool false) rfl (ex_sneq rfl rfl rfl (qF hb13)) (uW k12 ?_)
   refine cF rfl (kS ?_)
   refine bN (tK k11 ?_)
   refine rL (uM rfl ?_)
   refine uG (vI ((i + 1 : Nat) : Int)) rfl (ex_add rfl rfl rfl (by rw [i64_in (by omega)]; omega)) (uA rfl ?_)
   refine uZ (then_normal ?_)
   go_roundw
   case rel => exact ⟨i + 1, n1, _, _, _, rfl, rfl, by omega, by rw [others_no hx hb13, ← hn1], by rw [others_no hx hb13]; exact hys, ((hv.front 1 rfl).front 1 rfl)⟩
   case measure => show K.length - (((i + 1 : Nat) : Int)).toNat < K.length - ((i : Int)).toNat; omega
  refine uG (.bool false) rfl (ex_lss rfl rfl rfl (qF hb10)) (uW k9 ?_)
  refine cF rfl (xE ?_)
  refine tX (tX ?_)
  refine bH (tK k5 ?_)
  refine sK fun _ k20 => rL (uM rfl ?_)
  refine uA rfl (uW k20 ?_)
  refine rR (bR rfl rfl ?_)
  obtain rfl : i = K.length := by omega
  rw [List.take_length] at hys hn1
  subst hn1
  obtain ⟨C, hB, hv2, hr2, hok2, -⟩ := ((hv.sub (sC _ (sD _ (sR _))))).rowBy
  exact ⟨C, _, _, _, hB, rfl, hok2, hr2, hys.more hB, hv2⟩
def delK (K : List KeyR) (clk : Int) (name : List UInt8) : List KeyR := if (getK K clk name).isSome then others K name else K
theorem v2al28 : AL Tryz.prog 28 [vN, vI 0, vN] := fun w => by kernel_rfl
theorem v2wd28 : Wide Tryz.prog 28 3 := wide_of (fun w => by kernel_rfl) (by kernel_rfl)
theorem v2callable32 : Callable Tryz.prog 32 := cb Tryz.func32 (by kernel_rfl)
theorem v2callable49 : Callable Tryz.prog 49 := cb Tryz.func49 (by kernel_rfl)
theorem v2callable51 : Callable Tryz.prog 51 := cb Tryz.func51 (by kernel_rfl)
theorem v2sz28 : (Tryz.prog.info? 28).map (·.size) = some 3 := by kernel_rfl
theorem refDel20 (B : Base) (H : List Res) (w : World) (K : List KeyR) (wl : List (List UInt8)) (ka wa : Option Addr) (kc wc : Nat) (xs : List Value) (clk : Int) (hR : RefV B K wl ka wa kc wc xs) (hm : K.length ≤ 10000) (hmw : wl.length ≤ 10000) (name : List UInt8) (hv : Inv B H w) :
  Calls Tryz.prog 48 #[.agg #[.slice ka K.length kc, vI clk, .slice wa wl.length wc], vS name] w fun e w' => ∃ C K' wl' ka' kc' wa' wc' xs', B.Le C ∧ e = .returned (.agg #[.slice ka' K'.length kc', vI clk, .slice wa' wl'.length wc']) ∧ RefV C K' wl' ka' wa' kc' wc' xs' ∧ K' = delK K clk name ∧ wl'.length ≤ wl.length + 1 ∧ Inv C H w' := by
 refine cW Tryz.func48 rfl Tryz.ntmps48 ?_
 simp only [al]
 refine sK fun _ k1 => rL (sl_box (L := [.slice ka K.length kc, vI clk, .slice wa wl.length wc]) tV (wn rfl) rfl rfl hv (fun w => by kernel_rfl) (fun b2 w3 hv => ?_))
 refine sl_alloc tV (wn rfl) rfl hv v2al28 (fun b4 w5 hv => ?_)
 refine uW k1 (sK fun _ k6 => ?_)
 refine rL (uL (.agg #[.slice ka K.length kc, vI clk, .slice wa wl.length wc]) rfl (lM 1 v2wd28 hv rfl rfl rfl rfl) ?_)
 refine uM rfl ?_
 refine xC v2callable32 rfl ((refGet20 B _ _ K wl ka wa kc wc xs clk hR hm hmw name hv).mono ?_) rfl
 rintro e w7 ⟨x, xp, xt, xz, ok, rfl, hget, hxv, hv⟩
 refine ⟨_, rfl, ?_⟩
 rcases hget with ⟨rfl, hget, -⟩ | ⟨rfl, -, hget, -⟩
 ·refine uM rfl (uE rfl ?_)
  refine uE rfl ?_
  refine sl_alloc tV (wn rfl) rfl hv v2al82 (fun b8 w9 hv => ?_)
  refine xS 0 rfl hv v2sz82 rfl (by exact ⟨rfl, rfl, rfl, hxv.p.one, hxv.t.one, hxv.z.one, rfl, trivial⟩) (fun w10 hv => ?_)
  simp only [zO, sp] at hv
  refine uA rfl (uW k6 ?_)
  refine sK fun _ k11 => sK fun _ k12 => rL (uM rfl ?_)
  refine uG (.bool false) rfl (ex_not rfl rfl rfl) (uW k12 ?_)
  refine cF rfl (kS ?_)
  refine tK k11 (sK fun _ k13 => ?_)
  refine rW mixed [2, 7, 9] [0,1,3,4,5,6,2,7,8,9] 25 rfl (by kernel_rfl) hv ?_
  simp only [qm, opAt]
  refine dL (.agg #[.slice ka K.length kc, vI clk, .slice wa wl.length wc]) rfl (fun hv => ex_load rfl rfl (lM 2 v2wd28 hv rfl rfl rfl rfl)) (dM (vS name) rfl ?_)
  refine dG (.pointer (some ⟨b2, 1, none⟩)) rfl (ex_field rfl rfl (v2fa28_1 _ _ _)) ?_
  simp only [zP, po]
  refine dF _ rfl (fun hv => ex_load rfl rfl (run_load1 s2na3 (hv.load 2 1 rfl rfl))) fun f14 hf14 => dF (.agg #[.slice ka K.length kc, vI clk, .slice wa wl.length wc]) rfl (fun hv => ex_load rfl rfl (lM 2 v2wd28 hv rfl rfl rfl rfl)) fun f15 hf15 => dM (vS name) rfl ?_
  simp only [zP, po]
  refine dS rfl fun w16 hv => mC v2callable49 rfl ((refWithout20 B _ _ K wl ka wa kc wc xs clk hR hm hmw name hv).mono ?_) rfl
  rintro e w17 ⟨C, la, lc, lys, hC, rfl, hlok, hlr, hlys, hv⟩
  refine ⟨_, rfl, dV hv (fC (fun ww hv => hf15 ww ?_) (fC (fun ww hv => hf14 ww (ex_load rfl rfl (run_load1 s2na3 (hv.load 2 1 rfl rfl)))) fN)) ?_⟩
  ·exact ex_load rfl rfl (lM 2 v2wd28 hv rfl rfl rfl rfl)
  refine dS rfl fun w18 hv => mC v2callable51 rfl ((refWrote20 C _ _ K wl ka wa kc wc xs clk (hR.more hC) hm hmw name hv).mono ?_) rfl
  rintro e w19 ⟨D, ya, yc, hD, rfl, hyok, hyr, hv⟩
  refine ⟨_, rfl, dV hv (fK rfl (fC (fun ww hv => hf14 ww (ex_load rfl rfl (run_load1 s2na3 (hv.load 2 1 rfl rfl)))) fN)) ?_⟩
  refine dG (.agg #[.slice la ((others K name).length) lc, vI clk, .slice ya (wl.length + 1) yc]) rfl (ex_buildN (vs := #[(0, .slice la ((others K name).length) lc), (1, vI clk), (2, .slice ya (wl.length + 1) yc)]) rfl (by simp only [List.map_toArray, List.map_cons, List.map_nil]; rfl) (by kernel_rfl)) ?_
  simp only [zP, po]
  refine dS rfl fun w20 hv => mS 1 rfl hv v2sz28 rfl (by exact ⟨rfl, rfl, rfl, trivial⟩) (fun w21 hv => ?_)
  simp only [zS, zO, sp] at hv
  refine dV hv (fK rfl (fK rfl fN)) (dE fun w22 hv => ?_)
  simp only [zP, po]
  refine tK k13 (rR ?_)
  refine bC 1 v2wd28 hv rfl rfl rfl rfl (⟨_, others K name, wl ++ [name], _, _, _, _, _, (hC.trans hD), by rw [List.length_append]; rfl, ⟨hlok, hlr.more hD (fun _ h => h), hlys.more hD, by rw [List.length_append]; exact hyok, hyr⟩, by unfold delK; rw [hget]; rfl, by rw [List.length_append]; exact Nat.le_refl _, (hv.kp [] 0 3)⟩)
 refine uM rfl (uE rfl ?_)
 refine uE rfl ?_
 refine sl_alloc tV (wn rfl) rfl hv v2al82 (fun b23 w24 hv => ?_)
 refine xS 0 rfl hv v2sz82 rfl (by exact ⟨rfl, rfl, rfl, hxv.p.one, hxv.t.one, hxv.z.one, rfl, trivial⟩) (fun w25 hv => ?_)
 simp only [zO, sp] at hv
 refine uA rfl (uW k6 ?_)
 refine sK fun _ k26 => sK fun _ k27 => rL (uM rfl ?_)
 refine uG (.bool true) rfl (ex_not rfl rfl rfl) (uW k27 ?_)
 refine cT rfl (sK fun _ k28 => ?_)
 refine rL (uL (.agg #[.slice ka K.length kc, vI clk, .slice wa wl.length wc]) rfl (lM 2 v2wd28 hv rfl rfl rfl rfl) ?_)
 refine xS 1 rfl hv v2sz28 rfl (by exact ⟨rfl, rfl, rfl, trivial⟩) (fun w29 hv => ?_)
 simp only [zS, zO, sp] at hv
 refine uW k28 (rR ?_)
 refine tR (bC 1 v2wd28 hv rfl rfl rfl rfl ?_)
 exact ⟨B, K, wl, _, _, _, _, _, Base.Le.refl _, rfl, hR, by unfold delK; rw [hget]; rfl, by omega, (hv.kp [] 0 3)⟩
end Go.Proofs.YtngpmolbphinnaaGreatDoor
namespace Go.Pm
open Go.RowKit
section
variable {B : Base} {X X' : List (List Ent)} {M : Model} {key : List UInt8} {i j : Nat}
end
section
variable {ti tb te : TypeId} {p : Nat} {n : Int} {X : List (List Ent)} {bvs : List Value} {B : Base} {H : List Res} {w : World}
end
theorem sorted_ext : ∀ {l1 l2 : List (List UInt8)}, l1.Pairwise (fun a b => Op.bytesLess a b = true) → l2.Pairwise (fun a b => Op.bytesLess a b = true) → (∀ k, k ∈ l1 ↔ k ∈ l2) → l1 = l2
 | [], [], _, _, _ => rfl
 | [], b :: l2, _, _, h => by have := (h b).2 List.mem_cons_self; cases this
 | a :: l1, [], _, _, h => by have := (h a).1 List.mem_cons_self; cases this
 | a :: l1, b :: l2, h1, h2, h => by
  obtain ⟨h1a, h1b⟩ := List.pairwise_cons.1 h1
  obtain ⟨h2a, h2b⟩ := List.pairwise_cons.1 h2
  have e : a = b := by
   rcases List.mem_cons.1 ((h a).1 List.mem_cons_self) with h3 | h3
   ·exact h3
   rcases List.mem_cons.1 ((h b).2 List.mem_cons_self) with h4 | h4
   ·exact h4.symm
   have h5 := h2a a h3
   rw [lt_asymm (h1a b h4)] at h5
   cases h5
  subst e
  rw [sorted_ext h1b h2b (fun k => ?_)]
  constructor
  ·intro hk
   rcases List.mem_cons.1 ((h k).1 (List.mem_cons_of_mem _ hk)) with h3 | h3
   ·exact absurd h3.symm (lt_ne (h1a k hk))
   exact h3
  intro hk
  rcases List.mem_cons.1 ((h k).2 (List.mem_cons_of_mem _ hk)) with h3 | h3
  ·exact absurd h3.symm (lt_ne (h2a k hk))
  exact h3
def SortedT (l : List (List UInt8)) : Prop := l.Pairwise (fun a b => Op.bytesLess a b = true)
theorem RdV.shift {B : Base} {H : List Res} {b off : Nat} {xs : List Value} (h : RdV B H (some ⟨b, off, none⟩) xs) (k : Nat) : RdV B H (some ⟨b, off + k, none⟩) (xs.drop k) := fun i hi => by
 rw [List.length_drop] at hi
 obtain ⟨b', off', h1, h2⟩ := h (k + i) (by omega)
 cases h1
 refine ⟨b, off + k, rfl, ?_⟩
 rw [List.getElem_drop, Nat.add_assoc]
 exact h2
theorem rdV_nil_any (B : Base) (ad : Option Addr) : RdV B [] ad [] := fun i hi => by simp at hi
theorem sliced_rdV {B : Base} {ad : Option Addr} {n c k : Nat} {xs : List Value} (size : Nat) (hr : RdV B [] ad xs) (hl : xs.length = n * size) (hn : n ≤ c) (hk : k ≤ n) (hz : 0 < size) : ∃ a2, sliced ad k n c size = .slice a2 (n - k) (c - k) ∧ RdV B [] a2 (xs.drop (k * size)) := by
 rcases Nat.lt_or_ge k n with h | h
 ·have h1 : 0 < xs.length := by rw [hl]; exact Nat.mul_pos (by omega) hz
  obtain ⟨b, off, rfl, -⟩ := hr 0 h1
  refine ⟨some ⟨b, off + k * size, none⟩, ?_, hr.shift _⟩
  unfold sliced
  rw [if_neg (by omega), Option.map_some, addr_add]
 obtain rfl : k = n := by omega
 have hd : xs.drop (k * size) = [] := List.drop_of_length_le (by omega)
 refine ⟨_, rfl, ?_⟩
 rw [hd]
 exact rdV_nil_any _ _
theorem le_of {B : Base} {H : List Res} {w : World} (hv : Inv B H w) : B.Le (Base.of w) := ⟨hv.base.blk, hv.base.lo, hv.base.os, hv.base.tape, hv.base.output⟩
section
variable {M : Model} {key : List UInt8} {l : List Ver} {k : Nat} {ok : Bool}
end
theorem sliced_fromV {B : Base} {ad : Option Addr} {n c k : Nat} {xs : List Value} (size : Nat) (hok : SliceOk ad n c) (hr : RdV B [] ad xs) (hl : xs.length = n * size) (hk : k ≤ n) (hz : 0 < size) : ∃ a2 c2, sliced ad k n c size = .slice a2 (n - k) c2 ∧ SliceOk a2 (n - k) c2 ∧ RdV B [] a2 (xs.drop (k * size)) := by
 have hle := hok.le
 have hmx := hok.max
 rcases Nat.lt_or_ge k n with h | h
 ·obtain ⟨a2, h1, h2⟩ := sliced_rdV size hr hl hle hk hz
  refine ⟨a2, c - k, h1, ⟨by omega, by unfold maxLen at hmx ⊢; omega, fun e => ?_⟩, h2⟩
  subst e
  have hlt : 0 < (xs.drop (k * size)).length := by
   rw [List.length_drop, hl]
   have := Nat.mul_lt_mul_of_pos_right h hz
   omega
  obtain ⟨b, off, h3, -⟩ := h2 0 hlt
  cases h3
 obtain rfl : k = n := by omega
 have hd : xs.drop (k * size) = [] := List.drop_of_length_le (by omega)
 rw [hd]
 unfold sliced
 by_cases hc : c = k
 ·rw [if_pos hc]
  exact ⟨ad, c - k, rfl, ⟨by omega, by unfold maxLen at hmx ⊢; omega, fun _ => by omega⟩, rdV_nil_any _ _⟩
 rw [if_neg hc]
 refine ⟨_, c - k, rfl, ⟨by omega, by unfold maxLen at hmx ⊢; omega, fun e => ?_⟩, rdV_nil_any _ _⟩
 cases ad with
 | none => have := hok.nil rfl; omega
 | some a => cases e
section
variable {P : Program} {t : TypeId} {w : World}
end
structure ValRd (B : Base) (v : Val) (p t z : Value) : Prop where
 p : RowB B p v.pairs.length (pairCells v.pairs)
 t : RowB B t v.texts.length (textCells v.texts)
 z : RowB B z v.zset.length (memCells v.zset)
theorem ValRd.more {B C : Base} {v : Val} {p t z : Value} (h : ValRd B v p t z) (hB : B.Le C) : ValRd C v p t z := ⟨h.p.more hB, h.t.more hB, h.z.more hB⟩
def ValSm (v : Val) : Prop := v.pairs.length ≤ 60 ∧ v.texts.length ≤ 600 ∧ v.zset.length ≤ 60
section
variable {P : Program} {a : Act} {w : World} {o : Oper} {t u : TypeId} {x y : Operand}
end
end Go.Pm
