/- Short names for the steps of the walks (mkmerge.py writes them into a claim's texts). -/
import Derived.Test.YtmpackidbgfoiaaGreatDoorCtFauA
import Derived.Test.YtmpackidbgfoiaaGreatDoorCtFauB
import Derived.Test.YtmpackidbgfoiaaGreatDoorRows
set_option maxRecDepth 100000
set_option maxHeartbeats 16000000
set_option synthInstance.maxSize 4096
set_option synthInstance.maxHeartbeats 400000
namespace Go.Pm
open Go.RowKit
abbrev FA (P : Program) (t k n : Nat) : Prop := ∀ (w : World) (b o : Nat), (Instr.fieldAt t (.pointer (some ⟨b, o, none⟩)) k).run P w = .ok (.pointer (some ⟨b, o + n, none⟩)) w
abbrev AL (P : Program) (t : Nat) (L : List Value) : Prop := ∀ w : World, (Instr.alloc t true (.tuple #[])).run P w = .ok (.pointer (some ⟨w.heap.size, 0, none⟩)) (w.alloc (.cells L.toArray t))
theorem cb {P : Program} {f : FuncId} {fn : Func} (h : P.funcs[f]? = some fn) (hb : ((fn.name == "runtime.NumGoroutine"), fn.body.isSome) = (false, true)) : Callable P f := ⟨fn, h, (Prod.mk.inj hb).1, (Prod.mk.inj hb).2⟩
abbrev vP (b : Nat) : Value := .pointer (some ⟨b, 0, none⟩)
abbrev vI (n : Int) : Value := .int .i64 n
abbrev vS (l : List UInt8) : Value := .string ⟨l.toArray⟩
abbrev vN : Value := .slice none 0 0
theorem sC {α : Type _} {l k : List α} (x : α) (h : l.Sublist k) : (x :: l).Sublist (x :: k) := .cons_cons x h
theorem sD {α : Type _} {l k : List α} (x : α) (h : l.Sublist k) : l.Sublist (x :: k) := .cons x h
theorem sR {α : Type _} (l : List α) : l.Sublist l := .refl l
theorem eS {α : Type _} {x : α} {xs : List α} {i : Nat} : (x :: xs).eraseIdx (i + 1) = x :: xs.eraseIdx i := rfl
theorem eZ {α : Type _} {x : α} {xs : List α} : (x :: xs).eraseIdx 0 = xs := rfl
theorem qT {p : Prop} [Decidable p] (h : p) : decide p = true := decide_eq_true h
theorem qF {p : Prop} [Decidable p] (h : ¬ p) : decide p = false := decide_eq_false h
def po {α : Type} : List α → Option Nat → α → List α
 | l, none, _ => l
 | [], some _, _ => []
 | _ :: l, some 0, v => v :: l
 | x :: l, some (n + 1), v => x :: po l (some n) v
def al : List Value → Nat → List Value
 | l, 0 => l
 | [], n + 1 => undef :: al [] n
 | x :: l, n + 1 => x :: al l n
def sp : List Value → Nat → List Value → List Value
 | l, 0, [] => l
 | _ :: l, 0, v :: k => v :: sp l 0 k
 | x :: l, n + 1, k => x :: sp l n k
 | [], _, _ => []
theorem po_set {α : Type} (l : List α) (i : Nat) (v : α) : po l (some i) v = l.set i v := by
 induction l generalizing i with
 | nil => simp [po]
 | cons x l ih => cases i <;> simp [po, ih]
theorem zP {l : List Value} {ds : List Deferred} {o : Option Tmp} {v : Value} : Act.put ⟨l.toArray, ds⟩ o v = ⟨(po l o v).toArray, ds⟩ := by
 cases o with
 | none => simp [Act.put, po]
 | some i => simp [Act.put, po_set]
theorem al_eq (l : List Value) (n : Nat) : al l n = l ++ List.replicate (n - l.length) undef := by
 induction n generalizing l with
 | zero => cases l <;> simp [al]
 | succ n ih => cases l with
  | nil => rw [al, ih]; simp [List.replicate_succ]
  | cons x l => rw [al, ih]; simp
theorem cW {P : Program} {f : FuncId} {fn : Func} {c : Code} {l : List Value} {w : World} {k : Nat} {R : Ending → World → Prop} (hf : P.funcs[f]? = some fn) (hb : fn.body = some c) (hk : fn.ntmps = k)
  (h : c.wpIn Fence.wide 5 P (bodyPost P fn R) ⟨(al l k).toArray, []⟩ w) : Calls P f l.toArray w R := by
 refine (callsIn_wide (n := 5)).1 (callsIn_of_wp hf hb trivial ?_)
 have e : l.toArray ++ Array.replicate (fn.ntmps - l.toArray.size) undef = (al l k).toArray := by
  apply Array.ext'
  rw [al_eq, hk]; simp
 rw [e]; exact h
theorem lM {B : Base} {H : List Res} {w : World} {P : Program} {t e : TypeId} {b off k : Nat} {L mid : List Value} (i : Nat) (hw : Wide P t k) (hv : Inv B H w) (hi : H[i]? = some (Res.cell b L e)) (hm : (L.drop off).take k = mid) (hk : mid.length = k) (ho : Nat.ble off L.length = true) :
  (Instr.loadAt t (.pointer (some ⟨b, off, none⟩))).run P w = .ok (.agg mid.toArray) w := by
 have hb : Blk w b L e := hv.get i hi
 subst hk
 have h1 : L = L.take off ++ mid ++ (L.drop off).drop mid.length := by
  rw [List.append_assoc]
  conv => lhs; rw [← List.take_append_drop off L]
  congr 1
  conv => lhs; rw [← List.take_append_drop mid.length (L.drop off), hm]
 rw [h1] at hb
 exact run_load_mid hw hb (by rw [List.length_take, Nat.min_eq_left (Nat.le_of_ble_eq_true ho)])
theorem bC {fn : Func} {R : Ending → World → Prop} {P : Program} {B : Base} {H : List Res} {w : World} {a : Act} {t e : TypeId} {r b : Nat} {L : List Value} (i : Nat) (hw : Wide P t L.length) (hv : Inv B H w) (hi : H[i]? = some (Res.cell b L e)) (h : fn.results = #[.cell r t]) (hr : a.tmps.getD r undef = .pointer (some ⟨b, 0, none⟩)) (hd : a.defers = []) (hR : R (.returned (.agg L.toArray)) w) : bodyPost P fn R .ret a w :=
 bodyPost_ret (res_cell1 h hr (lM i hw hv hi (by simp) rfl (by simp))) hd hR
def pfr : List Res → List Nat → List Res
 | H, [] => H
 | H, k :: ks => match H[k]? with
  | some r => pfr (r :: H.eraseIdx k) ks
  | none => H
theorem inv_pfr {B : Base} {w : World} : ∀ (ks : List Nat) {H : List Res}, Inv B H w → Inv B (pfr H ks) w
 | [], _, h => h
 | k :: ks, H, h => by
  unfold pfr
  split
  ·rename_i r hk; exact inv_pfr ks (h.front k hk)
  ·exact h
theorem kp_sub {α : Type _} (m d : Nat) (l : List α) : (l.take m ++ (l.drop m).drop d).Sublist l := by
 conv => rhs; rw [← List.take_append_drop m l]
 exact (List.Sublist.refl _).append (List.drop_sublist _ _)
theorem Inv.kp {B : Base} {w : World} {H : List Res} (h : Inv B H w) (ks : List Nat) (m d : Nat) : Inv B ((pfr H ks).take m ++ ((pfr H ks).drop m).drop d) w := (inv_pfr ks h).sub (kp_sub m d _)
theorem zI {α : Type} {l : List α} {i : Nat} {a : α} : l.toArray.setIfInBounds i a = (l.set i a).toArray := by simp
theorem zS {α : Type} {l : List α} {i : Nat} {a b : α} : (a :: l).set (i + 1) b = a :: l.set i b := rfl
theorem zO {α : Type} {l : List α} {a b : α} : (a :: l).set 0 b = b :: l := rfl
theorem yA {α β : Type} {f : α → β} {l : List α} : Array.map f l.toArray = (List.map f l).toArray := by simp
theorem yB {α β : Type} {f : α → β} {a : α} {l : List α} : List.map f (a :: l) = f a :: List.map f l := rfl
theorem yC {α β : Type} {f : α → β} : List.map f [] = [] := rfl
theorem tV (f : FuncId) : Fence.wide.fn f := trivial
def All1 : List Value → Prop
 | [] => True
 | v :: l => v.oneCell' = true ∧ All1 l
theorem All1.at : ∀ {l : List Value}, All1 l → ∀ v ∈ l, v.oneCell' = true
 | x :: l, h, v, hv => by
  rcases List.mem_cons.1 hv with rfl | hv
  ·exact h.1
  ·exact All1.at h.2 v hv
theorem sp_eq : ∀ (n : Nat) (l k : List Value), n + k.length ≤ l.length → ∃ p m q, l = p ++ m ++ q ∧ p.length = n ∧ k.length = m.length ∧ p ++ k ++ q = sp l n k
 | 0, l, [], _ => ⟨[], [], l, by simp, rfl, rfl, by cases l <;> simp [sp]⟩
 | 0, [], v :: k, h => by simp at h
 | 0, x :: l, v :: k, h => by
  obtain ⟨p, m, q, h1, h2, h3, h4⟩ := sp_eq 0 l k (by simp at h; omega)
  obtain rfl := List.eq_nil_of_length_eq_zero h2
  refine ⟨[], x :: m, q, ?_, rfl, by simp [h3], ?_⟩
  ·rw [h1]; simp
  ·rw [sp, ← h4]; simp
 | n + 1, [], k, h => by simp at h
 | n + 1, x :: l, k, h => by
  obtain ⟨p, m, q, h1, h2, h3, h4⟩ := sp_eq n l k (by simp at h; omega)
  refine ⟨x :: p, m, q, by rw [h1]; simp, by simp [h2], h3, ?_⟩
  rw [sp, ← h4]; simp
theorem sp_one (n : Nat) (l : List Value) (v : Value) : sp l n [v] = l.set n v := by
 induction n generalizing l with
 | zero => cases l with
  | nil => simp [sp]
  | cons x l => cases l <;> simp [sp]
 | succ n ih => cases l with
  | nil => simp [sp]
  | cons x l => rw [sp, ih]; simp
class GtN (l : List Value) (n : Nat) (v : outParam Value) : Prop where h : l[n]? = some v
instance gz {v : Value} {l : List Value} : GtN (v :: l) 0 v := ⟨rfl⟩
instance gs {u v : Value} {l : List Value} {n : Nat} [h : GtN l n v] : GtN (u :: l) (n + 1) v := ⟨by rw [List.getElem?_cons_succ]; exact h.h⟩
class Gt (l : List Value) (x : Operand) (v : outParam Value) : Prop where h : ∀ ds, (Act.mk l.toArray ds).eval x = v
instance gC {l : List Value} {c : Value} : Gt l (.const c) c := ⟨fun _ => rfl⟩
instance gG {l : List Value} {g : Nat} : Gt l (.global g) (.pointer (some ⟨g, 0, none⟩)) := ⟨fun _ => rfl⟩
instance iF {l : List Value} {f : FuncId} : Gt l (.func f) (.func (.func f) #[] #[]) := ⟨fun _ => rfl⟩
instance gT {l : List Value} {n : Nat} {v : Value} [h : GtN l n v] : Gt l (.tmp n) v := ⟨fun _ => by
 show l.toArray.getD n undef = v
 rw [Array.getD_eq_getD_getElem?, List.getElem?_toArray, h.h]; rfl⟩
class PtN (l : List Value) (n : Nat) (v : Value) (k : outParam (List Value)) : Prop where h : l.set n v = k
instance pZ {x v : Value} {l : List Value} : PtN (x :: l) 0 v (v :: l) := ⟨rfl⟩
instance pS {x v : Value} {l k : List Value} {n : Nat} [h : PtN l n v k] : PtN (x :: l) (n + 1) v (x :: k) := ⟨by rw [List.set_cons_succ, h.h]⟩
class Pt (l : List Value) (d : Option Nat) (v : Value) (k : outParam (List Value)) : Prop where h : ∀ ds, (Act.mk l.toArray ds).put d v = ⟨k.toArray, ds⟩
instance pN {v : Value} {l : List Value} : Pt l none v l := ⟨fun _ => rfl⟩
instance pO {v : Value} {l k : List Value} {n : Nat} [h : PtN l n v k] : Pt l (some n) v k := ⟨fun _ => by simp [Act.put, h.h]⟩
class Nf (a : Act) (l : outParam (List Value)) (ds : outParam (List Deferred)) : Prop where h : a = ⟨l.toArray, ds⟩
instance nM {l : List Value} {ds : List Deferred} : Nf ⟨l.toArray, ds⟩ l ds := ⟨rfl⟩
instance nP {a : Act} {l k : List Value} {ds : List Deferred} {d : Option Nat} {v : Value} [h : Nf a l ds] [p : Pt l d v k] : Nf (a.put d v) k ds := ⟨by rw [h.h]; exact p.h ds⟩
class Pk (l : List Value) (b : Bool) (y z : Operand) (v : outParam Value) : Prop where h : ∀ ds, (Act.mk l.toArray ds).eval (if b then y else z) = v
instance kT {l : List Value} {y z : Operand} {v : Value} [g : Gt l y v] : Pk l true y z v := ⟨fun ds => by rw [if_pos rfl]; exact g.h ds⟩
instance kF {l : List Value} {y z : Operand} {v : Value} [g : Gt l z v] : Pk l false y z v := ⟨fun ds => by rw [if_neg (by decide)]; exact g.h ds⟩
section
variable {n : Nat} {P : Program} {ops : Array Oper} {Q : Exit → Act → World → Prop} {a : Act} {w w' : World} {rest : List Oper} {o : Oper} {x y z : Operand} {l k : List Value} {ds : List Deferred} {v : Value}
theorem uM [f : Nf a l ds] (hw : (Region.wanted o (yielded ops a.tmps), o.op) = (true, .move x)) [g : Gt l x v] [p : Pt l o.dst v k] (h : wpListIn Fence.wide n P ops Q rest ⟨k.toArray, ds⟩ w) : wpListIn Fence.wide n P ops Q (o :: rest) a w := by
 cases f.h
 simp only [Prod.mk.injEq] at hw
 exact wpi_exG tV hw.1 (by unfold isDefer; rw [hw.2]) (ex_move hw.2 (g.h ds)) (by rw [p.h]; exact h)
theorem uA [f : Nf a l ds] (hw : (Region.wanted o (yielded ops a.tmps), o.op) = (true, .assign x)) [g : Gt l x v] [p : Pt l o.dst v k] (h : wpListIn Fence.wide n P ops Q rest ⟨k.toArray, ds⟩ w) : wpListIn Fence.wide n P ops Q (o :: rest) a w := by
 cases f.h
 simp only [Prod.mk.injEq] at hw
 exact wpi_exG tV hw.1 (by unfold isDefer; rw [hw.2]) (ex_assign hw.2 (g.h ds)) (by rw [p.h]; exact h)
theorem uK {b : Bool} [f : Nf a l ds] (hw : (Region.wanted o (yielded ops a.tmps), o.op) = (true, .pick x y z)) [gx : Gt l x (.bool b)] [g : Pk l b y z v] [p : Pt l o.dst v k] (h : wpListIn Fence.wide n P ops Q rest ⟨k.toArray, ds⟩ w) : wpListIn Fence.wide n P ops Q (o :: rest) a w := by
 cases f.h
 simp only [Prod.mk.injEq] at hw
 exact wpi_exG tV hw.1 (by unfold isDefer; rw [hw.2]) (ex_pick (b := b) hw.2 (gx.h ds) (by have := g.h ds; cases b <;> exact this)) (by rw [p.h]; exact h)
theorem uE {vs : List Value} {i : Nat} [f : Nf a l ds] (hw : (Region.wanted o (yielded ops a.tmps), o.op) = (true, .extract x i)) [g : Gt l x (.tuple vs.toArray)] [e : GtN vs i v] [p : Pt l o.dst v k] (h : wpListIn Fence.wide n P ops Q rest ⟨k.toArray, ds⟩ w) : wpListIn Fence.wide n P ops Q (o :: rest) a w := by
 cases f.h
 simp only [Prod.mk.injEq] at hw
 exact wpi_exG tV hw.1 (by unfold isDefer; rw [hw.2]) (ex_extract hw.2 (g.h ds) (by simpa using e.h)) (by rw [p.h]; exact h)
theorem uG (v : Value) [f : Nf a l ds] (hw : (Region.wanted o (yielded ops a.tmps), isDefer o) = (true, false)) (hr : Ex P a o w v w') [p : Pt l o.dst v k] (h : wpListIn Fence.wide n P ops Q rest ⟨k.toArray, ds⟩ w') : wpListIn Fence.wide n P ops Q (o :: rest) a w := by
 cases f.h
 exact wpi_exG tV (Prod.mk.inj hw).1 (Prod.mk.inj hw).2 hr (by rw [p.h]; exact h)
theorem uL (v : Value) {t : TypeId} {q : Value} [f : Nf a l ds] (hw : (Region.wanted o (yielded ops a.tmps), o.op, a.eval x) = (true, .load t x, q)) (hr : (Instr.loadAt t q).run P w = .ok v w) [p : Pt l o.dst v k] (h : wpListIn Fence.wide n P ops Q rest ⟨k.toArray, ds⟩ w) : wpListIn Fence.wide n P ops Q (o :: rest) a w := by
 cases f.h
 simp only [Prod.mk.injEq] at hw
 exact wpi_exG tV hw.1 (by unfold isDefer; rw [hw.2.1]) (ex_load hw.2.1 hw.2.2 hr) (by rw [p.h]; exact h)
theorem uF (v : Value) {t : TypeId} {j : Nat} {q : Value} [f : Nf a l ds] (hw : (Region.wanted o (yielded ops a.tmps), o.op, a.eval x) = (true, .fieldAddr t x j, q)) (hr : (Instr.fieldAt t q j).run P w = .ok v w) [p : Pt l o.dst v k] (h : wpListIn Fence.wide n P ops Q rest ⟨k.toArray, ds⟩ w) : wpListIn Fence.wide n P ops Q (o :: rest) a w := by
 cases f.h
 simp only [Prod.mk.injEq] at hw
 exact wpi_exG tV hw.1 (by unfold isDefer; rw [hw.2.1]) (ex_field hw.2.1 hw.2.2 hr) (by rw [p.h]; exact h)
theorem uP [f : Nf a l ds] (hw : Region.wanted o (yielded ops a.tmps) = false) [p : Pt l o.dst undef k] (h : wpListIn Fence.wide n P ops Q rest ⟨k.toArray, ds⟩ w) : wpListIn Fence.wide n P ops Q (o :: rest) a w := by
 cases f.h
 exact wpi_not tV hw (by rw [p.h]; exact h)
theorem uW {K X : Act → World → Prop} [f : Nf a l ds] (hk : ∀ a w, X a w → K a w) (h : X ⟨l.toArray, ds⟩ w) : wpListIn Fence.wide n P ops (Exit.then K Q) [] a w := by
 cases f.h; exact wpListIn_nil (hk _ w h)
theorem uZ [f : Nf a l ds] (h : Q .normal ⟨l.toArray, ds⟩ w) : wpListIn Fence.wide n P ops Q [] a w := by
 cases f.h; exact wpListIn_nil h
end
section
variable {n : Nat} {P : Program} {ops : Array Oper} {Q : Exit → Act → World → Prop} {a : Act} {w w' : World} {rest : List Oper} {o : Oper} {x y z : Operand}
theorem xG (v : Value) (hw : (Region.wanted o (yielded ops a.tmps), isDefer o) = (true, false)) (hr : Ex P a o w v w') (h : wpListIn Fence.wide n P ops Q rest (a.put o.dst v) w') : wpListIn Fence.wide n P ops Q (o :: rest) a w :=
 wpi_exG tV (Prod.mk.inj hw).1 (Prod.mk.inj hw).2 hr h
theorem xM (v : Value) (hw : (Region.wanted o (yielded ops a.tmps), o.op, a.eval x) = (true, .move x, v)) (h : wpListIn Fence.wide n P ops Q rest (a.put o.dst v) w) : wpListIn Fence.wide n P ops Q (o :: rest) a w := by
 simp only [Prod.mk.injEq] at hw
 exact wpi_exG tV hw.1 (by unfold isDefer; rw [hw.2.1]) (ex_move hw.2.1 hw.2.2) h
theorem xA (v : Value) (hw : (Region.wanted o (yielded ops a.tmps), o.op, a.eval x) = (true, .assign x, v)) (h : wpListIn Fence.wide n P ops Q rest (a.put o.dst v) w) : wpListIn Fence.wide n P ops Q (o :: rest) a w := by
 simp only [Prod.mk.injEq] at hw
 exact wpi_exG tV hw.1 (by unfold isDefer; rw [hw.2.1]) (ex_assign hw.2.1 hw.2.2) h
theorem xK (b : Bool) (v : Value) (hw : (Region.wanted o (yielded ops a.tmps), o.op, a.eval x, a.eval (cond b y z)) = (true, .pick x y z, .bool b, v)) (h : wpListIn Fence.wide n P ops Q rest (a.put o.dst v) w) : wpListIn Fence.wide n P ops Q (o :: rest) a w := by
 simp only [Prod.mk.injEq] at hw
 exact wpi_exG tV hw.1 (by unfold isDefer; rw [hw.2.1]) (ex_pick (b := b) hw.2.1 hw.2.2.1 (by cases b <;> exact hw.2.2.2)) h
theorem xL (v : Value) {t : TypeId} {p : Value} (hw : (Region.wanted o (yielded ops a.tmps), o.op, a.eval x) = (true, .load t x, p)) (hr : (Instr.loadAt t p).run P w = .ok v w) (h : wpListIn Fence.wide n P ops Q rest (a.put o.dst v) w) : wpListIn Fence.wide n P ops Q (o :: rest) a w := by
 simp only [Prod.mk.injEq] at hw
 exact wpi_exG tV hw.1 (by unfold isDefer; rw [hw.2.1]) (ex_load hw.2.1 hw.2.2 hr) h
theorem xF (v : Value) {t : TypeId} {f : Nat} {p : Value} (hw : (Region.wanted o (yielded ops a.tmps), o.op, a.eval x) = (true, .fieldAddr t x f, p)) (hr : (Instr.fieldAt t p f).run P w = .ok v w) (h : wpListIn Fence.wide n P ops Q rest (a.put o.dst v) w) : wpListIn Fence.wide n P ops Q (o :: rest) a w := by
 simp only [Prod.mk.injEq] at hw
 exact wpi_exG tV hw.1 (by unfold isDefer; rw [hw.2.1]) (ex_field hw.2.1 hw.2.2 hr) h
theorem xC {f : FuncId} {xs : Array Operand} {ts : Array TypeId} {l : List Value} (hf : Callable P f) (hw : (Region.wanted o (yielded ops a.tmps), o.op) = (true, .call { callee := .value (.func f), args := xs, argTypes := ts }))
  (hc : Calls P f l.toArray w fun e w' => ∃ v, e = .returned v ∧ wpListIn Fence.wide n P ops Q rest (a.put o.dst v) w') (hx : xs.toList.map a.eval = l) : wpListIn Fence.wide n P ops Q (o :: rest) a w :=
 wpi_callG hf tV wideC rfl (Prod.mk.inj hw).1 (Prod.mk.inj hw).2 (by rw [← hx]; apply Array.ext'; simp) hc
variable {B : Base} {H : List Res} {b off : Nat} {k L : List Value} {t e : TypeId} {v : Value} {J : List Value → World → Prop} {vals : List Value}
theorem mC {f : FuncId} {xs : Array Operand} {ts : Array TypeId} {l : List Value} (hf : Callable P f) (hw : (Region.wanted o (yielded ops a.tmps), o.op) = (true, .call { callee := .value (.func f), args := xs, argTypes := ts }))
  (hc : Calls P f l.toArray w fun e w' => ∃ v, e = .returned v ∧ J (vals ++ [v]) w') (hx : xs.toList.map a.eval = l) : StepMem P ops J Q o a w vals :=
 stepMem_calls hf (Prod.mk.inj hw).1 (Prod.mk.inj hw).2 (by rw [← hx]; apply Array.ext'; simp) hc
theorem xS (i : Nat) (hw : (Region.wanted o (yielded ops a.tmps), o.op, a.eval x, a.eval y, H[i]?) = (true, .store t x y, .pointer (some ⟨b, off, none⟩), .agg k.toArray, some (Res.cell b L e))) (hv : Inv B H w) (hz : (P.info? t).map (·.size) = some k.length) (hl : Nat.ble (off + k.length) L.length = true) (h1 : All1 k)
  (h : ∀ w', Inv B (H.set i (Res.cell b (sp L off k) e)) w' → wpListIn Fence.wide n P ops Q rest (a.put o.dst undef) w') : wpListIn Fence.wide n P ops Q (o :: rest) a w := by
 simp only [Prod.mk.injEq] at hw
 obtain ⟨p, m, q, e1, e2, e3, e4⟩ := sp_eq off L k (Nat.le_of_ble_eq_true hl)
 exact sl_storeNAt i (new := k) (pre := p) (mid := m) (post := q) (L' := sp L off k) tV hw.1 hw.2.1 hw.2.2.1 hw.2.2.2.1 hv hw.2.2.2.2 hz e1 e2 e3 h1.at e4 h
theorem xV (i : Nat) (v : Value) (hw : (Region.wanted o (yielded ops a.tmps), o.op, a.eval x, a.eval y, H[i]?, Nat.blt off L.length) = (true, .store t x y, .pointer (some ⟨b, off, none⟩), v, some (Res.cell b L e), true)) (hv : Inv B H w) (hz : (P.info? t).map (·.size) = some 1) (hc : v.cells = #[v]) (h1 : v.oneCell' = true)
  (h : ∀ w', Inv B (H.set i (Res.cell b (sp L off [v]) e)) w' → wpListIn Fence.wide n P ops Q rest (a.put o.dst undef) w') : wpListIn Fence.wide n P ops Q (o :: rest) a w := by
 simp only [Prod.mk.injEq] at hw
 exact sl_storeAt i (L' := sp L off [v]) tV hw.1 hw.2.1 hw.2.2.1 hw.2.2.2.1 hv hw.2.2.2.2.1 hz (Nat.le_of_ble_eq_true hw.2.2.2.2.2) hc h1 (sp_one _ _ _).symm h
theorem mS (i : Nat) (hw : (Region.wanted o (yielded ops a.tmps), o.op, a.eval x, a.eval y, H[i]?) = (true, .store t x y, .pointer (some ⟨b, off, none⟩), .agg k.toArray, some (Res.cell b L e))) (hv : Inv B H w) (hz : (P.info? t).map (·.size) = some k.length) (hl : Nat.ble (off + k.length) L.length = true) (h1 : All1 k)
  (h : ∀ w', Inv B (H.set i (Res.cell b (sp L off k) e)) w' → J (vals ++ [undef]) w') : StepMem P ops J Q o a w vals := by
 simp only [Prod.mk.injEq] at hw
 obtain ⟨p, m, q, e1, e2, e3, e4⟩ := sp_eq off L k (Nat.le_of_ble_eq_true hl)
 exact mem_storeNAt i (new := k) (pre := p) (mid := m) (post := q) (L' := sp L off k) hw.1 hw.2.1 hw.2.2.1 hw.2.2.2.1 hv hw.2.2.2.2 hz e1 e2 e3 h1.at e4 h
theorem mV (i : Nat) (v : Value) (hw : (Region.wanted o (yielded ops a.tmps), o.op, a.eval x, a.eval y, H[i]?, Nat.blt off L.length) = (true, .store t x y, .pointer (some ⟨b, off, none⟩), v, some (Res.cell b L e), true)) (hv : Inv B H w) (hz : (P.info? t).map (·.size) = some 1) (hc : v.cells = #[v]) (h1 : v.oneCell' = true)
  (h : ∀ w', Inv B (H.set i (Res.cell b (sp L off [v]) e)) w' → J (vals ++ [undef]) w') : StepMem P ops J Q o a w vals := by
 simp only [Prod.mk.injEq] at hw
 exact mem_storeAt i (L' := sp L off [v]) hw.1 hw.2.1 hw.2.2.1 hw.2.2.2.1 hv hw.2.2.2.2.1 hz (Nat.le_of_ble_eq_true hw.2.2.2.2.2) hc h1 (sp_one _ _ _).symm h
end
section
variable {n : Nat} {P : Program} {ops : Array Oper} {Q : Exit → Act → World → Prop} {a : Act} {w : World} {F : Fence} {K X : Act → World → Prop} {x y : Code} {id : Nat}
theorem rL {l : List Oper} (h : wpListIn F n P l.toArray Q l a w) : (Code.region id l.toArray false).wpIn F n P Q a w := wpIn_region_lit h
theorem sK (h : ∀ K : Act → World → Prop, (∀ a w, y.wpIn F n P Q a w → K a w) → x.wpIn F n P (Exit.then K Q) a w) : (Code.seq x y).wpIn F n P Q a w := wpIn_seq_k h
theorem wL (h : Q .normal a w) : wpListIn F n P ops Q [] a w := wpListIn_nil h
theorem wK (hk : ∀ a w, X a w → K a w) (h : X a w) : wpListIn F n P ops (Exit.then K Q) [] a w := wpListIn_nil (hk a w h)
theorem tK (hk : ∀ a w, X a w → K a w) (h : X a w) : Exit.then K Q .normal a w := hk a w h
theorem tN (h : X a w) : Exit.then X Q .normal a w := h
theorem bR {fn : Func} {R : Ending → World → Prop} {t : Tmp} (h : fn.results = #[.tmp t]) (hd : a.defers = []) (hR : R (.returned (a.tmps.getD t undef)) w) : bodyPost P fn R .ret a w := bodyPost_ret (results_tmp h _ _ _) hd hR
end
section
variable {n : Nat} {P : Program} {Q : Exit → Act → World → Prop} {a : Act} {w : World} {F : Fence} {X : Act → World → Prop} {x y : Code} {c : Operand} {id j : Nat}
theorem cT (hc : a.eval c = .bool true) (h : x.wpIn F n P Q a w) : (Code.cond c x y).wpIn F n P Q a w := wpIn_cond_true hc h
theorem cF (hc : a.eval c = .bool false) (h : y.wpIn F n P Q a w) : (Code.cond c x y).wpIn F n P Q a w := wpIn_cond_false hc h
theorem kS (h : Q .normal a w) : Code.skip.wpIn F n P Q a w := wpIn_skip h
theorem rR (h : Q .ret a w) : Code.ret.wpIn F n P Q a w := wpIn_ret h
theorem xE (h : Q (.exit id) a w) : (Code.exit id).wpIn F n P Q a w := wpIn_exit h
theorem bB (h : x.wpIn F n P (Exit.inBlock id Q) a w) : (Code.block id x).wpIn F n P Q a w := wpIn_block h
theorem tR (h : Q .ret a w) : Exit.then X Q .ret a w := h
theorem tX (h : Q (.exit id) a w) : Exit.then X Q (.exit id) a w := h
theorem bZ (h : Q .ret a w) : Exit.inBlock id Q .ret a w := h
theorem bN (h : Q .normal a w) : Exit.inBlock id Q .normal a w := h
theorem bH (h : Q .normal a w) : Exit.inBlock id Q (.exit id) a w := blk_hit h
theorem bM (hn : (j == id) = false) (h : Q (.exit j) a w) : Exit.inBlock id Q (.exit j) a w := blk_miss hn h
end
end Go.Pm
namespace Go.Proofs.YtmpackidbgfoiaaGreatDoor
open Go.RowKit Go.Pm
theorem mixed : Tryz.prog.follows .mixedOrders = true := by kernel_rfl
theorem clonePairs0 (B : Base) (H : List Res) (w : World) (hv : Inv B H w) :
  Calls Tryz.prog 72 #[vN] w fun e w' => e = .returned (vN) ∧ Inv B H w' := by
 refine cW Tryz.func72 rfl Tryz.ntmps72 ?_
 simp only [al]
 refine sK fun _ k1 => rL (uA rfl ?_)
 refine uW k1 (sK fun _ k2 => ?_)
 refine sK fun _ k3 => rL (uM rfl ?_)
 refine uG (.bool true) rfl (ex_slnil Tryz.underlying57 rfl rfl rfl rfl) (uW k3 ?_)
 refine cT rfl (sK fun _ k4 => ?_)
 refine rL (uA rfl ?_)
 refine uW k4 (rR ?_)
 refine tR (bR rfl rfl ?_)
 exact ⟨rfl, hv⟩
theorem s1mk100 : (Tryz.prog.info? 100).map (fun i => (i.zero, i.size, i.bytes)) = some (some (.agg #[vS [], vS []]), 2, 32) := by kernel_rfl
theorem s1el57 : Elem Tryz.prog 57 100 (.agg #[vS [], vS []]) 2 32 := elem_of Tryz.underlying57 s1mk100 (by rfl) (by decide)
theorem clonePairs1 (B : Base) (H : List Res) (w : World) (a : Addr) (n c : Nat) (xs : List Value) (hok : SliceOk (some a) n c) (hl : xs.length = n * 2) (h1 : ∀ u ∈ xs, u.oneCell' = true) (hn : n ≤ 1000000) (hr : RdV B [] (some a) xs) (hv : Inv B H w) :
  Calls Tryz.prog 72 #[.slice (some a) n c] w fun e w' => ∃ C ad' c', B.Le C ∧ e = .returned (.slice ad' n c') ∧ SliceOk ad' n c' ∧ RdV C [] ad' xs ∧ Inv C H w' := by
 refine cW Tryz.func72 rfl Tryz.ntmps72 ?_
 simp only [al]
 refine sK fun _ k1 => rL (uA rfl ?_)
 refine uW k1 (sK fun _ k2 => ?_)
 refine sK fun _ k3 => rL (uM rfl ?_)
 refine uG (.bool false) rfl (ex_slnil Tryz.underlying57 rfl rfl rfl rfl) (uW k3 ?_)
 refine cF rfl (kS ?_)
 refine tK k2 (sK fun _ k4 => ?_)
 refine rL (sl_row0 (size := 2) tV (wn rfl) rfl hv (e := 100) (fun w => by kernel_rfl) (fun b5 w6 hv => ?_))
 refine uM rfl ?_
 refine sl_append (news := xs) tV (wn rfl) rfl rfl rfl s1el57 hv hok hl ((hr.more (Base.Le.refl _) (fun _ h => by cases h)).src hv) (h1) (by unfold maxLen; omega) (by omega) (fun rv7 w10 hv => ?_)
 obtain ⟨ra8, rc9, rfl⟩ := row_slice hv.head
 refine uA rfl (uW k4 ?_)
 refine rR (bR rfl rfl ?_)
 obtain ⟨C, hB, hv2, hr2, hok2, -⟩ := hv.rowBy
 rw [Nat.zero_add] at hok2 ⊢
 rw [List.nil_append] at hr2
 exact ⟨C, _, _, hB, rfl, hok2, hr2, hv2⟩
theorem clonePairs (B : Base) (H : List Res) (w : World) (v : Value) (n : Nat) (xs : List Value) (h : RowB B v n xs) (hl : xs.length = n * 2) (h1 : ∀ u ∈ xs, u.oneCell' = true) (hn : n ≤ 1000000) (hv : Inv B H w) :
  Calls Tryz.prog 72 #[v] w fun e w' => ∃ C v', B.Le C ∧ e = .returned v' ∧ RowB C v' n xs ∧ Inv C H w' := by
 obtain ⟨ad, c, rfl, hok, hr⟩ := h
 cases ad with
 | none =>
  have hc0 : c = 0 := hok.nil rfl
  have hn0 : n = 0 := by have := hok.le; omega
  subst hc0 hn0
  refine (clonePairs0 B H w hv).mono ?_
  rintro e w' ⟨rfl, hv⟩
  exact ⟨B, _, Base.Le.refl _, rfl, ⟨none, 0, rfl, hok, hr⟩, hv⟩
 | some a =>
  refine (clonePairs1 B H w a n c xs hok hl h1 hn hr hv).mono ?_
  rintro e w' ⟨C, ad', c', hB, rfl, hok', hr', hv'⟩
  exact ⟨C, _, hB, rfl, ⟨ad', c', rfl, hok', hr'⟩, hv'⟩
theorem cloneTexts0 (B : Base) (H : List Res) (w : World) (hv : Inv B H w) :
  Calls Tryz.prog 73 #[vN] w fun e w' => e = .returned (vN) ∧ Inv B H w' := by
 refine cW Tryz.func73 rfl Tryz.ntmps73 ?_
 simp only [al]
 refine sK fun _ k1 => rL (uA rfl ?_)
 refine uW k1 (sK fun _ k2 => ?_)
 refine sK fun _ k3 => rL (uM rfl ?_)
 refine uG (.bool true) rfl (ex_slnil Tryz.underlying23 rfl rfl rfl rfl) (uW k3 ?_)
 refine cT rfl (sK fun _ k4 => ?_)
 refine rL (uA rfl ?_)
 refine uW k4 (rR ?_)
 refine tR (bR rfl rfl ?_)
 exact ⟨rfl, hv⟩
theorem s1mk9 : (Tryz.prog.info? 9).map (fun i => (i.zero, i.size, i.bytes)) = some (some (vS []), 1, 16) := by kernel_rfl
theorem s1el23 : Elem Tryz.prog 23 9 (vS []) 1 16 := elem_of Tryz.underlying23 s1mk9 (by rfl) (by decide)
theorem cloneTexts1 (B : Base) (H : List Res) (w : World) (a : Addr) (n c : Nat) (xs : List Value) (hok : SliceOk (some a) n c) (hl : xs.length = n * 1) (h1 : ∀ u ∈ xs, u.oneCell' = true) (hn : n ≤ 1000000) (hr : RdV B [] (some a) xs) (hv : Inv B H w) :
  Calls Tryz.prog 73 #[.slice (some a) n c] w fun e w' => ∃ C ad' c', B.Le C ∧ e = .returned (.slice ad' n c') ∧ SliceOk ad' n c' ∧ RdV C [] ad' xs ∧ Inv C H w' := by
 refine cW Tryz.func73 rfl Tryz.ntmps73 ?_
 simp only [al]
 refine sK fun _ k1 => rL (uA rfl ?_)
 refine uW k1 (sK fun _ k2 => ?_)
 refine sK fun _ k3 => rL (uM rfl ?_)
 refine uG (.bool false) rfl (ex_slnil Tryz.underlying23 rfl rfl rfl rfl) (uW k3 ?_)
 refine cF rfl (kS ?_)
 refine tK k2 (sK fun _ k4 => ?_)
 refine rL (sl_row0 (size := 1) tV (wn rfl) rfl hv (e := 9) (fun w => by kernel_rfl) (fun b5 w6 hv => ?_))
 refine uM rfl ?_
 refine sl_append (news := xs) tV (wn rfl) rfl rfl rfl s1el23 hv hok hl ((hr.more (Base.Le.refl _) (fun _ h => by cases h)).src hv) (h1) (by unfold maxLen; omega) (by omega) (fun rv7 w10 hv => ?_)
 obtain ⟨ra8, rc9, rfl⟩ := row_slice hv.head
 refine uA rfl (uW k4 ?_)
 refine rR (bR rfl rfl ?_)
 obtain ⟨C, hB, hv2, hr2, hok2, -⟩ := hv.rowBy
 rw [Nat.zero_add] at hok2 ⊢
 rw [List.nil_append] at hr2
 exact ⟨C, _, _, hB, rfl, hok2, hr2, hv2⟩
theorem cloneTexts (B : Base) (H : List Res) (w : World) (v : Value) (n : Nat) (xs : List Value) (h : RowB B v n xs) (hl : xs.length = n * 1) (h1 : ∀ u ∈ xs, u.oneCell' = true) (hn : n ≤ 1000000) (hv : Inv B H w) :
  Calls Tryz.prog 73 #[v] w fun e w' => ∃ C v', B.Le C ∧ e = .returned v' ∧ RowB C v' n xs ∧ Inv C H w' := by
 obtain ⟨ad, c, rfl, hok, hr⟩ := h
 cases ad with
 | none =>
  have hc0 : c = 0 := hok.nil rfl
  have hn0 : n = 0 := by have := hok.le; omega
  subst hc0 hn0
  refine (cloneTexts0 B H w hv).mono ?_
  rintro e w' ⟨rfl, hv⟩
  exact ⟨B, _, Base.Le.refl _, rfl, ⟨none, 0, rfl, hok, hr⟩, hv⟩
 | some a =>
  refine (cloneTexts1 B H w a n c xs hok hl h1 hn hr hv).mono ?_
  rintro e w' ⟨C, ad', c', hB, rfl, hok', hr', hv'⟩
  exact ⟨C, _, hB, rfl, ⟨ad', c', rfl, hok', hr'⟩, hv'⟩
theorem cloneMems0 (B : Base) (H : List Res) (w : World) (hv : Inv B H w) :
  Calls Tryz.prog 74 #[vN] w fun e w' => e = .returned (vN) ∧ Inv B H w' := by
 refine cW Tryz.func74 rfl Tryz.ntmps74 ?_
 simp only [al]
 refine sK fun _ k1 => rL (uA rfl ?_)
 refine uW k1 (sK fun _ k2 => ?_)
 refine sK fun _ k3 => rL (uM rfl ?_)
 refine uG (.bool true) rfl (ex_slnil Tryz.underlying58 rfl rfl rfl rfl) (uW k3 ?_)
 refine cT rfl (sK fun _ k4 => ?_)
 refine rL (uA rfl ?_)
 refine uW k4 (rR ?_)
 refine tR (bR rfl rfl ?_)
 exact ⟨rfl, hv⟩
theorem s1mk102 : (Tryz.prog.info? 102).map (fun i => (i.zero, i.size, i.bytes)) = some (some (.agg #[vI 0, vS []]), 2, 24) := by kernel_rfl
theorem s1el58 : Elem Tryz.prog 58 102 (.agg #[vI 0, vS []]) 2 24 := elem_of Tryz.underlying58 s1mk102 (by rfl) (by decide)
theorem cloneMems1 (B : Base) (H : List Res) (w : World) (a : Addr) (n c : Nat) (xs : List Value) (hok : SliceOk (some a) n c) (hl : xs.length = n * 2) (h1 : ∀ u ∈ xs, u.oneCell' = true) (hn : n ≤ 1000000) (hr : RdV B [] (some a) xs) (hv : Inv B H w) :
  Calls Tryz.prog 74 #[.slice (some a) n c] w fun e w' => ∃ C ad' c', B.Le C ∧ e = .returned (.slice ad' n c') ∧ SliceOk ad' n c' ∧ RdV C [] ad' xs ∧ Inv C H w' := by
 refine cW Tryz.func74 rfl Tryz.ntmps74 ?_
 simp only [al]
 refine sK fun _ k1 => rL (uA rfl ?_)
 refine uW k1 (sK fun _ k2 => ?_)
 refine sK fun _ k3 => rL (uM rfl ?_)
 refine uG (.bool false) rfl (ex_slnil Tryz.underlying58 rfl rfl rfl rfl) (uW k3 ?_)
 refine cF rfl (kS ?_)
 refine tK k2 (sK fun _ k4 => ?_)
 refine rL (sl_row0 (size := 2) tV (wn rfl) rfl hv (e := 102) (fun w => by kernel_rfl) (fun b5 w6 hv => ?_))
 refine uM rfl ?_
 refine sl_append (news := xs) tV (wn rfl) rfl rfl rfl s1el58 hv hok hl ((hr.more (Base.Le.refl _) (fun _ h => by cases h)).src hv) (h1) (by unfold maxLen; omega) (by omega) (fun rv7 w10 hv => ?_)
 obtain ⟨ra8, rc9, rfl⟩ := row_slice hv.head
 refine uA rfl (uW k4 ?_)
 refine rR (bR rfl rfl ?_)
 obtain ⟨C, hB, hv2, hr2, hok2, -⟩ := hv.rowBy
 rw [Nat.zero_add] at hok2 ⊢
 rw [List.nil_append] at hr2
 exact ⟨C, _, _, hB, rfl, hok2, hr2, hv2⟩
theorem cloneMems (B : Base) (H : List Res) (w : World) (v : Value) (n : Nat) (xs : List Value) (h : RowB B v n xs) (hl : xs.length = n * 2) (h1 : ∀ u ∈ xs, u.oneCell' = true) (hn : n ≤ 1000000) (hv : Inv B H w) :
  Calls Tryz.prog 74 #[v] w fun e w' => ∃ C v', B.Le C ∧ e = .returned v' ∧ RowB C v' n xs ∧ Inv C H w' := by
 obtain ⟨ad, c, rfl, hok, hr⟩ := h
 cases ad with
 | none =>
  have hc0 : c = 0 := hok.nil rfl
  have hn0 : n = 0 := by have := hok.le; omega
  subst hc0 hn0
  refine (cloneMems0 B H w hv).mono ?_
  rintro e w' ⟨rfl, hv⟩
  exact ⟨B, _, Base.Le.refl _, rfl, ⟨none, 0, rfl, hok, hr⟩, hv⟩
 | some a =>
  refine (cloneMems1 B H w a n c xs hok hl h1 hn hr hv).mono ?_
  rintro e w' ⟨C, ad', c', hB, rfl, hok', hr', hv'⟩
  exact ⟨C, _, hB, rfl, ⟨ad', c', rfl, hok', hr'⟩, hv'⟩
theorem s1al60 : AL Tryz.prog 60 [vI 0, vS [], vN, vN, vN] := fun w => by kernel_rfl
theorem s1fa60_2 : FA Tryz.prog 60 2 2 := fun w b o => by kernel_rfl
theorem s1na57 (w : World) : (isAgg 57).run Tryz.prog w = .ok false w := by kernel_rfl
theorem s1callable72 : Callable Tryz.prog 72 := cb Tryz.func72 (by kernel_rfl)
theorem s1sz57 : (Tryz.prog.info? 57).map (·.size) = some 1 := by kernel_rfl
theorem s1fa60_3 : FA Tryz.prog 60 3 3 := fun w b o => by kernel_rfl
theorem s1na23 (w : World) : (isAgg 23).run Tryz.prog w = .ok false w := by kernel_rfl
theorem s1callable73 : Callable Tryz.prog 73 := cb Tryz.func73 (by kernel_rfl)
theorem s1sz23 : (Tryz.prog.info? 23).map (·.size) = some 1 := by kernel_rfl
theorem s1fa60_4 : FA Tryz.prog 60 4 4 := fun w b o => by kernel_rfl
theorem s1na58 (w : World) : (isAgg 58).run Tryz.prog w = .ok false w := by kernel_rfl
theorem s1callable74 : Callable Tryz.prog 74 := cb Tryz.func74 (by kernel_rfl)
theorem s1sz58 : (Tryz.prog.info? 58).map (·.size) = some 1 := by kernel_rfl
theorem s1wd60 : Wide Tryz.prog 60 5 := wide_of (fun w => by kernel_rfl) (by kernel_rfl)
theorem s1sz60 : (Tryz.prog.info? 60).map (·.size) = some 5 := by kernel_rfl
theorem valueClone (B : Base) (H : List Res) (w : World) (v : Val) (p t z : Value) (h : ValAt B v p t z) (hv : Inv B H w) :
  Calls Tryz.prog 37 #[.agg #[vI v.kind, vS v.text, p, t, z]] w fun e w' => ∃ C p' t' z', B.Le C ∧ e = .returned (.agg #[vI v.kind, vS v.text, p', t', z']) ∧ ValAt C v p' t' z' ∧ Inv C H w' := by
 refine cW Tryz.func37 rfl Tryz.ntmps37 ?_
 simp only [al]
 refine sK fun _ k1 => rL (sl_box (L := [vI v.kind, vS v.text, p, t, z]) tV (wn rfl) rfl rfl hv (fun w => by kernel_rfl) (fun b2 w3 hv => ?_))
 refine sl_alloc tV (wn rfl) rfl hv s1al60 (fun b4 w5 hv => ?_)
 refine uW k1 (sK fun _ k6 => ?_)
 refine rL (uF (.pointer (some ⟨b2, 2, none⟩)) rfl (s1fa60_2 _ _ _) ?_)
 refine uL _ rfl (run_load1 s1na57 (hv.load 1 2 rfl rfl)) ?_
 refine xC s1callable72 rfl ((clonePairs _ _ _ p _ _ (h.p.more (Base.Le.refl _)) (pairCells_len _) (pairCells_one _) h.pm hv).mono ?_) rfl
 rintro e w9 ⟨C7, q8, hC7, rfl, hq8, hv⟩
 refine ⟨_, rfl, uF (.pointer (some ⟨b2, 2, none⟩)) rfl (s1fa60_2 _ _ _) ?_⟩
 refine xV 1 q8 rfl hv s1sz57 hq8.cells hq8.one (fun w10 hv => ?_)
 simp only [zS, zO, sp] at hv
 refine uW k6 (sK fun _ k11 => ?_)
 refine rL (uF (.pointer (some ⟨b2, 3, none⟩)) rfl (s1fa60_3 _ _ _) ?_)
 refine uL _ rfl (run_load1 s1na23 (hv.load 1 3 rfl rfl)) ?_
 refine xC s1callable73 rfl ((cloneTexts _ _ _ t _ _ (h.t.more hC7) (textCells_len _) (textCells_one _) h.tm hv).mono ?_) rfl
 rintro e w14 ⟨C12, q13, hC12, rfl, hq13, hv⟩
 refine ⟨_, rfl, uF (.pointer (some ⟨b2, 3, none⟩)) rfl (s1fa60_3 _ _ _) ?_⟩
 refine xV 1 q13 rfl hv s1sz23 hq13.cells hq13.one (fun w15 hv => ?_)
 simp only [zS, zO, sp] at hv
 refine uW k11 (sK fun _ k16 => ?_)
 refine rL (uF (.pointer (some ⟨b2, 4, none⟩)) rfl (s1fa60_4 _ _ _) ?_)
 refine uL _ rfl (run_load1 s1na58 (hv.load 1 4 rfl rfl)) ?_
 refine xC s1callable74 rfl ((cloneMems _ _ _ z _ _ (h.z.more (hC7.trans hC12)) (memCells_len _) (memCells_one _) h.zm hv).mono ?_) rfl
 rintro e w19 ⟨C17, q18, hC17, rfl, hq18, hv⟩
 refine ⟨_, rfl, uF (.pointer (some ⟨b2, 4, none⟩)) rfl (s1fa60_4 _ _ _) ?_⟩
 refine xV 1 q18 rfl hv s1sz58 hq18.cells hq18.one (fun w20 hv => ?_)
 simp only [zS, zO, sp] at hv
 refine uW k16 (sK fun _ k21 => ?_)
 refine rL (uL (.agg #[vI v.kind, vS v.text, q8, q13, q18]) rfl (lM 1 s1wd60 hv rfl rfl rfl rfl) ?_)
 refine xS 0 rfl hv s1sz60 rfl (by exact ⟨rfl, rfl, hq8.one, hq13.one, hq18.one, trivial⟩) (fun w22 hv => ?_)
 simp only [zO, sp] at hv
 refine uW k21 (rR ?_)
 refine bC 0 s1wd60 hv rfl rfl rfl rfl (⟨_, q8, q13, q18, ((hC7.trans hC12).trans hC17), rfl, ⟨hq8.more (hC12.trans hC17), hq13.more hC17, hq18.more (Base.Le.refl _), h.pm, h.tm, h.zm⟩, (hv.kp [] 0 2)⟩)
def aliveB (v : Ver) (clock : Int) : Bool := !v.gone && (decide (v.expire = 0) || decide (clock < v.expire))
theorem s2na3 (w : World) : (isAgg 3).run Tryz.prog w = .ok false w := by kernel_rfl
theorem s2fa81_1 : FA Tryz.prog 81 1 1 := fun w b o => by kernel_rfl
theorem s2na4 (w : World) : (isAgg 4).run Tryz.prog w = .ok false w := by kernel_rfl
theorem alive0 (B : Base) (H : List Res) (w : World) (v : Ver) (p t z : Value) (clock : Int) (hg : v.gone = true) (hv : Inv B H w) :
  Calls Tryz.prog 164 #[.agg #[vI v.stamp, .bool true, vI v.expire, vI v.val.kind, vS v.val.text, p, t, z], vI clock] w fun e w' => e = .returned (.bool (aliveB v clock)) ∧ Inv B H w' := by
 refine cW Tryz.func164 rfl Tryz.ntmps164 ?_
 simp only [al]
 refine sK fun _ k1 => rL (sl_box (L := [vI v.stamp, .bool true, vI v.expire, vI v.val.kind, vS v.val.text, p, t, z]) tV (wn rfl) rfl rfl hv (fun w => by kernel_rfl) (fun b2 w3 hv => ?_))
 refine uA rfl (uW k1 ?_)
 refine sK fun _ k4 => rL (uF (.pointer (some ⟨b2, 1, none⟩)) rfl (s2fa81_1 _ _ _) ?_)
 refine uL _ rfl (run_load1 s2na4 (hv.load 0 1 rfl rfl)) ?_
 refine uG (.bool false) rfl (ex_not rfl rfl rfl) (uM rfl ?_)
 iterate 9 refine uP rfl ?_
 refine uK rfl (uA rfl ?_)
 refine uW k4 (rR ?_)
 refine bR rfl rfl (⟨congrArg (fun b => Ending.returned (Value.bool b)) (show false = aliveB v clock from by simp [aliveB, *]), (hv.kp [] 0 1)⟩)
theorem s2fa81_2 : FA Tryz.prog 81 2 2 := fun w b o => by kernel_rfl
theorem alive1 (B : Base) (H : List Res) (w : World) (v : Ver) (p t z : Value) (clock : Int) (hg : v.gone = false) (hv : Inv B H w) :
  Calls Tryz.prog 164 #[.agg #[vI v.stamp, .bool false, vI v.expire, vI v.val.kind, vS v.val.text, p, t, z], vI clock] w fun e w' => e = .returned (.bool (aliveB v clock)) ∧ Inv B H w' := by
 refine cW Tryz.func164 rfl Tryz.ntmps164 ?_
 simp only [al]
 refine sK fun _ k1 => rL (sl_box (L := [vI v.stamp, .bool false, vI v.expire, vI v.val.kind, vS v.val.text, p, t, z]) tV (wn rfl) rfl rfl hv (fun w => by kernel_rfl) (fun b2 w3 hv => ?_))
 refine uA rfl (uW k1 ?_)
 refine sK fun _ k4 => rL (uF (.pointer (some ⟨b2, 1, none⟩)) rfl (s2fa81_1 _ _ _) ?_)
 refine uL _ rfl (run_load1 s2na4 (hv.load 0 1 rfl rfl)) ?_
 refine uG (.bool true) rfl (ex_not rfl rfl rfl) (uM rfl ?_)
 refine uF (.pointer (some ⟨b2, 2, none⟩)) rfl (s2fa81_2 _ _ _) ?_
 refine uL _ rfl (run_load1 s2na3 (hv.load 0 2 rfl rfl)) ?_
 by_cases hb5 : v.expire = 0
 ·refine uG (.bool true) rfl (ex_eql rfl rfl rfl (qT hb5)) ?_
  refine uM rfl ?_
  iterate 4 refine uP rfl ?_
  refine uK rfl (uK rfl ?_)
  refine uA rfl (uW k4 ?_)
  refine rR (bR rfl rfl ?_)
  exact ⟨congrArg (fun b => Ending.returned (Value.bool b)) (show true = aliveB v clock from by simp [aliveB, *]), (hv.kp [] 0 1)⟩
 refine uG (.bool false) rfl (ex_eql rfl rfl rfl (qF hb5)) ?_
 refine uM rfl ?_
 refine uF (.pointer (some ⟨b2, 2, none⟩)) rfl (s2fa81_2 _ _ _) ?_
 refine uL _ rfl (run_load1 s2na3 (hv.load 0 2 rfl rfl)) ?_
 refine uM rfl ?_
 by_cases hb6 : v.expire > clock
 ·refine uG (.bool true) rfl (ex_gtr rfl rfl rfl (qT hb6)) ?_
  refine uK rfl (uK rfl ?_)
  refine uA rfl (uW k4 ?_)
  refine rR (bR rfl rfl ?_)
  exact ⟨congrArg (fun b => Ending.returned (Value.bool b)) (show true = aliveB v clock from by simp [aliveB, *]), (hv.kp [] 0 1)⟩
 refine uG (.bool false) rfl (ex_gtr rfl rfl rfl (qF hb6)) ?_
 refine uK rfl (uK rfl ?_)
 refine uA rfl (uW k4 ?_)
 refine rR (bR rfl rfl ?_)
 exact ⟨congrArg (fun b => Ending.returned (Value.bool b)) (show false = aliveB v clock from by simp [aliveB, *]), (hv.kp [] 0 1)⟩
theorem chainAlive (B : Base) (H : List Res) (w : World) (v : Ver) (p t z : Value) (clock : Int) (hv : Inv B H w) : Calls Tryz.prog 164 #[.agg (verCells v p t z).toArray, vI clock] w fun e w' => e = .returned (.bool (aliveB v clock)) ∧ Inv B H w' := by
 cases hg : v.gone with
 | true => have := alive0 B H w v p t z clock hg hv; rw [← hg] at this; exact this
 | false => have := alive1 B H w v p t z clock hg hv; rw [← hg] at this; exact this
theorem s9es23 (w : World) : (sizeOf (Tryz.prog.elem 23)).run Tryz.prog w = .ok 1 w := by kernel_rfl
theorem s9na9 (w : World) : (isAgg 9).run Tryz.prog w = .ok false w := by kernel_rfl
theorem indexFuncText (B : Base) (H : List Res) (w : World) (f : FuncId) (cb : Array Value) (ad : Option Addr) (c : Nat) (l : List (List UInt8)) (pr : (List UInt8) → Bool) (hr : RdV B [] ad (textCells l)) (hm : l.length ≤ 1000000) (hcal : Callable Tryz.prog f) (hf : ∀ x ∈ l, ∀ w, Inv B H w → Calls Tryz.prog f (#[vS x] ++ cb) w fun e w' => e = .returned (.bool (pr x)) ∧ Inv B H w') (hv : Inv B H w) :
  Calls Tryz.prog 162 #[.slice ad l.length c, .func (.func f) #[] cb] w fun e w' => ∃ r : Int, e = .returned (vI r) ∧ (0 ≤ r ↔ l.any pr = true) ∧ Inv B H w' := by
 refine cW Tryz.func162 rfl Tryz.ntmps162 ?_
 simp only [al]
 refine sK fun _ k1 => rL (uA rfl ?_)
 refine uW k1 (sK fun _ k2 => ?_)
 refine sK fun _ k3 => rL (uM rfl ?_)
 refine uG (vI (l.length : Int)) rfl (ex_len0 Tryz.underlying23 rfl rfl) (uM rfl ?_)
 refine uW k3 (bB ?_)
 gi_loopw [8] (fun x8 wr => ∃ (i : Nat), x8 = vI i ∧ i ≤ l.length ∧ (∀ j x, j < i → l[j]? = some x → pr x = false) ∧ Inv B H wr) (fun x8 _ => l.length - (intOf x8).toNat)
 case atStart => exact ⟨0, rfl, Nat.zero_le _, fun j x h => by omega, hv⟩
 case round =>
  obtain ⟨i, rfl, hi, hno, hv⟩ := hrel
  refine sK fun _ k5 => rL ?_
  by_cases hb6 : (i : Int) < (l.length : Int)
  ·refine uG (.bool true) rfl (ex_lss rfl rfl rfl (qT hb6)) (uW k5 ?_)
   refine sK fun _ k7 => cT rfl (kS ?_)
   refine tK k7 (sK fun _ k8 => ?_)
   refine bB (sK fun _ k9 => ?_)
   refine rL (uM rfl ?_)
   refine uA rfl (uW k9 ?_)
   refine sK fun _ k10 => ?_
   obtain ⟨x, hx⟩ : ∃ x, l[i]? = some x := ⟨_, List.getElem?_eq_getElem (show i < l.length by omega)⟩
   obtain ⟨bb, bo, had, hrdx⟩ := text_reads hr hx
   subst had
   refine rL (uM rfl ?_)
   refine uM rfl (uM rfl ?_)
   refine uG (.pointer (some ⟨bb, bo + i, none⟩)) rfl (ex_index rfl rfl rfl (run_idx1 (k := i) Tryz.underlying23 s9es23 (by omega))) ?_
   refine uL _ rfl (run_load1 s9na9 (hrdx _ _ _ (Base.Le.refl _) no_res hv 0 _ rfl)) ?_
   refine wpi_callV hcal tV wideC rfl (wn rfl) rfl rfl (args := #[vS x]) (by simp only [List.map_toArray, List.map_cons, List.map_nil]; rfl) ((hf x (List.mem_of_getElem? hx) _ hv).mono ?_)
   rintro e w11 ⟨rfl, hv⟩
   refine ⟨_, rfl, uW k10 ?_⟩
   refine wpIn_cond_split (t := pr x) rfl (fun hc12 => ?_) (fun hc12 => ?_)
   ·refine sK fun _ k13 => rL (uM rfl ?_)
    refine uA rfl (uW k13 ?_)
    refine rR (bZ ?_)
    refine tR (tR ?_)
    refine bZ (tR ?_)
    refine bR rfl rfl (⟨_, rfl, ⟨fun _ => any_of hx (by simpa using hc12), fun _ => by omega⟩, hv⟩)
   refine kS (bN ?_)
   refine tK k8 (rL ?_)
   refine uG (vI ((i + 1 : Nat) : Int)) rfl (ex_add rfl rfl rfl (by rw [i64_in (by omega)]; omega)) (uM rfl ?_)
   refine uZ (then_normal ?_)
   go_roundw
   case rel => exact ⟨i + 1, rfl, by omega, fun j x' hj hx' => (by
      rcases Nat.lt_or_ge j i with h | h
      ·exact hno j x' h hx'
      obtain rfl : j = i := by omega
      rw [hx] at hx'; cases hx'
      simpa using hc12), hv⟩
   case measure => show l.length - (((i + 1 : Nat) : Int)).toNat < l.length - ((i : Int)).toNat; omega
  refine uG (.bool false) rfl (ex_lss rfl rfl rfl (qF hb6)) (uW k5 ?_)
  refine sK fun _ k14 => cF rfl (xE ?_)
  refine tX (tX ?_)
  refine bH (tK k2 ?_)
  refine sK fun _ k15 => rL (uA rfl ?_)
  refine uW k15 (rR ?_)
  refine bR rfl rfl ?_
  obtain rfl : i = l.length := by omega
  exact ⟨_, rfl, ⟨fun h => by omega, fun h => by rw [any_none (fun i x hx => hno i x (List.getElem?_eq_some_iff.1 hx).1 hx)] at h; cases h⟩, hv⟩
theorem s9callable162 : Callable Tryz.prog 162 := cb Tryz.func162 (by kernel_rfl)
theorem containsFuncText (B : Base) (H : List Res) (w : World) (f : FuncId) (cb : Array Value) (ad : Option Addr) (c : Nat) (l : List (List UInt8)) (pr : (List UInt8) → Bool) (hr : RdV B [] ad (textCells l)) (hm : l.length ≤ 1000000) (hcal : Callable Tryz.prog f) (hf : ∀ x ∈ l, ∀ w, Inv B H w → Calls Tryz.prog f (#[vS x] ++ cb) w fun e w' => e = .returned (.bool (pr x)) ∧ Inv B H w') (hv : Inv B H w) :
  Calls Tryz.prog 184 #[.slice ad l.length c, .func (.func f) #[] cb] w fun e w' => e = .returned (.bool (l.any pr)) ∧ Inv B H w' := by
 refine cW Tryz.func184 rfl Tryz.ntmps184 ?_
 simp only [al]
 refine sK fun _ k1 => rL (uA rfl ?_)
 refine uW k1 (sK fun _ k2 => ?_)
 refine rL (uM rfl ?_)
 refine uM rfl ?_
 refine xC s9callable162 rfl ((indexFuncText B H _ f cb ad c l pr hr hm hcal hf hv).mono ?_) rfl
 rintro e w3 ⟨r, rfl, hra, hv⟩
 refine ⟨_, rfl, uG (.bool (decide (r ≥ 0))) rfl (ex_geq rfl rfl rfl rfl) ?_⟩
 refine uA rfl (uW k2 ?_)
 refine rR (bR rfl rfl ?_)
 exact ⟨congrArg (fun b => Ending.returned (Value.bool b)) (by rw [Bool.eq_iff_iff, decide_eq_true_iff]; exact hra), hv⟩
theorem s9es58 (w : World) : (sizeOf (Tryz.prog.elem 58)).run Tryz.prog w = .ok 2 w := by kernel_rfl
theorem s9wd102 : Wide Tryz.prog 102 2 := wide_of (fun w => by kernel_rfl) (by kernel_rfl)
theorem indexFuncMem (B : Base) (H : List Res) (w : World) (f : FuncId) (cb : Array Value) (ad : Option Addr) (c : Nat) (l : List (Int × List UInt8)) (pr : (Int × List UInt8) → Bool) (hr : RdV B [] ad (memCells l)) (hm : l.length ≤ 1000000) (hcal : Callable Tryz.prog f) (hf : ∀ x ∈ l, ∀ w, Inv B H w → Calls Tryz.prog f (#[.agg #[vI x.1, vS x.2]] ++ cb) w fun e w' => e = .returned (.bool (pr x)) ∧ Inv B H w') (hv : Inv B H w) :
  Calls Tryz.prog 215 #[.slice ad l.length c, .func (.func f) #[] cb] w fun e w' => ∃ r : Int, e = .returned (vI r) ∧ (0 ≤ r ↔ l.any pr = true) ∧ Inv B H w' := by
 refine cW Tryz.func215 rfl Tryz.ntmps215 ?_
 simp only [al]
 refine sK fun _ k1 => rL (uA rfl ?_)
 refine uW k1 (sK fun _ k2 => ?_)
 refine sK fun _ k3 => rL (uM rfl ?_)
 refine uG (vI (l.length : Int)) rfl (ex_len0 Tryz.underlying58 rfl rfl) (uM rfl ?_)
 refine uW k3 (bB ?_)
 gi_loopw [8] (fun x8 wr => ∃ (i : Nat), x8 = vI i ∧ i ≤ l.length ∧ (∀ j x, j < i → l[j]? = some x → pr x = false) ∧ Inv B H wr) (fun x8 _ => l.length - (intOf x8).toNat)
 case atStart => exact ⟨0, rfl, Nat.zero_le _, fun j x h => by omega, hv⟩
 case round =>
  obtain ⟨i, rfl, hi, hno, hv⟩ := hrel
  refine sK fun _ k5 => rL ?_
  by_cases hb6 : (i : Int) < (l.length : Int)
  ·refine uG (.bool true) rfl (ex_lss rfl rfl rfl (qT hb6)) (uW k5 ?_)
   refine sK fun _ k7 => cT rfl (kS ?_)
   refine tK k7 (sK fun _ k8 => ?_)
   refine bB (sK fun _ k9 => ?_)
   refine rL (uM rfl ?_)
   refine uA rfl (uW k9 ?_)
   refine sK fun _ k10 => ?_
   obtain ⟨x, hx⟩ : ∃ x, l[i]? = some x := ⟨_, List.getElem?_eq_getElem (show i < l.length by omega)⟩
   obtain ⟨bb, bo, had, hrdx⟩ := mem_reads hr hx
   subst had
   refine rL (uM rfl ?_)
   refine uM rfl (uM rfl ?_)
   refine uG (.pointer (some ⟨bb, bo + i * 2, none⟩)) rfl (ex_index rfl rfl rfl (run_idx (k := i) Tryz.underlying58 s9es58 (by omega))) ?_
   refine uL (.agg #[vI x.1, vS x.2]) rfl (run_loadR (cs := [vI x.1, vS x.2]) s9wd102 (Reads.mid (pre := []) (mid := [vI x.1, vS x.2]) (post := []) hrdx _ _ _ (Base.Le.refl _) no_res hv)) ?_
   refine wpi_callV hcal tV wideC rfl (wn rfl) rfl rfl (args := #[.agg #[vI x.1, vS x.2]]) (by simp only [List.map_toArray, List.map_cons, List.map_nil]; rfl) ((hf x (List.mem_of_getElem? hx) _ hv).mono ?_)
   rintro e w11 ⟨rfl, hv⟩
   refine ⟨_, rfl, uW k10 ?_⟩
   refine wpIn_cond_split (t := pr x) rfl (fun hc12 => ?_) (fun hc12 => ?_)
   ·refine sK fun _ k13 => rL (uM rfl ?_)
    refine uA rfl (uW k13 ?_)
    refine rR (bZ ?_)
    refine tR (tR ?_)
    refine bZ (tR ?_)
    refine bR rfl rfl (⟨_, rfl, ⟨fun _ => any_of hx (by simpa using hc12), fun _ => by omega⟩, hv⟩)
   refine kS (bN ?_)
   refine tK k8 (rL ?_)
   refine uG (vI ((i + 1 : Nat) : Int)) rfl (ex_add rfl rfl rfl (by rw [i64_in (by omega)]; omega)) (uM rfl ?_)
   refine uZ (then_normal ?_)
   go_roundw
   case rel => exact ⟨i + 1, rfl, by omega, fun j x' hj hx' => (by
      rcases Nat.lt_or_ge j i with h | h
      ·exact hno j x' h hx'
      obtain rfl : j = i := by omega
      rw [hx] at hx'; cases hx'
      simpa using hc12), hv⟩
   case measure => show l.length - (((i + 1 : Nat) : Int)).toNat < l.length - ((i : Int)).toNat; omega
  refine uG (.bool false) rfl (ex_lss rfl rfl rfl (qF hb6)) (uW k5 ?_)
  refine sK fun _ k14 => cF rfl (xE ?_)
  refine tX (tX ?_)
  refine bH (tK k2 ?_)
  refine sK fun _ k15 => rL (uA rfl ?_)
  refine uW k15 (rR ?_)
  refine bR rfl rfl ?_
  obtain rfl : i = l.length := by omega
  exact ⟨_, rfl, ⟨fun h => by omega, fun h => by rw [any_none (fun i x hx => hno i x (List.getElem?_eq_some_iff.1 hx).1 hx)] at h; cases h⟩, hv⟩
theorem s9callable215 : Callable Tryz.prog 215 := cb Tryz.func215 (by kernel_rfl)
theorem containsFuncMem (B : Base) (H : List Res) (w : World) (f : FuncId) (cb : Array Value) (ad : Option Addr) (c : Nat) (l : List (Int × List UInt8)) (pr : (Int × List UInt8) → Bool) (hr : RdV B [] ad (memCells l)) (hm : l.length ≤ 1000000) (hcal : Callable Tryz.prog f) (hf : ∀ x ∈ l, ∀ w, Inv B H w → Calls Tryz.prog f (#[.agg #[vI x.1, vS x.2]] ++ cb) w fun e w' => e = .returned (.bool (pr x)) ∧ Inv B H w') (hv : Inv B H w) :
  Calls Tryz.prog 206 #[.slice ad l.length c, .func (.func f) #[] cb] w fun e w' => e = .returned (.bool (l.any pr)) ∧ Inv B H w' := by
 refine cW Tryz.func206 rfl Tryz.ntmps206 ?_
 simp only [al]
 refine sK fun _ k1 => rL (uA rfl ?_)
 refine uW k1 (sK fun _ k2 => ?_)
 refine rL (uM rfl ?_)
 refine uM rfl ?_
 refine xC s9callable215 rfl ((indexFuncMem B H _ f cb ad c l pr hr hm hcal hf hv).mono ?_) rfl
 rintro e w3 ⟨r, rfl, hra, hv⟩
 refine ⟨_, rfl, uG (.bool (decide (r ≥ 0))) rfl (ex_geq rfl rfl rfl rfl) ?_⟩
 refine uA rfl (uW k2 ?_)
 refine rR (bR rfl rfl ?_)
 exact ⟨congrArg (fun b => Ending.returned (Value.bool b)) (by rw [Bool.eq_iff_iff, decide_eq_true_iff]; exact hra), hv⟩
theorem listLong (B : Base) (H : List Res) (w : World) (s : List UInt8) (hv : Inv B H w) :
  Calls Tryz.prog 204 #[vS s] w fun e w' => e = .returned (.bool (decide (s.length > 4096))) ∧ Inv B H w' := by
 refine cW Tryz.func204 rfl Tryz.ntmps204 ?_
 simp only [al]
 refine sK fun _ k1 => rL (uA rfl ?_)
 refine uW k1 (sK fun _ k2 => ?_)
 refine rL (uM rfl ?_)
 refine uG (vI (s.length : Int)) rfl (ex_lenStr Tryz.underlying9 rfl rfl) ?_
 refine uG (.bool (decide ((s.length : Int) > 4096))) rfl (ex_gtr rfl rfl rfl rfl) (uA rfl ?_)
 refine uW k2 (rR ?_)
 refine bR rfl rfl (⟨congrArg (fun b => Ending.returned (Value.bool b)) (decide_eq_decide.2 (by omega)), hv⟩)
theorem setLong (B : Base) (H : List Res) (w : World) (s : List UInt8) (hv : Inv B H w) :
  Calls Tryz.prog 205 #[vS s] w fun e w' => e = .returned (.bool (decide (s.length > 4096))) ∧ Inv B H w' := by
 refine cW Tryz.func205 rfl Tryz.ntmps205 ?_
 simp only [al]
 refine sK fun _ k1 => rL (uA rfl ?_)
 refine uW k1 (sK fun _ k2 => ?_)
 refine rL (uM rfl ?_)
 refine uG (vI (s.length : Int)) rfl (ex_lenStr Tryz.underlying9 rfl rfl) ?_
 refine uG (.bool (decide ((s.length : Int) > 4096))) rfl (ex_gtr rfl rfl rfl rfl) (uA rfl ?_)
 refine uW k2 (rR ?_)
 refine bR rfl rfl (⟨congrArg (fun b => Ending.returned (Value.bool b)) (decide_eq_decide.2 (by omega)), hv⟩)
theorem s9fa102_1 : FA Tryz.prog 102 1 1 := fun w b o => by kernel_rfl
theorem zsetLong (B : Base) (H : List Res) (w : World) (n : Int) (s : List UInt8) (hv : Inv B H w) :
  Calls Tryz.prog 207 #[.agg #[vI n, vS s]] w fun e w' => e = .returned (.bool (decide (s.length > 4096))) ∧ Inv B H w' := by
 refine cW Tryz.func207 rfl Tryz.ntmps207 ?_
 simp only [al]
 refine sK fun _ k1 => rL (sl_box (L := [vI n, vS s]) tV (wn rfl) rfl rfl hv (fun w => by kernel_rfl) (fun b2 w3 hv => ?_))
 refine uA rfl (uW k1 ?_)
 refine sK fun _ k4 => rL (uF (.pointer (some ⟨b2, 1, none⟩)) rfl (s9fa102_1 _ _ _) ?_)
 refine uL _ rfl (run_load1 s9na9 (hv.load 0 1 rfl rfl)) ?_
 refine uG (vI (s.length : Int)) rfl (ex_lenStr Tryz.underlying9 rfl rfl) ?_
 refine uG (.bool (decide ((s.length : Int) > 4096))) rfl (ex_gtr rfl rfl rfl rfl) (uA rfl ?_)
 refine uW k4 (rR ?_)
 refine bR rfl rfl (⟨congrArg (fun b => Ending.returned (Value.bool b)) (decide_eq_decide.2 (by omega)), (hv.kp [] 0 1)⟩)
def listRight (l : List (List UInt8)) : Bool := decide (l.length ≤ 512) && !l.any (fun s : List UInt8 => decide (s.length > 4096))
theorem s9callable204 : Callable Tryz.prog 204 := cb Tryz.func204 (by kernel_rfl)
theorem s9callable184 : Callable Tryz.prog 184 := cb Tryz.func184 (by kernel_rfl)
theorem listRightC (B : Base) (H : List Res) (w : World) (ad : Option Addr) (c : Nat) (l : List (List UInt8)) (hr : RdV B [] ad (textCells l)) (hm : l.length ≤ 1000000) (hv : Inv B H w) :
  Calls Tryz.prog 189 #[.slice ad l.length c] w fun e w' => e = .returned (.bool (listRight l)) ∧ Inv B H w' := by
 refine cW Tryz.func189 rfl Tryz.ntmps189 ?_
 simp only [al]
 refine sK fun _ k1 => rL (uA rfl ?_)
 refine uW k1 (sK fun _ k2 => ?_)
 refine rL (uM rfl ?_)
 refine uG (vI (l.length : Int)) rfl (ex_len0 Tryz.underlying23 rfl rfl) ?_
 by_cases hb3 : (l.length : Int) ≤ 512
 ·refine uG (.bool true) rfl (ex_leq rfl rfl rfl (qT hb3)) (uM rfl ?_)
  refine uM rfl ?_
  refine xC s9callable184 rfl ((containsFuncText B _ _ 204 #[] ad c l (fun s : List UInt8 => decide (s.length > 4096)) hr hm s9callable204 (fun x _ w hv => listLong B _ w x hv) hv).mono ?_) rfl
  rintro e w4 ⟨rfl, hv⟩
  refine ⟨_, rfl, uG (.bool (!(l.any (fun s : List UInt8 => decide (s.length > 4096))))) rfl (ex_not rfl rfl rfl) ?_⟩
  refine uK rfl (uA rfl ?_)
  refine uW k2 (rR ?_)
  refine bR rfl rfl (⟨congrArg (fun b => Ending.returned (Value.bool b)) (by unfold listRight; first | rw [qT (by omega : l.length ≤ 512)]; rfl | (rw [qF (by omega : ¬ l.length ≤ 512)]; rfl)), hv⟩)
 refine uG (.bool false) rfl (ex_leq rfl rfl rfl (qF hb3)) (uM rfl ?_)
 iterate 3 refine uP rfl ?_
 refine uK rfl (uA rfl ?_)
 refine uW k2 (rR ?_)
 refine bR rfl rfl (⟨congrArg (fun b => Ending.returned (Value.bool b)) (by unfold listRight; first | rw [qT (by omega : l.length ≤ 512)]; rfl | (rw [qF (by omega : ¬ l.length ≤ 512)]; rfl)), hv⟩)
theorem x1es90 (w : World) : (sizeOf (Tryz.prog.elem 90)).run Tryz.prog w = .ok 1 w := by kernel_rfl
theorem x1na52 (w : World) : (isAgg 52).run Tryz.prog w = .ok false w := by kernel_rfl
theorem indexTx (B : Base) (H : List Res) (w : World) (t : Nat) (va : Option Addr) (vc : Nat) (hv : Inv B (Res.row 52 1 (.slice va 1 vc) 1 [vP t] :: H) w) :
  Calls Tryz.prog 192 #[.slice va 1 vc, vP t] w fun e w' => e = .returned (vI 0) ∧ Inv B (Res.row 52 1 (.slice va 1 vc) 1 [vP t] :: H) w' := by
 refine cW Tryz.func192 rfl Tryz.ntmps192 ?_
 simp only [al]
 refine sK fun _ k1 => rL (uA rfl ?_)
 refine uW k1 (sK fun _ k2 => ?_)
 refine sK fun _ k3 => rL (uG (.slice va 1 vc) rfl (ex_move rfl rfl) ?_)
 refine uG (vI 1) rfl (ex_len0 Tryz.underlying90 rfl rfl) (uM rfl ?_)
 refine uW k3 (bB ?_)
 gi_loopw [8] (fun x8 wr => x8 = vI 0 ∧ Inv B (Res.row 52 1 (.slice va 1 vc) 1 [vP t] :: H) wr) (fun x8 _ => 0)
 case atStart => exact ⟨rfl, hv⟩
 case round =>
  obtain ⟨rfl, hv⟩ := hrel
  refine sK fun _ k5 => rL (uG (.bool true) rfl (ex_lss rfl rfl rfl (by decide)) ?_)
  refine uW k5 (sK fun _ k6 => ?_)
  refine cT rfl (kS ?_)
  refine tK k6 (sK fun _ k7 => ?_)
  refine bB (sK fun _ k8 => ?_)
  refine rL (uM rfl ?_)
  refine uA rfl (uW k8 ?_)
  refine sK fun _ k9 => ?_
  obtain ⟨b, rfl⟩ := row_some hv.head (by omega)
  refine rL (uM rfl ?_)
  refine uG (.slice (some ⟨b, 0, none⟩) 1 vc) rfl (ex_move rfl rfl) (uM rfl ?_)
  refine uG (.pointer (some ⟨b, 0 + 0, none⟩)) rfl (ex_index rfl rfl rfl (run_idx1 (k := 0) Tryz.underlying90 x1es90 (by omega))) ?_
  refine uL _ rfl (run_load1 x1na52 (row_load (hv.get 0 rfl) rfl)) ?_
  refine uG (.bool true) rfl (ex_psame Tryz.underlying52 (by kernel_rfl) rfl rfl rfl) (uW k9 ?_)
  refine cT rfl (sK fun _ k10 => ?_)
  refine rL (uM rfl ?_)
  refine uA rfl (uW k10 ?_)
  refine rR (bZ ?_)
  refine tR (tR ?_)
  refine bZ (tR ?_)
  refine bR rfl rfl (⟨rfl, hv⟩)
theorem x1callable192 : Callable Tryz.prog 192 := cb Tryz.func192 (by kernel_rfl)
theorem containsTx (B : Base) (H : List Res) (w : World) (t : Nat) (va : Option Addr) (vc : Nat) (hv : Inv B (Res.row 52 1 (.slice va 1 vc) 1 [vP t] :: H) w) :
  Calls Tryz.prog 183 #[.slice va 1 vc, vP t] w fun e w' => e = .returned (.bool true) ∧ Inv B (Res.row 52 1 (.slice va 1 vc) 1 [vP t] :: H) w' := by
 refine cW Tryz.func183 rfl Tryz.ntmps183 ?_
 simp only [al]
 refine sK fun _ k1 => rL (uA rfl ?_)
 refine uW k1 (sK fun _ k2 => ?_)
 refine rL (uG (.slice va 1 vc) rfl (ex_move rfl rfl) ?_)
 refine uM rfl ?_
 refine xC x1callable192 rfl ((indexTx B H _ t va vc hv).mono ?_) rfl
 rintro e w3 ⟨rfl, hv⟩
 refine ⟨_, rfl, uG (.bool true) rfl (ex_geq rfl rfl rfl (by decide)) ?_⟩
 refine uA rfl (uW k2 ?_)
 refine rR (bR rfl rfl ?_)
 exact ⟨rfl, hv⟩
theorem mayLong (B : Base) (H : List Res) (w : World) (s : List UInt8) (hv : Inv B H w) :
  Calls Tryz.prog 182 #[vS s] w fun e w' => e = .returned (.bool (decide (s.length > 256))) ∧ Inv B H w' := by
 refine cW Tryz.func182 rfl Tryz.ntmps182 ?_
 simp only [al]
 refine sK fun _ k1 => rL (uA rfl ?_)
 refine uW k1 (sK fun _ k2 => ?_)
 refine rL (uM rfl ?_)
 refine uG (vI (s.length : Int)) rfl (ex_lenStr Tryz.underlying9 rfl rfl) ?_
 refine uG (.bool (decide ((s.length : Int) > 256))) rfl (ex_gtr rfl rfl rfl rfl) (uA rfl ?_)
 refine uW k2 (rR ?_)
 refine bR rfl rfl (⟨congrArg (fun b => Ending.returned (Value.bool b)) (decide_eq_decide.2 (by omega)), hv⟩)
theorem x1fa141_3 : FA Tryz.prog 141 3 3 := fun w b o => by kernel_rfl
theorem x1fa141_0 : FA Tryz.prog 141 0 0 := fun w b o => by kernel_rfl
theorem x1na43 (w : World) : (isAgg 43).run Tryz.prog w = .ok false w := by kernel_rfl
theorem x1fa92_3 : FA Tryz.prog 92 3 3 := fun w b o => by kernel_rfl
theorem x1na90 (w : World) : (isAgg 90).run Tryz.prog w = .ok false w := by kernel_rfl
theorem x1callable183 : Callable Tryz.prog 183 := cb Tryz.func183 (by kernel_rfl)
theorem x1callable182 : Callable Tryz.prog 182 := cb Tryz.func182 (by kernel_rfl)
theorem txnMay (B : Base) (H : List Res) (w : World) (t m s wb : Nat) (va : Option Addr) (vc : Nat) (sv : Value) (clk : Int) (ka : Option Addr) (kc : Nat) (ks : List (List UInt8)) (hr : RdV B [] ka (textCells ks)) (hm : ks.length ≤ 1000000) (hv : Inv B (Res.cell t [vP m, vI 0, vI clk, .bool false, .map (some wb)] 141 :: Res.cell m [vP s, sv, vI clk, .slice va 1 vc] 92 :: Res.row 52 1 (.slice va 1 vc) 1 [vP t] :: H) w) :
  Calls Tryz.prog 175 #[vP t, .slice ka ks.length kc] w fun e w' => ∃ ec : Int, e = .returned (vI ec) ∧ ((ec = 0 ∧ ks.any (fun s : List UInt8 => decide (s.length > 256)) = false) ∨ (ec = 2 ∧ ks.any (fun s : List UInt8 => decide (s.length > 256)) = true)) ∧ Inv B (Res.cell t [vP m, vI 0, vI clk, .bool false, .map (some wb)] 141 :: Res.cell m [vP s, sv, vI clk, .slice va 1 vc] 92 :: Res.row 52 1 (.slice va 1 vc) 1 [vP t] :: H) w' := by
 refine cW Tryz.func175 rfl Tryz.ntmps175 ?_
 simp only [al]
 refine sK fun _ k1 => rL (uA rfl ?_)
 refine uW k1 (sK fun _ k2 => ?_)
 refine sK fun _ k3 => rL (uM rfl ?_)
 refine uG (vP t) rfl (ex_nil rfl rfl) ?_
 refine uF (.pointer (some ⟨t, 3, none⟩)) rfl (x1fa141_3 _ _ _) ?_
 refine uL _ rfl (run_load1 s2na4 (hv.load 0 3 rfl rfl)) (uW k3 ?_)
 refine cF rfl (kS ?_)
 refine tK k2 (sK fun _ k4 => ?_)
 refine rL (uA rfl ?_)
 refine uW k4 (sK fun _ k5 => ?_)
 refine sK fun _ k6 => rL (uM rfl ?_)
 refine uG (vP t) rfl (ex_nil rfl rfl) ?_
 refine uF (vP t) rfl (x1fa141_0 _ _ _) ?_
 refine uL _ rfl (run_load1 x1na43 (hv.load 0 0 rfl rfl)) ?_
 refine uG (.bool false) rfl (ex_pisnil Tryz.underlying43 rfl rfl rfl rfl) (uM rfl ?_)
 refine uM rfl ?_
 refine uG (vP t) rfl (ex_nil rfl rfl) ?_
 refine uF (vP t) rfl (x1fa141_0 _ _ _) ?_
 refine uL _ rfl (run_load1 x1na43 (hv.load 0 0 rfl rfl)) ?_
 refine uG (vP m) rfl (ex_nil rfl rfl) ?_
 refine uF (.pointer (some ⟨m, 3, none⟩)) rfl (x1fa92_3 _ _ _) ?_
 refine uL _ rfl (run_load1 x1na90 (hv.load 1 3 rfl rfl)) ?_
 refine uM rfl ?_
 replace hv := hv.front 1 rfl
 simp only [eS, eZ] at hv
 replace hv := hv.front 1 rfl
 simp only [eS, eZ] at hv
 replace hv := hv.front 2 rfl
 simp only [eS, eZ] at hv
 refine xC x1callable183 rfl ((containsTx B _ _ t va vc hv).mono ?_) rfl
 rintro e w7 ⟨rfl, hv⟩
 refine ⟨_, rfl, uG (.bool false) rfl (ex_not rfl rfl rfl) ?_⟩
 refine uK rfl (uM rfl ?_)
 refine uM rfl ?_
 refine uM rfl ?_
 refine xC s9callable184 rfl ((containsFuncText B _ _ 182 #[] ka kc ks (fun s : List UInt8 => decide (s.length > 256)) hr hm x1callable182 (fun x _ w hv => mayLong B _ w x hv) hv).mono ?_) rfl
 rintro e w8 ⟨rfl, hv⟩
 refine ⟨_, rfl, uK rfl ?_⟩
 refine uW k6 (wpIn_cond_split (t := ks.any (fun s : List UInt8 => decide (s.length > 256))) rfl (fun hc9 => ?_) (fun hc9 => ?_))
 ·refine sK fun _ k10 => rL (uA rfl ?_)
  refine uW k10 (rR ?_)
  refine tR (bR rfl rfl ?_)
  exact ⟨_, rfl, .inr ⟨rfl, hc9⟩, ((hv.front 2 rfl).front 2 rfl)⟩
 refine kS (tK k5 ?_)
 refine sK fun _ k11 => rL (uA rfl ?_)
 refine uW k11 (rR ?_)
 refine bR rfl rfl (⟨_, rfl, .inl ⟨rfl, hc9⟩, ((hv.front 2 rfl).front 2 rfl)⟩)
theorem calls_bool {P : Program} {f : FuncId} {args : Array Value} {w : World} {R : World → Prop} {b b' : Bool} (h : Calls P f args w fun e w' => e = .returned (.bool b) ∧ R w') (hb : b = b') : Calls P f args w fun e w' => e = .returned (.bool b') ∧ R w' := hb ▸ h
def SetAt (l : List (List UInt8)) (i : Nat) : Prop := ∀ x, l[i]? = some x → x.length ≤ 4096 ∧ ∀ (j : Nat) y, i = j + 1 → l[j]? = some y → Op.bytesLess y x = true
def SetOk (l : List (List UInt8)) : Prop := l.length ≤ 512 ∧ ∀ i, SetAt l i
def HashAt (l : List (List UInt8 × List UInt8)) (i : Nat) : Prop := ∀ x, l[i]? = some x → (x.1.length ≤ 4096 ∧ x.2.length ≤ 4096) ∧ ∀ (j : Nat) y, i = j + 1 → l[j]? = some y → Op.bytesLess y.1 x.1 = true
def HashOk (l : List (List UInt8 × List UInt8)) : Prop := l.length ≤ 512 ∧ ∀ i, HashAt l i
theorem s10callable205 : Callable Tryz.prog 205 := cb Tryz.func205 (by kernel_rfl)
theorem setRightC (B : Base) (H : List Res) (w : World) (ad : Option Addr) (c : Nat) (l : List (List UInt8)) (hr : RdV B [] ad (textCells l)) (hm : l.length ≤ 1000000) (hv : Inv B H w) :
  Calls Tryz.prog 190 #[.slice ad l.length c] w fun e w' => ∃ b, e = .returned (.bool b) ∧ (b = true ↔ SetOk l) ∧ Inv B H w' := by
 refine cW Tryz.func190 rfl Tryz.ntmps190 ?_
 simp only [al]
 refine sK fun _ k1 => rL (uA rfl ?_)
 refine uW k1 (sK fun _ k2 => ?_)
 refine sK fun _ k3 => rL (uM rfl ?_)
 refine uG (vI (l.length : Int)) rfl (ex_len0 Tryz.underlying23 rfl rfl) ?_
 by_cases hb4 : (l.length : Int) > 512
 ·refine uG (.bool true) rfl (ex_gtr rfl rfl rfl (qT hb4)) (uW k3 ?_)
  refine cT rfl (sK fun _ k5 => ?_)
  refine rL (uA rfl ?_)
  refine uW k5 (rR ?_)
  refine tR (bR rfl rfl ?_)
  exact ⟨false, rfl, ⟨fun h => (by cases h), fun h => by have := h.1; omega⟩, hv⟩
 refine uG (.bool false) rfl (ex_gtr rfl rfl rfl (qF hb4)) (uW k3 ?_)
 refine cF rfl (kS ?_)
 refine tK k2 (sK fun _ k6 => ?_)
 refine sK fun _ k7 => rL (uM rfl ?_)
 refine uG (vI (l.length : Int)) rfl (ex_len0 Tryz.underlying23 rfl rfl) (uM rfl ?_)
 refine uW k7 (bB ?_)
 gi_loopw [10] (fun x10 wr => ∃ (i : Nat), x10 = vI i ∧ i ≤ l.length ∧ (∀ k, k < i → SetAt l k) ∧ Inv B H wr) (fun x10 _ => l.length - (intOf x10).toNat)
 case atStart => exact ⟨0, rfl, Nat.zero_le _, fun k h => by omega, hv⟩
 case round =>
  obtain ⟨i, rfl, hi, hall, hv⟩ := hrel
  refine sK fun _ k9 => rL ?_
  by_cases hb10 : (i : Int) < (l.length : Int)
  ·refine uG (.bool true) rfl (ex_lss rfl rfl rfl (qT hb10)) (uW k9 ?_)
   refine sK fun _ k11 => cT rfl (kS ?_)
   refine tK k11 (sK fun _ k12 => ?_)
   refine bB (sK fun _ k13 => ?_)
   obtain ⟨x, hx⟩ : ∃ x, l[i]? = some x := ⟨_, List.getElem?_eq_getElem (show i < l.length by omega)⟩
   obtain ⟨bb, bo, had, hrdx⟩ := text_reads hr hx
   subst had
   refine rL (uM rfl ?_)
   refine uG (.pointer (some ⟨bb, bo + i, none⟩)) rfl (ex_index rfl rfl rfl (run_idx1 (k := i) Tryz.underlying23 s9es23 (by omega))) ?_
   refine uL _ rfl (run_load1 s9na9 (hrdx _ _ _ (Base.Le.refl _) no_res hv 0 _ rfl)) (uA rfl ?_)
   refine uA rfl (uW k13 ?_)
   refine sK fun _ k14 => rL (uM rfl ?_)
   by_cases hq15 : x.length > 4096
   ·refine xC s10callable205 rfl ((calls_bool (setLong B _ _ x hv) (qT hq15)).mono ?_) rfl
    rintro e w16 ⟨rfl, hv⟩
    refine ⟨_, rfl, uM rfl ?_⟩
    iterate 11 refine uP rfl ?_
    refine uK rfl (uW k14 ?_)
    refine cT rfl (sK fun _ k17 => ?_)
    refine rL (uA rfl ?_)
    refine uW k17 (rR ?_)
    refine bZ (tR ?_)
    refine tR (bZ ?_)
    refine tR (bR rfl rfl ?_)
    exact ⟨false, rfl, ⟨fun h => (by cases h), fun h => by have := (h.2 i x hx).1; first | omega | exact absurd this hq15⟩, hv⟩
   refine xC s10callable205 rfl ((calls_bool (setLong B _ _ x hv) (qF hq15)).mono ?_) rfl
   rintro e w18 ⟨rfl, hv⟩
   refine ⟨_, rfl, uM rfl ?_⟩
   refine uM rfl ?_
   by_cases hb19 : (i : Int) > 0
   ·refine uG (.bool true) rfl (ex_gtr rfl rfl rfl (qT hb19)) ?_
    obtain ⟨j, hj⟩ : ∃ j : Nat, i = j + 1 := ⟨i - 1, by omega⟩
    obtain ⟨y, hy⟩ : ∃ x, l[j]? = some x := ⟨_, List.getElem?_eq_getElem (show j < l.length by omega)⟩
    obtain ⟨b9, o9, had9, hrdy⟩ := text_reads hr hy
    cases had9
    refine uM rfl ?_
    refine uM rfl ?_
    refine uM rfl ?_
    refine uG (vI j) rfl (ex_sub rfl rfl rfl (by rw [i64_in (by omega)]; omega)) ?_
    refine uG (.pointer (some ⟨bb, bo + j, none⟩)) rfl (ex_index rfl rfl rfl (run_idx1 (k := j) Tryz.underlying23 s9es23 (by omega))) ?_
    refine uL _ rfl (run_load1 s9na9 (hrdy _ _ _ (Base.Le.refl _) no_res hv 0 _ rfl)) ?_
    refine uM rfl ?_
    refine uG (.bool (!Op.bytesLess y x)) rfl (ex_sgeq rfl rfl rfl rfl) ?_
    refine uK rfl (uK rfl ?_)
    refine uW k14 (wpIn_cond_split (t := !Op.bytesLess y x) rfl (fun hc20 => ?_) (fun hc20 => ?_))
    ·refine sK fun _ k21 => rL (uA rfl ?_)
     refine uW k21 (rR ?_)
     refine bZ (tR ?_)
     refine tR (bZ ?_)
     refine tR (bR rfl rfl ?_)
     exact ⟨false, rfl, ⟨fun h => (by cases h), fun h => by have := (h.2 i x hx).2 j y (by omega) hy; rw [this] at hc20; simp at hc20⟩, hv⟩
    refine kS (bN ?_)
    refine tK k12 (rL ?_)
    refine uG (vI ((i + 1 : Nat) : Int)) rfl (ex_add rfl rfl rfl (by rw [i64_in (by omega)]; omega)) (uM rfl ?_)
    refine uZ (then_normal ?_)
    go_roundw
    case rel => exact ⟨i + 1, rfl, by omega, fun k hk => (by
       rcases Nat.lt_or_ge k i with h | h
       ·exact hall k h
       obtain rfl : k = i := by omega
       intro x' hx'
       rw [hx] at hx'; cases hx'
       refine ⟨by omega, fun j' y' hj' hy' => ?_⟩
       obtain rfl : j' = j := by omega
       rw [hy] at hy'; cases hy'; simpa using hc20), hv⟩
    case measure => show l.length - (((i + 1 : Nat) : Int)).toNat < l.length - ((i : Int)).toNat; omega
   refine uG (.bool false) rfl (ex_gtr rfl rfl rfl (qF hb19)) ?_
   refine uM rfl ?_
   iterate 7 refine uP rfl ?_
   refine uK rfl (uK rfl ?_)
   refine uW k14 (cF rfl ?_)
   refine kS (bN ?_)
   refine tK k12 (rL ?_)
   refine uG (vI ((i + 1 : Nat) : Int)) rfl (ex_add rfl rfl rfl (by rw [i64_in (by omega)]; omega)) (uM rfl ?_)
   refine uZ (then_normal ?_)
   go_roundw
   case rel => exact ⟨i + 1, rfl, by omega, fun k hk => (by
      rcases Nat.lt_or_ge k i with h | h
      ·exact hall k h
      obtain rfl : k = i := by omega
      intro x' hx'
      rw [hx] at hx'; cases hx'
      refine ⟨by omega, fun j' y' hj' hy' => ?_⟩
      omega), hv⟩
   case measure => show l.length - (((i + 1 : Nat) : Int)).toNat < l.length - ((i : Int)).toNat; omega
  refine uG (.bool false) rfl (ex_lss rfl rfl rfl (qF hb10)) (uW k9 ?_)
  refine sK fun _ k22 => cF rfl (xE ?_)
  refine tX (tX ?_)
  refine bH (tK k6 ?_)
  refine sK fun _ k23 => rL (uA rfl ?_)
  refine uW k23 (rR ?_)
  refine bR rfl rfl ?_
  obtain rfl : i = l.length := by omega
  exact ⟨true, rfl, ⟨fun _ => ⟨by omega, fun k x hx => hall k (List.getElem?_eq_some_iff.1 hx).1 x hx⟩, fun _ => rfl⟩, hv⟩
theorem s10fa100_0 : FA Tryz.prog 100 0 0 := fun w b o => by kernel_rfl
theorem s10fa100_1 : FA Tryz.prog 100 1 1 := fun w b o => by kernel_rfl
theorem hashFits (B : Base) (H : List Res) (w : World) (x : List UInt8 × List UInt8) (hv : Inv B H w) :
  Calls Tryz.prog 203 #[.agg #[vS x.1, vS x.2]] w fun e w' => e = .returned (.bool (decide (x.1.length ≤ 4096 ∧ x.2.length ≤ 4096))) ∧ Inv B H w' := by
 refine cW Tryz.func203 rfl Tryz.ntmps203 ?_
 simp only [al]
 refine sK fun _ k1 => rL (sl_box (L := [vS x.1, vS x.2]) tV (wn rfl) rfl rfl hv (fun w => by kernel_rfl) (fun b2 w3 hv => ?_))
 refine uA rfl (uW k1 ?_)
 refine sK fun _ k4 => rL (uF (vP b2) rfl (s10fa100_0 _ _ _) ?_)
 refine uL _ rfl (run_load1 s9na9 (hv.load 0 0 rfl rfl)) ?_
 refine uG (vI (x.1.length : Int)) rfl (ex_lenStr Tryz.underlying9 rfl rfl) ?_
 by_cases hb5 : (x.1.length : Int) ≤ 4096
 ·refine uG (.bool true) rfl (ex_leq rfl rfl rfl (qT hb5)) (uM rfl ?_)
  refine uF (.pointer (some ⟨b2, 1, none⟩)) rfl (s10fa100_1 _ _ _) ?_
  refine uL _ rfl (run_load1 s9na9 (hv.load 0 1 rfl rfl)) ?_
  refine uG (vI (x.2.length : Int)) rfl (ex_lenStr Tryz.underlying9 rfl rfl) ?_
  by_cases hb6 : (x.2.length : Int) ≤ 4096
  ·refine uG (.bool true) rfl (ex_leq rfl rfl rfl (qT hb6)) (uK rfl ?_)
   refine uA rfl (uW k4 ?_)
   refine rR (bR rfl rfl ?_)
   exact ⟨congrArg (fun b => Ending.returned (Value.bool b)) (by symm; first | exact qT (by constructor <;> omega) | exact qF (by omega)), (hv.kp [] 0 1)⟩
  refine uG (.bool false) rfl (ex_leq rfl rfl rfl (qF hb6)) (uK rfl ?_)
  refine uA rfl (uW k4 ?_)
  refine rR (bR rfl rfl ?_)
  exact ⟨congrArg (fun b => Ending.returned (Value.bool b)) (by symm; first | exact qT (by constructor <;> omega) | exact qF (by omega)), (hv.kp [] 0 1)⟩
 refine uG (.bool false) rfl (ex_leq rfl rfl rfl (qF hb5)) (uM rfl ?_)
 iterate 4 refine uP rfl ?_
 refine uK rfl (uA rfl ?_)
 refine uW k4 (rR ?_)
 refine bR rfl rfl (⟨congrArg (fun b => Ending.returned (Value.bool b)) (by symm; first | exact qT (by constructor <;> omega) | exact qF (by omega)), (hv.kp [] 0 1)⟩)
theorem s10es57 (w : World) : (sizeOf (Tryz.prog.elem 57)).run Tryz.prog w = .ok 2 w := by kernel_rfl
theorem s10wd100 : Wide Tryz.prog 100 2 := wide_of (fun w => by kernel_rfl) (by kernel_rfl)
theorem s10al100 : AL Tryz.prog 100 [vS [], vS []] := fun w => by kernel_rfl
theorem s10sz100 : (Tryz.prog.info? 100).map (·.size) = some 2 := by kernel_rfl
theorem s10callable203 : Callable Tryz.prog 203 := cb Tryz.func203 (by kernel_rfl)
theorem hashRightC (B : Base) (H : List Res) (w : World) (ad : Option Addr) (c : Nat) (l : List (List UInt8 × List UInt8)) (hr : RdV B [] ad (pairCells l)) (hm : l.length ≤ 1000000) (hv : Inv B H w) :
  Calls Tryz.prog 188 #[.slice ad l.length c] w fun e w' => ∃ b, e = .returned (.bool b) ∧ (b = true ↔ HashOk l) ∧ Inv B H w' := by
 refine cW Tryz.func188 rfl Tryz.ntmps188 ?_
 simp only [al]
 refine sK fun _ k1 => rL (uA rfl ?_)
 refine uW k1 (sK fun _ k2 => ?_)
 refine sK fun _ k3 => rL (uM rfl ?_)
 refine uG (vI (l.length : Int)) rfl (ex_len0 Tryz.underlying57 rfl rfl) ?_
 by_cases hb4 : (l.length : Int) > 512
 ·refine uG (.bool true) rfl (ex_gtr rfl rfl rfl (qT hb4)) (uW k3 ?_)
  refine cT rfl (sK fun _ k5 => ?_)
  refine rL (uA rfl ?_)
  refine uW k5 (rR ?_)
  refine tR (bR rfl rfl ?_)
  exact ⟨false, rfl, ⟨fun h => (by cases h), fun h => by have := h.1; omega⟩, hv⟩
 refine uG (.bool false) rfl (ex_gtr rfl rfl rfl (qF hb4)) (uW k3 ?_)
 refine cF rfl (kS ?_)
 refine tK k2 (sK fun _ k6 => ?_)
 refine sK fun _ k7 => rL (uM rfl ?_)
 refine uG (vI (l.length : Int)) rfl (ex_len0 Tryz.underlying57 rfl rfl) (uM rfl ?_)
 refine uW k7 (bB ?_)
 gi_loopw [10] (fun x10 wr => ∃ (i : Nat), x10 = vI i ∧ i ≤ l.length ∧ (∀ k, k < i → HashAt l k) ∧ Inv B H wr) (fun x10 _ => l.length - (intOf x10).toNat)
 case atStart => exact ⟨0, rfl, Nat.zero_le _, fun k h => by omega, hv⟩
 case round =>
  obtain ⟨i, rfl, hi, hall, hv⟩ := hrel
  refine sK fun _ k9 => rL ?_
  by_cases hb10 : (i : Int) < (l.length : Int)
  ·refine uG (.bool true) rfl (ex_lss rfl rfl rfl (qT hb10)) (uW k9 ?_)
   refine sK fun _ k11 => cT rfl (kS ?_)
   refine tK k11 (sK fun _ k12 => ?_)
   refine bB (sK fun _ k13 => ?_)
   obtain ⟨x, hx⟩ : ∃ x, l[i]? = some x := ⟨_, List.getElem?_eq_getElem (show i < l.length by omega)⟩
   obtain ⟨bb, bo, had, hrdx⟩ := pair_reads hr hx
   subst had
   refine rL (uM rfl ?_)
   refine uG (.pointer (some ⟨bb, bo + i * 2, none⟩)) rfl (ex_index rfl rfl rfl (run_idx (k := i) Tryz.underlying57 s10es57 (by omega))) ?_
   refine uL (.agg #[vS x.1, vS x.2]) rfl (run_loadR (cs := [vS x.1, vS x.2]) s10wd100 (Reads.mid (pre := []) (mid := [vS x.1, vS x.2]) (post := []) hrdx _ _ _ (Base.Le.refl _) no_res hv)) ?_
   refine sl_alloc tV (wn rfl) rfl hv s10al100 (fun b14 w15 hv => ?_)
   refine uA rfl ?_
   refine xS 0 rfl hv s10sz100 rfl (by exact ⟨rfl, rfl, trivial⟩) (fun w16 hv => ?_)
   simp only [zO, sp] at hv
   refine uW k13 (sK fun _ k17 => ?_)
   refine rW mixed [1] [0,1,2,3,4,5,6,7,8,9,10,11,12,13,14,15,16,17] 34 rfl (by kernel_rfl) hv ?_
   simp only [qm, opAt]
   refine dL (.agg #[vS x.1, vS x.2]) rfl (fun hv => ex_load rfl rfl (lM 0 s10wd100 hv rfl rfl rfl rfl)) (dS rfl fun w18 hv => ?_)
   by_cases hq19 : x.1.length ≤ 4096 ∧ x.2.length ≤ 4096
   ·refine mC s10callable203 rfl ((calls_bool (hashFits B _ _ x hv) (qT hq19)).mono ?_) rfl
    rintro e w20 ⟨rfl, hv⟩
    refine ⟨_, rfl, dW hv ?_⟩
    refine dG (.bool false) rfl (ex_not rfl rfl rfl) ?_
    simp only [zP, po]
    refine dM (.bool false) rfl (dM (vI i) rfl ?_)
    by_cases hb21 : (i : Int) > 0
    ·obtain ⟨j, hj⟩ : ∃ j : Nat, i = j + 1 := ⟨i - 1, by omega⟩
     obtain ⟨y, hy⟩ : ∃ x, l[j]? = some x := ⟨_, List.getElem?_eq_getElem (show j < l.length by omega)⟩
     obtain ⟨b9, o9, had9, hrdy⟩ := pair_reads hr hy
     cases had9
     skip
     refine dG (.bool true) rfl (ex_gtr rfl rfl rfl (qT hb21)) ?_
     simp only [zP, po]
     refine dM (.bool true) rfl (dM (.slice (some ⟨bb, bo, none⟩) l.length c) rfl ?_)
     refine dM (vI i) rfl ?_
     simp only [zP, po]
     refine dG (vI j) rfl (ex_sub rfl rfl rfl (by rw [i64_in (by omega)]; omega)) (dG (.pointer (some ⟨bb, bo + j * 2, none⟩)) rfl (ex_index rfl rfl rfl (run_idx (k := j) Tryz.underlying57 s10es57 (by omega))) ?_)
     refine dG (.pointer (some ⟨bb, bo + j * 2, none⟩)) rfl (ex_field rfl rfl (s10fa100_0 _ _ _)) ?_
     simp only [zP, po]
     refine dL _ rfl (fun hv => ex_load rfl rfl (run_load1 s9na9 (hrdy _ _ _ (Base.Le.refl _) no_res hv 0 _ rfl))) (dG (vP b14) rfl (ex_field rfl rfl (s10fa100_0 _ _ _)) ?_)
     refine dL _ rfl (fun hv => ex_load rfl rfl (run_load1 s9na9 (hv.load 0 0 rfl rfl))) ?_
     simp only [zP, po]
     refine dG (.bool (!Op.bytesLess y.1 x.1)) rfl (ex_sgeq rfl rfl rfl rfl) (dK true (.bool (!Op.bytesLess y.1 x.1)) rfl ?_)
     refine dK false (.bool (!Op.bytesLess y.1 x.1)) rfl (dE fun w22 hv => ?_)
     simp only [zP, po]
     refine tK k17 (wpIn_cond_split (t := !Op.bytesLess y.1 x.1) rfl (fun hc23 => ?_) (fun hc23 => ?_))
     ·refine sK fun _ k24 => rL (uA rfl ?_)
      refine uW k24 (rR ?_)
      refine bZ (tR ?_)
      refine tR (bZ ?_)
      refine tR (bR rfl rfl ?_)
      exact ⟨false, rfl, ⟨fun h => (by cases h), fun h => by have := (h.2 i x hx).2 j y (by omega) hy; rw [this] at hc23; simp at hc23⟩, (hv.kp [] 0 1)⟩
     refine kS (bN ?_)
     refine tK k12 (rL ?_)
     refine uG (vI ((i + 1 : Nat) : Int)) rfl (ex_add rfl rfl rfl (by rw [i64_in (by omega)]; omega)) (uM rfl ?_)
     refine uZ (then_normal ?_)
     go_roundw
     case rel => exact ⟨i + 1, rfl, by omega, fun k hk => (by
        rcases Nat.lt_or_ge k i with h | h
        ·exact hall k h
        obtain rfl : k = i := by omega
        intro x' hx'
        rw [hx] at hx'; cases hx'
        refine ⟨by exact hq19, fun j' y' hj' hy' => ?_⟩
        obtain rfl : j' = j := by omega
        rw [hy] at hy'; cases hy'; simpa using hc23), (hv.kp [] 0 1)⟩
     case measure => show l.length - (((i + 1 : Nat) : Int)).toNat < l.length - ((i : Int)).toNat; omega
    refine dG (.bool false) rfl (ex_gtr rfl rfl rfl (qF hb21)) ?_
    simp only [zP, po]
    refine dM (.bool false) rfl (dP rfl ?_)
    refine dP rfl ?_
    simp only [zP, po]
    refine dP rfl (dP rfl ?_)
    refine dP rfl ?_
    simp only [zP, po]
    refine dP rfl (dP rfl ?_)
    refine dP rfl ?_
    simp only [zP, po]
    refine dP rfl (dK false (.bool false) rfl ?_)
    refine dK false (.bool false) rfl (dE fun w25 hv => ?_)
    simp only [zP, po]
    refine tK k17 (cF rfl ?_)
    refine kS (bN ?_)
    refine tK k12 (rL ?_)
    refine uG (vI ((i + 1 : Nat) : Int)) rfl (ex_add rfl rfl rfl (by rw [i64_in (by omega)]; omega)) (uM rfl ?_)
    refine uZ (then_normal ?_)
    go_roundw
    case rel => exact ⟨i + 1, rfl, by omega, fun k hk => (by
       rcases Nat.lt_or_ge k i with h | h
       ·exact hall k h
       obtain rfl : k = i := by omega
       intro x' hx'
       rw [hx] at hx'; cases hx'
       refine ⟨by exact hq19, fun j' y' hj' hy' => ?_⟩
       omega), (hv.kp [] 0 1)⟩
    case measure => show l.length - (((i + 1 : Nat) : Int)).toNat < l.length - ((i : Int)).toNat; omega
   refine mC s10callable203 rfl ((calls_bool (hashFits B _ _ x hv) (qF hq19)).mono ?_) rfl
   rintro e w26 ⟨rfl, hv⟩
   refine ⟨_, rfl, dW hv ?_⟩
   refine dG (.bool true) rfl (ex_not rfl rfl rfl) ?_
   simp only [zP, po]
   refine dM (.bool true) rfl (dP rfl ?_)
   refine dP rfl ?_
   simp only [zP, po]
   refine dP rfl (dP rfl ?_)
   refine dP rfl ?_
   simp only [zP, po]
   refine dP rfl (dP rfl ?_)
   refine dP rfl ?_
   simp only [zP, po]
   refine dP rfl (dP rfl ?_)
   refine dP rfl ?_
   simp only [zP, po]
   refine dP rfl (dP rfl ?_)
   refine dK true (.bool true) rfl (dE fun w27 hv => ?_)
   simp only [zP, po]
   refine tK k17 (cT rfl ?_)
   refine sK fun _ k28 => rL (uA rfl ?_)
   refine uW k28 (rR ?_)
   refine bZ (tR ?_)
   refine tR (bZ ?_)
   refine tR (bR rfl rfl ?_)
   exact ⟨false, rfl, ⟨fun h => (by cases h), fun h => by have := (h.2 i x hx).1; first | omega | exact absurd this hq19⟩, (hv.kp [] 0 1)⟩
  refine uG (.bool false) rfl (ex_lss rfl rfl rfl (qF hb10)) (uW k9 ?_)
  refine sK fun _ k29 => cF rfl (xE ?_)
  refine tX (tX ?_)
  refine bH (tK k6 ?_)
  refine sK fun _ k30 => rL (uA rfl ?_)
  refine uW k30 (rR ?_)
  refine bR rfl rfl ?_
  obtain rfl : i = l.length := by omega
  exact ⟨true, rfl, ⟨fun _ => ⟨by omega, fun k x hx => hall k (List.getElem?_eq_some_iff.1 hx).1 x hx⟩, fun _ => rfl⟩, hv⟩
def cmpI (a b : Int) : Int := if a < b then -1 else if a > b then 1 else 0
def cmpS (a b : List UInt8) : Int := if Op.bytesLess a b = true then -1 else if Op.bytesLess b a = true then 1 else 0
def orI (a b : Int) : Int := if a ≠ 0 then a else b
def cmpM (a b : Int × List UInt8) : Int := orI (cmpI a.1 b.1) (cmpS a.2 b.2)
theorem nanI (B : Base) (H : List Res) (w : World) (n : Int) (hv : Inv B H w) :
  Calls Tryz.prog 220 #[vI n] w fun e w' => e = .returned (.bool false) ∧ Inv B H w' := by
 refine cW Tryz.func220 rfl Tryz.ntmps220 ?_
 simp only [al]
 refine sK fun _ k1 => rL (uA rfl ?_)
 refine uW k1 (sK fun _ k2 => ?_)
 refine rL (uM rfl ?_)
 refine uM rfl ?_
 refine uG (.bool false) rfl (ex_neq rfl rfl rfl (qF (by simp))) (uA rfl ?_)
 refine uW k2 (rR ?_)
 refine bR rfl rfl (⟨rfl, hv⟩)
theorem nanS (B : Base) (H : List Res) (w : World) (s : List UInt8) (hv : Inv B H w) :
  Calls Tryz.prog 214 #[vS s] w fun e w' => e = .returned (.bool false) ∧ Inv B H w' := by
 refine cW Tryz.func214 rfl Tryz.ntmps214 ?_
 simp only [al]
 refine sK fun _ k1 => rL (uA rfl ?_)
 refine uW k1 (sK fun _ k2 => ?_)
 refine rL (uM rfl ?_)
 refine uM rfl ?_
 refine uG (.bool false) rfl (ex_sneq rfl rfl rfl (qF (by simp))) (uA rfl ?_)
 refine uW k2 (rR ?_)
 refine bR rfl rfl (⟨rfl, hv⟩)
theorem s11callable220 : Callable Tryz.prog 220 := cb Tryz.func220 (by kernel_rfl)
theorem cmpInt (B : Base) (H : List Res) (w : World) (a b : Int) (hv : Inv B H w) :
  Calls Tryz.prog 217 #[vI a, vI b] w fun e w' => e = .returned (vI (cmpI a b)) ∧ Inv B H w' := by
 refine cW Tryz.func217 rfl Tryz.ntmps217 ?_
 simp only [al]
 refine sK fun _ k1 => rL (uA rfl ?_)
 refine uW k1 (sK fun _ k2 => ?_)
 refine rL (uM rfl ?_)
 refine xC s11callable220 rfl ((nanI B _ _ _ hv).mono ?_) rfl
 rintro e w3 ⟨rfl, hv⟩
 refine ⟨_, rfl, uA rfl ?_⟩
 refine uW k2 (sK fun _ k4 => ?_)
 refine rL (uM rfl ?_)
 refine xC s11callable220 rfl ((nanI B _ _ _ hv).mono ?_) rfl
 rintro e w5 ⟨rfl, hv⟩
 refine ⟨_, rfl, uA rfl ?_⟩
 refine uW k4 (sK fun _ k6 => ?_)
 refine sK fun _ k7 => rL (uM rfl ?_)
 refine uW k7 (cF rfl ?_)
 refine kS (tK k6 ?_)
 refine sK fun _ k8 => sK fun _ k9 => rL (uM rfl ?_)
 refine uW k9 (cF rfl ?_)
 refine kS (tK k8 ?_)
 refine sK fun _ k10 => sK fun _ k11 => rL (uM rfl ?_)
 refine uM rfl ?_
 by_cases hb12 : a < b
 ·refine uG (.bool true) rfl (ex_lss rfl rfl rfl (qT hb12)) (uW k11 ?_)
  refine cT rfl (sK fun _ k13 => ?_)
  refine rL (uA rfl ?_)
  refine uW k13 (rR ?_)
  refine tR (bR rfl rfl ?_)
  exact ⟨congrArg (fun b => Ending.returned (vI b)) (by unfold cmpI; simp [*]), hv⟩
 refine uG (.bool false) rfl (ex_lss rfl rfl rfl (qF hb12)) (uW k11 ?_)
 refine cF rfl (kS ?_)
 refine tK k10 (sK fun _ k14 => ?_)
 refine sK fun _ k15 => rL (uM rfl ?_)
 refine uM rfl ?_
 by_cases hb16 : a > b
 ·refine uG (.bool true) rfl (ex_gtr rfl rfl rfl (qT hb16)) (uW k15 ?_)
  refine cT rfl (sK fun _ k17 => ?_)
  refine rL (uA rfl ?_)
  refine uW k17 (rR ?_)
  refine tR (bR rfl rfl ?_)
  exact ⟨congrArg (fun b => Ending.returned (vI b)) (by unfold cmpI; simp [*]), hv⟩
 refine uG (.bool false) rfl (ex_gtr rfl rfl rfl (qF hb16)) (uW k15 ?_)
 refine cF rfl (kS ?_)
 refine tK k14 (sK fun _ k18 => ?_)
 refine rL (uA rfl ?_)
 refine uW k18 (rR ?_)
 refine bR rfl rfl (⟨congrArg (fun b => Ending.returned (vI b)) (by unfold cmpI; simp [*]), hv⟩)
theorem s11callable214 : Callable Tryz.prog 214 := cb Tryz.func214 (by kernel_rfl)
theorem cmpStr (B : Base) (H : List Res) (w : World) (a b : (List UInt8)) (hv : Inv B H w) :
  Calls Tryz.prog 218 #[vS a, vS b] w fun e w' => e = .returned (vI (cmpS a b)) ∧ Inv B H w' := by
 refine cW Tryz.func218 rfl Tryz.ntmps218 ?_
 simp only [al]
 refine sK fun _ k1 => rL (uA rfl ?_)
 refine uW k1 (sK fun _ k2 => ?_)
 refine rL (uM rfl ?_)
 refine xC s11callable214 rfl ((nanS B _ _ _ hv).mono ?_) rfl
 rintro e w3 ⟨rfl, hv⟩
 refine ⟨_, rfl, uA rfl ?_⟩
 refine uW k2 (sK fun _ k4 => ?_)
 refine rL (uM rfl ?_)
 refine xC s11callable214 rfl ((nanS B _ _ _ hv).mono ?_) rfl
 rintro e w5 ⟨rfl, hv⟩
 refine ⟨_, rfl, uA rfl ?_⟩
 refine uW k4 (sK fun _ k6 => ?_)
 refine sK fun _ k7 => rL (uM rfl ?_)
 refine uW k7 (cF rfl ?_)
 refine kS (tK k6 ?_)
 refine sK fun _ k8 => sK fun _ k9 => rL (uM rfl ?_)
 refine uW k9 (cF rfl ?_)
 refine kS (tK k8 ?_)
 refine sK fun _ k10 => sK fun _ k11 => rL (uM rfl ?_)
 refine uM rfl ?_
 refine uG (.bool (Op.bytesLess a b)) rfl (ex_slss rfl rfl rfl rfl) (uW k11 ?_)
 refine wpIn_cond_split (t := Op.bytesLess a b) rfl (fun hc12 => ?_) (fun hc12 => ?_)
 ·refine sK fun _ k13 => rL (uA rfl ?_)
  refine uW k13 (rR ?_)
  refine tR (bR rfl rfl ?_)
  exact ⟨congrArg (fun b => Ending.returned (vI b)) (by unfold cmpS; simp [*]), hv⟩
 refine kS (tK k10 ?_)
 refine sK fun _ k14 => sK fun _ k15 => rL (uM rfl ?_)
 refine uM rfl ?_
 refine uG (.bool (Op.bytesLess b a)) rfl (ex_sgtr rfl rfl rfl rfl) (uW k15 ?_)
 refine wpIn_cond_split (t := Op.bytesLess b a) rfl (fun hc16 => ?_) (fun hc16 => ?_)
 ·refine sK fun _ k17 => rL (uA rfl ?_)
  refine uW k17 (rR ?_)
  refine tR (bR rfl rfl ?_)
  exact ⟨congrArg (fun b => Ending.returned (vI b)) (by unfold cmpS; simp [*]), hv⟩
 refine kS (tK k14 ?_)
 refine sK fun _ k18 => rL (uA rfl ?_)
 refine uW k18 (rR ?_)
 refine bR rfl rfl (⟨congrArg (fun b => Ending.returned (vI b)) (by unfold cmpS; simp [*]), hv⟩)
theorem s11es126 (w : World) : (sizeOf (Tryz.prog.elem 126)).run Tryz.prog w = .ok 1 w := by kernel_rfl
theorem cmpOr (B : Base) (H : List Res) (w : World) (ad : Option Addr) (a b : Int) (R : List Res) (hRH : ∀ r ∈ R, r ∈ H) (hr : RdW B R ad [vI a, vI b]) (hv : Inv B H w) :
  Calls Tryz.prog 216 #[.slice ad 2 2] w fun e w' => e = .returned (vI (orI a b)) ∧ Inv B H w' := by
 refine cW Tryz.func216 rfl Tryz.ntmps216 ?_
 simp only [al]
 refine sK fun _ k1 => rL (uA rfl ?_)
 refine uW k1 (sK fun _ k2 => ?_)
 refine rL (uA rfl ?_)
 refine uW k2 (sK fun _ k3 => ?_)
 refine sK fun _ k4 => rL (uG (.slice ad 2 2) rfl (ex_move rfl rfl) ?_)
 refine uG (vI 2) rfl (ex_len0 Tryz.underlying126 rfl rfl) (uM rfl ?_)
 refine uW k4 (bB ?_)
 gi_loopw [8] (fun x8 wr => ∃ (i : Nat), x8 = vI i ∧ i ≤ 2 ∧ (0 < i → a = 0) ∧ (1 < i → b = 0) ∧ Inv B H wr) (fun x8 _ => 2 - (intOf x8).toNat)
 case atStart => exact ⟨0, rfl, Nat.zero_le _, fun h => by omega, fun h => by omega, hv⟩
 case round =>
  obtain ⟨i, rfl, hi, ha0, hb0, hv⟩ := hrel
  refine sK fun _ k6 => rL ?_
  by_cases hb7 : (i : Int) < 2
  ·refine uG (.bool true) rfl (ex_lss rfl rfl rfl (qT hb7)) (uW k6 ?_)
   refine sK fun _ k8 => cT rfl (kS ?_)
   refine tK k8 (sK fun _ k9 => ?_)
   refine bB (sK fun _ k10 => ?_)
   obtain ⟨x, hx⟩ : ∃ x : Int, ([a, b] : List Int)[i]? = some x := ⟨_, List.getElem?_eq_getElem (by simp; omega)⟩
   have hxv : ([vI a, vI b] : List Value)[i]? = some (vI x) := by
    rcases (show i = 0 ∨ i = 1 by omega) with h | h <;> subst h <;> simp at hx ⊢ <;> exact hx
   obtain ⟨bb, bo, had, hrd⟩ := row1_reads hr hxv
   subst had
   refine rL (uG (.pointer (some ⟨bb, bo + i, none⟩)) rfl (ex_index rfl rfl rfl (run_idx1 (k := i) Tryz.underlying126 s11es126 (by omega))) ?_)
   refine uL _ rfl (run_load1 s2na3 (hrd _ _ _ (Base.Le.refl _) (fun r9 hr9 => (hRH r9 hr9)) hv 0 _ rfl)) (uA rfl ?_)
   refine uW k10 (sK fun _ k11 => ?_)
   refine rL (uM rfl ?_)
   refine uM rfl ?_
   by_cases hb12 : x ≠ 0
   ·refine uG (.bool true) rfl (ex_neq rfl rfl rfl (qT hb12)) (uW k11 ?_)
    refine cT rfl (sK fun _ k13 => ?_)
    refine rL (uM rfl ?_)
    refine uA rfl (uW k13 ?_)
    refine rR (bZ ?_)
    refine tR (tR ?_)
    refine bZ (tR ?_)
    refine bR rfl rfl (⟨congrArg (fun b => Ending.returned (vI b)) (by unfold orI; rcases (show i = 0 ∨ i = 1 by omega) with h | h <;> subst h <;> simp at hx <;> subst hx <;> (try rw [if_neg (by have := ha0 (by omega); omega)]) <;> (try rw [if_pos (by omega)])), hv⟩)
   refine uG (.bool false) rfl (ex_neq rfl rfl rfl (qF hb12)) (uW k11 ?_)
   refine cF rfl (kS ?_)
   refine bN (tK k9 ?_)
   refine rL (uG (vI ((i + 1 : Nat) : Int)) rfl (ex_add rfl rfl rfl (by rw [i64_in (by omega)]; omega)) ?_)
   refine uM rfl (uZ ?_)
   refine then_normal ?_
   go_roundw
   case rel => exact ⟨i + 1, rfl, by omega, fun _ => by rcases (show i = 0 ∨ i = 1 by omega) with h | h <;> subst h <;> simp at hx <;> omega, fun _ => by rcases (show i = 0 ∨ i = 1 by omega) with h | h <;> subst h <;> simp at hx <;> omega, hv⟩
   case measure => show 2 - (((i + 1 : Nat) : Int)).toNat < 2 - ((i : Int)).toNat; omega
  refine uG (.bool false) rfl (ex_lss rfl rfl rfl (qF hb7)) (uW k6 ?_)
  refine sK fun _ k14 => cF rfl (xE ?_)
  refine tX (tX ?_)
  refine bH (tK k3 ?_)
  refine sK fun _ k15 => rL (uM rfl ?_)
  refine uA rfl (uW k15 ?_)
  refine rR (bR rfl rfl ?_)
  exact ⟨congrArg (fun b => Ending.returned (vI b)) (by unfold orI; rw [if_neg (by have := ha0 (by omega); omega)]; have := hb0 (by omega); omega), hv⟩
theorem s11fa102_0 : FA Tryz.prog 102 0 0 := fun w b o => by kernel_rfl
theorem s11callable217 : Callable Tryz.prog 217 := cb Tryz.func217 (by kernel_rfl)
theorem s11callable218 : Callable Tryz.prog 218 := cb Tryz.func218 (by kernel_rfl)
theorem s11callable216 : Callable Tryz.prog 216 := cb Tryz.func216 (by kernel_rfl)
theorem zsetCompare (B : Base) (H : List Res) (w : World) (x y : Int × List UInt8) (hv : Inv B H w) :
  Calls Tryz.prog 208 #[.agg #[vI x.1, vS x.2], .agg #[vI y.1, vS y.2]] w fun e w' => e = .returned (vI (cmpM x y)) ∧ Inv B H w' := by
 refine cW Tryz.func208 rfl Tryz.ntmps208 ?_
 simp only [al]
 refine sK fun _ k1 => rL (sl_box (L := [vI x.1, vS x.2]) tV (wn rfl) rfl rfl hv (fun w => by kernel_rfl) (fun b2 w3 hv => ?_))
 refine sl_box (L := [vI y.1, vS y.2]) tV (wn rfl) rfl rfl hv (fun w => by kernel_rfl) (fun b4 w5 hv => ?_)
 refine uA rfl (uW k1 ?_)
 refine sK fun _ k6 => rW mixed [4, 9, 10, 11] [0,1,2,3,5,6,7,8,4,9,10,11,12] 17 rfl (by kernel_rfl) hv ?_
 simp only [qm, opAt]
 refine dG (vP b2) rfl (ex_field rfl rfl (s11fa102_0 _ _ _)) (dL _ rfl (fun hv => ex_load rfl rfl (run_load1 s2na3 (hv.load 1 0 rfl rfl))) ?_)
 refine dG (vP b4) rfl (ex_field rfl rfl (s11fa102_0 _ _ _)) ?_
 simp only [zP, po]
 refine dL _ rfl (fun hv => ex_load rfl rfl (run_load1 s2na3 (hv.load 0 0 rfl rfl))) (dG (.pointer (some ⟨b2, 1, none⟩)) rfl (ex_field rfl rfl (s9fa102_1 _ _ _)) ?_)
 refine dF _ rfl (fun hv => ex_load rfl rfl (run_load1 s9na9 (hv.load 1 1 rfl rfl))) fun f7 hf7 => ?_
 simp only [zP, po]
 refine dG (.pointer (some ⟨b4, 1, none⟩)) rfl (ex_field rfl rfl (s9fa102_1 _ _ _)) (dF _ rfl (fun hv => ex_load rfl rfl (run_load1 s9na9 (hv.load 0 1 rfl rfl))) fun f8 hf8 => ?_)
 refine dS rfl fun w9 hv => mC s11callable217 rfl ((cmpInt B _ _ _ _ hv).mono ?_) rfl
 rintro e w10 ⟨rfl, hv⟩
 refine ⟨_, rfl, dV hv (fC (fun ww hv => hf8 ww (ex_load rfl rfl (run_load1 s9na9 (hv.load 0 1 rfl rfl)))) (fC (fun ww hv => hf7 ww (ex_load rfl rfl (run_load1 s9na9 (hv.load 1 1 rfl rfl)))) fN)) ?_⟩
 simp only [zP, po]
 refine dS rfl fun w11 hv => mC s11callable218 rfl ((cmpStr B _ _ _ _ hv).mono ?_) rfl
 rintro e w12 ⟨rfl, hv⟩
 refine ⟨_, rfl, dV hv (fK rfl (fK rfl fN)) ?_⟩
 refine dS rfl fun w13 hv => mem_row2 (v1 := vI (cmpI x.1 y.1)) (v2 := vI (cmpS x.2 y.2)) (e := 3) rfl rfl rfl rfl hv (fun w => by kernel_rfl) (fun b14 w15 hv => ?_)
 refine dV hv (fK rfl (fK rfl fN)) (dS rfl fun w16 hv => ?_)
 refine mC s11callable216 rfl ((cmpOr B _ _ _ (cmpI x.1 y.1) (cmpS x.2 y.2) [_] (fun r hr => by rw [List.mem_singleton.1 hr]; exact List.mem_of_getElem? (i := 0) rfl) rdW_cell hv).mono ?_) rfl
 rintro e w17 ⟨rfl, hv⟩
 refine ⟨_, rfl, dV hv (fK rfl (fK rfl fN)) ?_⟩
 simp only [zP, po]
 refine dA (vI (cmpM x y)) rfl (dE fun w18 hv => ?_)
 simp only [zP, po]
 refine tK k6 (rR ?_)
 refine bR rfl rfl (⟨rfl, (hv.kp [] 0 3)⟩)
def memName (m : Int × List UInt8) : List UInt8 := m.2
def ZsetAt (l : List (Int × List UInt8)) (i : Nat) : Prop := ∀ x, l[i]? = some x → ∀ (j : Nat) y, i = j + 1 → l[j]? = some y → cmpM y x < 0
def ZsetOk (l : List (Int × List UInt8)) : Prop := l.length ≤ 512 ∧ l.any (fun m => decide (m.2.length > 4096)) = false ∧ (∀ i, ZsetAt l i) ∧ (l.map memName).Nodup
theorem s11callable207 : Callable Tryz.prog 207 := cb Tryz.func207 (by kernel_rfl)
theorem s11callable206 : Callable Tryz.prog 206 := cb Tryz.func206 (by kernel_rfl)
theorem s11al102 : AL Tryz.prog 102 [vI 0, vS []] := fun w => by kernel_rfl
theorem s11sz102 : (Tryz.prog.info? 102).map (·.size) = some 2 := by kernel_rfl
theorem s11callable208 : Callable Tryz.prog 208 := cb Tryz.func208 (by kernel_rfl)
theorem zsetRightC (B : Base) (H : List Res) (w : World) (ad : Option Addr) (c : Nat) (l : List (Int × List UInt8)) (hr : RdV B [] ad (memCells l)) (hm : l.length ≤ 1000000) (hv : Inv B H w) :
  Calls Tryz.prog 191 #[.slice ad l.length c] w fun e w' => ∃ b, e = .returned (.bool b) ∧ (b = true ↔ ZsetOk l) ∧ Inv B H w' := by
 refine cW Tryz.func191 rfl Tryz.ntmps191 ?_
 simp only [al]
 refine sK fun _ k1 => rL (uA rfl ?_)
 refine uW k1 (sK fun _ k2 => ?_)
 refine sK fun _ k3 => rL (uM rfl ?_)
 refine uG (vI (l.length : Int)) rfl (ex_len0 Tryz.underlying58 rfl rfl) ?_
 by_cases hb4 : (l.length : Int) > 512
 ·refine uG (.bool true) rfl (ex_gtr rfl rfl rfl (qT hb4)) (uM rfl ?_)
  refine uP rfl ?_
  refine uP rfl (uK rfl ?_)
  refine uW k3 (cT rfl ?_)
  refine sK fun _ k5 => rL (uA rfl ?_)
  refine uW k5 (rR ?_)
  refine tR (bR rfl rfl ?_)
  exact ⟨false, rfl, ⟨fun h => (by cases h), fun h => by have := h.1; omega⟩, hv⟩
 refine uG (.bool false) rfl (ex_gtr rfl rfl rfl (qF hb4)) (uM rfl ?_)
 refine uM rfl ?_
 refine xC s11callable206 rfl ((containsFuncMem B _ _ 207 #[] ad c l (fun m : Int × List UInt8 => decide (m.2.length > 4096)) hr hm s11callable207 (fun x _ w hv => zsetLong B _ w x.1 x.2 hv) hv).mono ?_) rfl
 rintro e w6 ⟨rfl, hv⟩
 refine ⟨_, rfl, uK rfl ?_⟩
 refine uW k3 (wpIn_cond_split (t := l.any (fun m : Int × List UInt8 => decide (m.2.length > 4096))) rfl (fun hc7 => ?_) (fun hc7 => ?_))
 ·refine sK fun _ k8 => rL (uA rfl ?_)
  refine uW k8 (rR ?_)
  refine tR (bR rfl rfl ?_)
  exact ⟨false, rfl, ⟨fun h => (by cases h), fun h => by have := h.2.1; rw [hc7] at this; cases this⟩, hv⟩
 refine kS (tK k2 ?_)
 refine sK fun _ k9 => rL (uM rfl ?_)
 refine uG (vI (l.length : Int)) rfl (ex_len0 Tryz.underlying58 rfl rfl) ?_
 refine sl_makeMap (m := (l.length : Int)) tV (wn rfl) rfl rfl Tryz.underlying277 hv (fun mp10 w11 hv => ?_)
 refine uA rfl (uW k9 ?_)
 refine sK fun _ k12 => sK fun _ k13 => rL (uM rfl ?_)
 refine uG (vI (l.length : Int)) rfl (ex_len0 Tryz.underlying58 rfl rfl) (uM rfl ?_)
 refine uW k13 (bB ?_)
 gi_loopw [18] (fun x18 wr => ∃ (i : Nat), x18 = vI i ∧ i ≤ l.length ∧ (∀ k, k < i → ZsetAt l k) ∧ Inv B (Res.keys mp10 (keysOf ((l.take i).map memName)) (i : Int) :: H) wr) (fun x18 _ => l.length - (intOf x18).toNat)
 case atStart => exact ⟨0, rfl, Nat.zero_le _, fun k h => by omega, hv⟩
 case round =>
  obtain ⟨i, rfl, hi, hall, hv⟩ := hrel
  refine sK fun _ k15 => rL ?_
  by_cases hb16 : (i : Int) < (l.length : Int)
  ·refine uG (.bool true) rfl (ex_lss rfl rfl rfl (qT hb16)) (uW k15 ?_)
   refine sK fun _ k17 => cT rfl (kS ?_)
   refine tK k17 (sK fun _ k18 => ?_)
   refine bB (sK fun _ k19 => ?_)
   obtain ⟨x, hx⟩ : ∃ x, l[i]? = some x := ⟨_, List.getElem?_eq_getElem (show i < l.length by omega)⟩
   obtain ⟨bb, bo, had, hrdx⟩ := mem_reads hr hx
   subst had
   refine rL (uM rfl ?_)
   refine uG (.pointer (some ⟨bb, bo + i * 2, none⟩)) rfl (ex_index rfl rfl rfl (run_idx (k := i) Tryz.underlying58 s9es58 (by omega))) ?_
   refine uL (.agg #[vI x.1, vS x.2]) rfl (run_loadR (cs := [vI x.1, vS x.2]) s9wd102 (Reads.mid (pre := []) (mid := [vI x.1, vS x.2]) (post := []) hrdx _ _ _ (Base.Le.refl _) no_res hv)) ?_
   refine sl_alloc tV (wn rfl) rfl hv s11al102 (fun b20 w21 hv => ?_)
   refine uA rfl ?_
   refine xS 0 rfl hv s11sz102 rfl (by exact ⟨rfl, rfl, trivial⟩) (fun w22 hv => ?_)
   simp only [zO, sp] at hv
   refine uW k19 (sK fun _ k23 => ?_)
   refine sK fun _ k24 => rW mixed [9] [0,1,2,3,4,5,6,7,8,9,10,11] 45 rfl (by kernel_rfl) hv ?_
   simp only [qm, opAt]
   refine dM (vI i) rfl ?_
   by_cases hb25 : (i : Int) > 0
   ·obtain ⟨j, hj⟩ : ∃ j : Nat, i = j + 1 := ⟨i - 1, by omega⟩
    obtain ⟨y, hy⟩ : ∃ x, l[j]? = some x := ⟨_, List.getElem?_eq_getElem (show j < l.length by omega)⟩
    obtain ⟨b9, o9, had9, hrdy⟩ := mem_reads hr hy
    cases had9
    skip
    refine dG (.bool true) rfl (ex_gtr rfl rfl rfl (qT hb25)) (dM (.bool true) rfl ?_)
    simp only [zP, po]
    refine dM (.slice (some ⟨bb, bo, none⟩) l.length c) rfl (dM (vI i) rfl ?_)
    refine dG (vI j) rfl (ex_sub rfl rfl rfl (by rw [i64_in (by omega)]; omega)) ?_
    simp only [zP, po]
    refine dG (.pointer (some ⟨bb, bo + j * 2, none⟩)) rfl (ex_index rfl rfl rfl (run_idx (k := j) Tryz.underlying58 s9es58 (by omega))) (dL (.agg #[vI y.1, vS y.2]) rfl (fun hv => ex_load rfl rfl (run_loadR (cs := [vI y.1, vS y.2]) s9wd102 (Reads.mid (pre := []) (mid := [vI y.1, vS y.2]) (post := []) hrdy _ _ _ (Base.Le.refl _) no_res hv))) ?_)
    refine dL (.agg #[vI x.1, vS x.2]) rfl (fun hv => ex_load rfl rfl (lM 0 s9wd102 hv rfl rfl rfl rfl)) ?_
    simp only [zP, po]
    refine dS rfl fun w26 hv => mC s11callable208 rfl ((zsetCompare B _ _ y x hv).mono ?_) rfl
    rintro e w27 ⟨rfl, hv⟩
    refine ⟨_, rfl, dW hv ?_⟩
    by_cases hb28 : (cmpM y x) ≥ 0
    ·refine dG (.bool true) rfl (ex_geq rfl rfl rfl (qT hb28)) (dK true (.bool true) rfl ?_)
     refine dE fun w29 hv => ?_
     simp only [zP, po]
     refine tK k24 (cT rfl ?_)
     refine sK fun _ k30 => rL (uA rfl ?_)
     refine uW k30 (rR ?_)
     refine tR (bZ ?_)
     refine tR (tR ?_)
     refine bZ (tR ?_)
     refine bR rfl rfl (⟨false, rfl, ⟨fun h => (by cases h), fun h => by have := h.2.2.1 i x hx j y (by omega) hy; omega⟩, (hv.kp [] 0 2)⟩)
    refine dG (.bool false) rfl (ex_geq rfl rfl rfl (qF hb28)) (dK true (.bool false) rfl ?_)
    refine dE fun w31 hv => ?_
    simp only [zP, po]
    refine tK k24 (cF rfl ?_)
    refine kS (tK k23 ?_)
    refine rL (uM rfl ?_)
    refine uF (.pointer (some ⟨b20, 1, none⟩)) rfl (s9fa102_1 _ _ _) ?_
    refine uL _ rfl (run_load1 s9na9 (hv.load 0 1 rfl rfl)) (uM rfl ?_)
    replace hv := hv.front 1 rfl
    simp only [eS, eZ] at hv
    refine sl_updStr (k := x.2) (m' := ((i + 1 : Nat) : Int)) tV (wn rfl) rfl rfl rfl rfl Tryz.underlying277 Tryz.underlying9 hv (by omega) (by omega) (fun w32 hv => ?_)
    refine uZ (bN ?_)
    refine tK k18 (rL ?_)
    refine uG (vI ((i + 1 : Nat) : Int)) rfl (ex_add rfl rfl rfl (by rw [i64_in (by omega)]; omega)) (uM rfl ?_)
    refine uZ (then_normal ?_)
    go_roundw
    case rel => exact ⟨i + 1, rfl, by omega, fun k hk => (by
       rcases Nat.lt_or_ge k i with h | h
       ·exact hall k h
       obtain rfl : k = i := by omega
       intro x' hx'
       rw [hx] at hx'; cases hx'
       intro j' y' hj' hy'
       obtain rfl : j' = j := by omega
       rw [hy] at hy'; cases hy'; omega), by rw [take_next hx, List.map_append, List.map_cons, List.map_nil, keysOf_snoc]; exact (hv.kp [] 1 1)⟩
    case measure => show l.length - (((i + 1 : Nat) : Int)).toNat < l.length - ((i : Int)).toNat; omega
   refine dG (.bool false) rfl (ex_gtr rfl rfl rfl (qF hb25)) (dM (.bool false) rfl ?_)
   simp only [zP, po]
   refine dP rfl (dP rfl ?_)
   refine dP rfl ?_
   simp only [zP, po]
   refine dP rfl (dP rfl ?_)
   refine dP rfl ?_
   simp only [zP, po]
   refine dP rfl (dP rfl ?_)
   refine dK false (.bool false) rfl (dE fun w33 hv => ?_)
   simp only [zP, po]
   refine tK k24 (cF rfl ?_)
   refine kS (tK k23 ?_)
   refine rL (uM rfl ?_)
   refine uF (.pointer (some ⟨b20, 1, none⟩)) rfl (s9fa102_1 _ _ _) ?_
   refine uL _ rfl (run_load1 s9na9 (hv.load 0 1 rfl rfl)) (uM rfl ?_)
   replace hv := hv.front 1 rfl
   simp only [eS, eZ] at hv
   refine sl_updStr (k := x.2) (m' := ((i + 1 : Nat) : Int)) tV (wn rfl) rfl rfl rfl rfl Tryz.underlying277 Tryz.underlying9 hv (by omega) (by omega) (fun w34 hv => ?_)
   refine uZ (bN ?_)
   refine tK k18 (rL ?_)
   refine uG (vI ((i + 1 : Nat) : Int)) rfl (ex_add rfl rfl rfl (by rw [i64_in (by omega)]; omega)) (uM rfl ?_)
   refine uZ (then_normal ?_)
   go_roundw
   case rel => exact ⟨i + 1, rfl, by omega, fun k hk => (by
      rcases Nat.lt_or_ge k i with h | h
      ·exact hall k h
      obtain rfl : k = i := by omega
      intro x' hx'
      rw [hx] at hx'; cases hx'
      intro j' y' hj' hy'
      omega), by rw [take_next hx, List.map_append, List.map_cons, List.map_nil, keysOf_snoc]; exact (hv.kp [] 1 1)⟩
   case measure => show l.length - (((i + 1 : Nat) : Int)).toNat < l.length - ((i : Int)).toNat; omega
  refine uG (.bool false) rfl (ex_lss rfl rfl rfl (qF hb16)) (uW k15 ?_)
  refine sK fun _ k35 => cF rfl (xE ?_)
  refine tX (tX ?_)
  refine bH (tK k12 ?_)
  refine sK fun _ k36 => rL (uM rfl ?_)
  refine uG (vI ((keysOf ((l.take i).map memName)).length : Int)) rfl (ex_lenMap 0 Tryz.underlying277 rfl rfl hv rfl) (uM rfl ?_)
  refine uG (vI (l.length : Int)) rfl (ex_len0 Tryz.underlying58 rfl rfl) ?_
  refine uG (.bool (decide (((keysOf ((l.take i).map memName)).length : Int) = (l.length : Int)))) rfl (ex_eql rfl rfl rfl rfl) (uA rfl ?_)
  refine uW k36 (rR ?_)
  refine bR rfl rfl ?_
  obtain rfl : i = l.length := by omega
  have h9 := keysOf_len (l.map memName)
  rw [List.length_map] at h9
  refine ⟨_, rfl, ?_, (hv.kp [] 0 1)⟩
  rw [List.take_length, decide_eq_true_iff]
  constructor
  ·intro h
   exact ⟨by omega, by simpa using hc7, fun k x hx => hall k (List.getElem?_eq_some_iff.1 hx).1 x hx, h9.2.1 (by omega)⟩
  intro h
  have := h9.2.2 h.2.2.2
  omega
end Go.Proofs.YtmpackidbgfoiaaGreatDoor
