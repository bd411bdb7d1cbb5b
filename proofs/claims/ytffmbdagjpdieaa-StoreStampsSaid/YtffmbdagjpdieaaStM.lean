/- The evaluator once more, its branches as small functions: quicker for the kernel; and that it is the same. -/
import Derived.Test.YtffmbdagjpdieaaStL
import Derived.Test.YtffmbdagjpdieaaStA
import Derived.Test.YtffmbdagjpdieaaRows
import Derived.Deep.LoopGhost
import Derived.Test.YtffmbdagjpdieaaStB
import Derived.Test.YtffmbdagjpdieaaStH
set_option maxRecDepth 100000
namespace Go.Eng
open Go
noncomputable section
def o_move (fr : Fr) (σ : St) (x : Operand) : Res (St × V) := (opnd fr x).bind fun v => .ok (σ, v)
def o_pick (fr : Fr) (σ : St) (c : Operand) (a : Operand) (b : Operand) : Res (St × V) := (opnd fr c).bind fun
  | .b t => (opnd fr (cond t a b)).bind fun v => .ok (σ, v)
  | _ => .no "pick"
def o_alloc (P : Pr) (σ : St) (t : TypeId) : Res (St × V) := (ti P t).bind fun i => (zc i).bind fun z => let (σ, k) := new σ (.cells z t false false); .ok (σ, .p (some (k, 0)))
def o_box (fr : Fr) (σ : St) (t : TypeId) (x : Operand) : Res (St × V) := (opnd fr x).bind fun v => cond (allLeaf (cellsOf v)) (let (σ, k) := new σ (.cells (cellsOf v) t false false); .ok (σ, .p (some (k, 0)))) (.no "box")
def o_build (P : Pr) (fr : Fr) (σ : St) (t : TypeId) (ps : Array (Nat × Operand)) : Res (St × V) := (parts fr ps.toList).bind fun l => (build P t l).bind fun v => .ok (σ, v)
def o_buildSlice (P : Pr) (fr : Fr) (σ : St) (t : TypeId) (n : Nat) (ps : Array (Nat × Operand)) : Res (St × V) := (parts fr ps.toList).bind fun l => buildSlice P σ t n l
def o_load (P : Pr) (fr : Fr) (σ : St) (t : TypeId) (x : Operand) : Res (St × V) := (opnd fr x).bind fun
  | .p (some (k, o)) => loadT P σ t k o
  | .wp r j => (ti P t).bind fun i => cond (Nat.beq i.sz 1 && !i.agg) (match P.win r with
   | some (_, cs) => match cs[j]? with
    | some v => .ok (σ, v)
    | none => .no "load"
   | none => .no "load") (.no "load: size")
  | .gl g j => (ti P t).bind fun i => cond (Nat.beq i.sz 1 && !i.agg) (match P.win (g + 1) with
   | some (_, cs) => match cs[j]? with
    | some v => .ok (σ, v)
    | none => .no "load"
   | none => .no "load of a global") (.no "load: size")
  | _ => .no "load"
def o_store (P : Pr) (fr : Fr) (σ : St) (t : TypeId) (x : Operand) (y : Operand) : Res (St × V) := (opnd fr x).bind fun a => (opnd fr y).bind fun v => match a with
  | .p (some (k, o)) => (ti P t).bind fun i => cond (Nat.beq (cellsOf v).length i.sz) ((storeN σ k o (cellsOf v)).bind fun σ => .ok (σ, und)) (.no "store: size")
  | _ => .no "store"
def o_nilCheck (fr : Fr) (σ : St) (x : Operand) : Res (St × V) := (opnd fr x).bind fun
  | .p (some a) => .ok (σ, .p (some a))
  | .f fn a b => (match fn with | .method _ => .no "nilCheck of a method" | _ => .ok (σ, .f fn a b))
  | .t ty v => .ok (σ, .t ty v)
  | _ => .no "nilCheck"
def o_binOp (P : Pr) (fr : Fr) (σ : St) (op : BinOp) (t : TypeId) (x : Operand) (y : Operand) : Res (St × V) := (opnd fr x).bind fun a => (opnd fr y).bind fun b => binOp P σ op t x y a b
def o_unOp (fr : Fr) (σ : St) (op : UnOp) (x : Operand) : Res (St × V) := (opnd fr x).bind fun a => (unOp op a).bind fun v => .ok (σ, v)
def o_convert (P : Pr) (fr : Fr) (σ : St) (s : TypeId) (d : TypeId) (x : Operand) : Res (St × V) := (opnd fr x).bind fun a => convert P σ s d a
def o_makeInterface (P : Pr) (fr : Fr) (σ : St) (t : TypeId) (x : Operand) : Res (St × V) := (opnd fr x).bind fun v => (ti P t).bind fun i => match i.d with
  | .interface _ => .no "makeInterface"
  | _ => .ok (σ, .t t v)
def o_makeFunc (fr : Fr) (σ : St) (fn : Fn) (a : Array Operand) (b : Array Operand) : Res (St × V) := cond (isYield fn) (.no "makeFunc") ((opnds fr a.toList).bind fun a => (opnds fr b.toList).bind fun b => .ok (σ, .f fn a b))
def o_makeSlice (P : Pr) (fr : Fr) (σ : St) (t : TypeId) (l : Operand) (c : Operand) : Res (St × V) := (opnd fr l).bind fun l => (opnd fr c).bind fun c => makeSlice P σ t l c
def o_slice (P : Pr) (fr : Fr) (σ : St) (t : TypeId) (x : Operand) (l : Option Operand) (h : Option Operand) (m : Option Operand) : Res (St × V) := (opnd fr x).bind fun x => (optO fr l).bind fun l => (optO fr h).bind fun h => (optO fr m).bind fun m => slice P σ t x l h m
def o_fieldAddr (P : Pr) (fr : Fr) (σ : St) (t : TypeId) (x : Operand) (f : Nat) : Res (St × V) := (opnd fr x).bind fun x => (fieldAt P t x f).bind fun v => .ok (σ, v)
def o_field (P : Pr) (fr : Fr) (σ : St) (t : TypeId) (x : Operand) (f : Nat) : Res (St × V) := (opnd fr x).bind fun x => (fieldOf P t x f).bind fun v => .ok (σ, v)
def o_indexAddr (P : Pr) (fr : Fr) (σ : St) (t : TypeId) (x : Operand) (i : Operand) : Res (St × V) := (opnd fr x).bind fun x => (opnd fr i).bind fun i => (indexAt P t x i).bind fun v => .ok (σ, v)
def o_index (P : Pr) (fr : Fr) (σ : St) (t : TypeId) (x : Operand) (i : Operand) : Res (St × V) := (opnd fr x).bind fun x => (opnd fr i).bind fun i => (index P t x i).bind fun v => .ok (σ, v)
def o_lookup (P : Pr) (fr : Fr) (σ : St) (t : TypeId) (x : Operand) (i : Operand) (ok : Bool) : Res (St × V) := (opnd fr x).bind fun x => (opnd fr i).bind fun i => lookup P σ t x i ok
def o_mapUpdate (P : Pr) (fr : Fr) (σ : St) (t : TypeId) (m : Operand) (k : Operand) (v : Operand) : Res (St × V) := (opnd fr m).bind fun m => (opnd fr k).bind fun k => (opnd fr v).bind fun v => (mapUp P σ t m k v).bind fun σ => .ok (σ, und)
def o_extract (fr : Fr) (σ : St) (x : Operand) (i : Nat) : Res (St × V) := (opnd fr x).bind fun
  | .u vs => match vs[i]? with | some v => .ok (σ, v) | none => .no "extract"
  | _ => .no "extract"
def o_range (P : Pr) (fr : Fr) (σ : St) (t : TypeId) (x : Operand) : Res (St × V) := (opnd fr x).bind fun x => (ti P t).bind fun i => match i.d, x with
  | .map _ _, .m none => let (σ, k) := new σ (.miter none 0 [] 0); .ok (σ, .p (some (k, 0)))
  | .map _ _, .m (some r) => match obj σ r with
   | .map _ clock => let (σ, k) := new (rd σ r) (.miter (some r) clock [] clock); .ok (σ, .p (some (k, 0)))
   | _ => .no "range"
  | _, _ => .no "range"
def o_call (P : Pr) (ih : Ih) (fr : Fr) (σ : St) (c : Call) : Res (St × V) := (opnds fr c.args.toList).bind fun args => match c.callee with
  | .builtin b => builtin P σ b c.argTypes.toList args
  | .value f => (opnd fr f).bind fun f => callV P ih σ f args
  | .invoke x name => (opnd fr x).bind fun
   | .t t v => (methodOf P t v name).bind fun (f, x) => callF P ih σ f (x :: args)
   | _ => .no "invoke"
def o_entry (fr : Fr) (σ : St) (x : Operand) : Res (St × V) := (opnd fr x).bind fun
  | .p (some (k, 0)) => match obj σ k with
   | .miter (some r) _ seen stepped => match obj σ r, seen.getLast? with
    | .map es clock, some st => cond (Nat.beq clock stepped) (match es.find? (fun e => Nat.beq e.2.2 st) with
     | some e => .ok (rd (rd σ k) r, .u [e.1, e.2.1])
     | none => .no "entry: gone") (.no "entry: an insertion")
    | _, _ => .no "entry"
   | _ => .no "entry"
  | _ => .no "entry"
def operF (P : Pr) (ih : Ih) (fr : Fr) (σ : St) (o : Op) : Res (St × V) := match o with
 | .move x | .assign x => o_move fr σ x
 | .pick c a b => o_pick fr σ c a b
 | .alloc t => o_alloc P σ t
 | .box t x => o_box fr σ t x
 | .build t ps => o_build P fr σ t ps
 | .buildSlice t n ps => o_buildSlice P fr σ t n ps
 | .load t x => o_load P fr σ t x
 | .store t x y => o_store P fr σ t x y
 | .nilCheck x => o_nilCheck fr σ x
 | .binOp op t x y _ => o_binOp P fr σ op t x y
 | .unOp op _ x => o_unOp fr σ op x
 | .convert s d x => o_convert P fr σ s d x
 | .makeInterface t x => o_makeInterface P fr σ t x
 | .makeFunc fn a b => o_makeFunc fr σ fn a b
 | .makeMap _ none => let (σ, k) := new σ (.map [] 0); .ok (σ, .m (some k))
 | .makeMap t (some x) => (ti P t).bind fun i => match i.d with
  | .map _ _ => (opnd fr x).bind fun
   | .i _ _ => let (σ, k) := new σ (.map [] 0); .ok (σ, .m (some k))
   | _ => .no "makeMap: room"
  | _ => .no "makeMap"
 | .makeSlice t l c => o_makeSlice P fr σ t l c
 | .slice t x l h m => o_slice P fr σ t x l h m
 | .fieldAddr t x f => o_fieldAddr P fr σ t x f
 | .field t x f => o_field P fr σ t x f
 | .indexAddr t x i => o_indexAddr P fr σ t x i
 | .index t x i => o_index P fr σ t x i
 | .lookup t x i ok => o_lookup P fr σ t x i ok
 | .mapUpdate t m k v | .insert t m k v => o_mapUpdate P fr σ t m k v
 | .extract x i => o_extract fr σ x i
 | .range t x => o_range P fr σ t x
 | .next x false => (opnd fr x).bind fun
  | .p (some (k, 0)) => match obj σ k with
   | .miter none _ _ _ => .ok (rd σ k, .u [.b false])
   | .miter (some r) since seen last => match obj σ r with
    | .map es clock => nextV σ k r since seen last es clock
    | _ => .no "next: map"
   | _ => .no "next"
  | _ => .no "next"
 | .call c => o_call P ih fr σ c
 | .defer _ => .no "op defer"
 | .entry x => o_entry fr σ x
 | .sliceToArrayPointer _ _ => .no "op sliceToArrayPointer"
 | .next _ true => .no "op next string"
 | .panic _ => .no "op panic"
 | .ready _ => .no "op ready"
 | .waits _ => .no "op waits"
 | _ => .no "op other"
theorem operF_eq (P : Pr) (ih : Ih) (fr : Fr) (σ : St) (o : Oper) : operF P ih fr σ o.op = oper P ih fr σ o := by
 unfold operF oper
 cases o.op <;> rfl
def deferC : Op → Option Call
 | .defer c => some c
 | _ => none
def goF (P : Pr) (ih : Ih) (rnd : Option Nat) (o : Oper) (k : Fr → St → Res (St × Fr)) (fr : Fr) (σ : St) : Res (St × Fr) := match deferC o.op with
 | some c => match rnd with
  | none => (deferV fr c).bind fun d => ({ fr with ds := d :: fr.ds }.put o.dst und).bind fun fr => k fr σ
  | some _ => .no "defer in a round"
 | none => (operF P ih fr σ o.op).bind fun x => (fr.put o.dst x.2).bind fun fr => k fr x.1
def runOpsF (P : Pr) (ih : Ih) (rnd : Option Nat) (ops : List Oper) (l : List Oper) : Fr → St → Res (St × Fr) := List.rec (motive := fun _ => Fr → St → Res (St × Fr))
 (fun fr σ => .ok (σ, fr))
 (fun o _ k fr σ => Bool.rec ((fr.put o.dst und).bind fun fr => k fr σ) (goF P ih rnd o k fr σ) (wantedV ops fr o)) l
def drF (P : Pr) (ih : Ih) (o : Oper) (ms : List Nat) (fps : List (Nat × Nat)) (k : List Nat → List (Nat × Nat) → Fr → St → Res (St × Fr)) (fr : Fr) (σ : St) : Res (St × Fr) :=
 (operF P ih fr { σ with r := 0, w := 0 } o.op).bind fun x => Bool.rec (.no "drawn: not apart")
  ((fr.put o.dst x.2).bind fun fr => k ms.tail (fps ++ [(x.1.r, x.1.w)]) fr { x.1 with r := Nat.lor σ.r x.1.r, w := Nat.lor σ.w x.1.w }) (apart (ms.headD 0) fps 0 x.1.r x.1.w)
def runDrawnF (P : Pr) (ih : Ih) (ops : List Oper) (l : List Oper) : List Nat → List (Nat × Nat) → Fr → St → Res (St × Fr) := List.rec (motive := fun _ => List Nat → List (Nat × Nat) → Fr → St → Res (St × Fr))
 (fun _ _ fr σ => .ok (σ, fr))
 (fun o _ k ms fps fr σ => Bool.rec ((fr.put o.dst und).bind fun fr => k ms.tail (fps ++ [(0, 0)]) fr σ) (drF P ih o ms fps k fr σ) (wantedV ops fr o)) l
theorem runOpsF_eq (P : Pr) (ih : Ih) (rnd : Option Nat) (ops : List Oper) : ∀ (l : List Oper) (fr : Fr) (σ : St), runOpsF P ih rnd ops l fr σ = runOps P ih rnd ops l fr σ
 | [], _, _ => rfl
 | o :: l, fr, σ => by
  have hk : (fun fr σ => runOpsF P ih rnd ops l fr σ) = fun fr σ => runOps P ih rnd ops l fr σ := funext fun fr => funext fun σ => runOpsF_eq P ih rnd ops l fr σ
  show Bool.rec (motive := fun _ => Res (St × Fr)) ((fr.put o.dst und).bind fun fr => runOpsF P ih rnd ops l fr σ) (goF P ih rnd o (fun fr σ => runOpsF P ih rnd ops l fr σ) fr σ) (wantedV ops fr o) = _
  simp only [runOps]
  cases wantedV ops fr o with
  | false =>
   show (fr.put o.dst und).bind (fun fr => runOpsF P ih rnd ops l fr σ) = (fr.put o.dst und).bind (fun fr => runOps P ih rnd ops l fr σ)
   congr 1
   funext fr
   exact runOpsF_eq P ih rnd ops l fr σ
  | true =>
   show goF P ih rnd o (fun fr σ => runOpsF P ih rnd ops l fr σ) fr σ = _
   rw [hk]
   unfold goF
   rw [operF_eq]
   simp only [cond_true]
   cases o.op <;> rfl
theorem runDrawnF_eq (P : Pr) (ih : Ih) (ops : List Oper) : ∀ (l : List Oper) (ms : List Nat) (fps : List (Nat × Nat)) (fr : Fr) (σ : St), runDrawnF P ih ops l ms fps fr σ = runDrawn P ih ops l ms fps fr σ
 | [], _, _, _, _ => rfl
 | o :: l, ms, fps, fr, σ => by
  have hk : (fun ms fps fr σ => runDrawnF P ih ops l ms fps fr σ) = fun ms fps fr σ => runDrawn P ih ops l ms fps fr σ := funext fun ms => funext fun fps => funext fun fr => funext fun σ => runDrawnF_eq P ih ops l ms fps fr σ
  show Bool.rec (motive := fun _ => Res (St × Fr)) ((fr.put o.dst und).bind fun fr => runDrawnF P ih ops l ms.tail (fps ++ [(0, 0)]) fr σ) (drF P ih o ms fps (fun ms fps fr σ => runDrawnF P ih ops l ms fps fr σ) fr σ) (wantedV ops fr o) = _
  simp only [runDrawn]
  cases wantedV ops fr o with
  | false =>
   show (fr.put o.dst und).bind (fun fr => runDrawnF P ih ops l ms.tail (fps ++ [(0, 0)]) fr σ) = (fr.put o.dst und).bind (fun fr => runDrawn P ih ops l ms.tail (fps ++ [(0, 0)]) fr σ)
   congr 1
   funext fr
   exact runDrawnF_eq P ih ops l _ _ fr σ
  | true =>
   show drF P ih o ms fps (fun ms fps fr σ => runDrawnF P ih ops l ms fps fr σ) fr σ = _
   rw [hk]
   unfold drF
   rw [operF_eq]
   simp only [cond_true]
   congr 1
   funext x
   cases apart (ms.headD 0) fps 0 x.1.r x.1.w <;> rfl
def r_region (P : Pr) (ih : Ih) (rnd : Option Nat) (ops : Array Oper) (d : Bool) (fr : Fr) (σ : St) : Res (St × Fr × Exit) := Bool.rec
 ((runOpsF P ih rnd ops.toList ops.toList fr σ).bind fun x => .ok (x.1, x.2, .normal))
 (Bool.rec (.no "drawn: slots") ((runDrawnF P ih ops.toList ops.toList (Pm.masks ops) [] fr σ).bind fun x => .ok (x.1, x.2, .normal)) (drawOk ops)) d
def r_then (ih : Ih) (rnd : Option Nat) (f : FuncId) (b : Code) (x : St × Fr × Exit) : Res (St × Fr × Exit) := match x.2.2 with
 | .normal => ih.exec rnd f b x.2.1 x.1
 | _ => .ok x
def r_cond (ih : Ih) (rnd : Option Nat) (f : FuncId) (x : Operand) (a b : Code) (fr : Fr) (σ : St) : Res (St × Fr × Exit) := (opnd fr x).bind fun
  | .b t => ih.exec rnd f (cond t a b) fr σ
  | _ => .no "cond"
def r_out (id : Nat) (x : St × Fr × Exit) : Res (St × Fr × Exit) := match x.2.2 with
 | .exit j => .ok (x.1, x.2.1, cond (Nat.beq j id) .normal (.exit j))
 | _ => .ok x
def runF (P : Pr) (ih : Ih) (rnd : Option Nat) (f : FuncId) (c : Code) (fr : Fr) (σ : St) : Res (St × Fr × Exit) := match c with
 | .skip | .label _ => .ok (σ, fr, .normal)
 | .region _ ops d => r_region P ih rnd ops d fr σ
 | .seq a b => (ih.exec rnd f a fr σ).bind (r_then ih rnd f b)
 | .cond x a b => r_cond ih rnd f x a b fr σ
 | .block id a => (ih.exec rnd f a fr σ).bind (r_out id)
 | .loop a => (ih.exec rnd f a fr σ).bind (r_then ih rnd f (.loop a))
 | .exit id => .ok (σ, fr, .exit id)
 | .ret => .ok (σ, fr, .ret)
 | .scope b => ih.scope rnd f b b fr σ
 | .goto l => .ok (σ, fr, .goto l)
 | c => run P ih rnd f c fr σ
theorem runF_eq (P : Pr) (ih : Ih) (rnd : Option Nat) (f : FuncId) (c : Code) (fr : Fr) (σ : St) : runF P ih rnd f c fr σ = run P ih rnd f c fr σ := by
 cases c with
 | region id ops d =>
  show r_region P ih rnd ops d fr σ = _
  simp only [run, r_region, runOpsF_eq, runDrawnF_eq]
  cases d with
  | false => rfl
  | true => cases drawOk ops <;> rfl
 | seq a b =>
  show (ih.exec rnd f a fr σ).bind (r_then ih rnd f b) = _
  simp only [run]
  congr 1
  funext x
  obtain ⟨σ', fr', e⟩ := x
  cases e <;> rfl
 | loop a =>
  show (ih.exec rnd f a fr σ).bind (r_then ih rnd f (.loop a)) = _
  simp only [run]
  congr 1
  funext x
  obtain ⟨σ', fr', e⟩ := x
  cases e <;> rfl
 | block id a =>
  show (ih.exec rnd f a fr σ).bind (r_out id) = _
  simp only [run]
  congr 1
  funext x
  obtain ⟨σ', fr', e⟩ := x
  cases e <;> rfl
 | _ => rfl
def stepF (P : Pr) (ih : Ih) : Ih := ⟨fun f args σ => match P.orc f args σ with
 | some x => .ok x
 | none => runCall P ih f args σ, runF P ih, runScope ih⟩
def evF (P : Pr) (n : Nat) : Ih := Nat.rec ⟨fun _ _ _ => .no "fuel", fun _ _ _ _ _ => .no "fuel", fun _ _ _ _ _ _ => .no "fuel"⟩ (fun _ ih => stepF P ih) n
theorem evF_eq (P : Pr) : ∀ n, evF P n = ev P n
 | 0 => rfl
 | n + 1 => by
  show stepF P (evF P n) = step P (ev P n)
  rw [evF_eq P n]
  unfold stepF step
  congr 1
  funext rnd f c fr σ
  exact runF_eq P _ rnd f c fr σ
end
end Go.Eng
/- Laws of a slice of texts, run by the evaluator: so many texts, each short; or the first long one. -/
namespace Go.Eng
open Go Go.RowKit Go.Pm
def strV (s : List UInt8) : Value := .string ⟨s.toArray⟩
noncomputable section
def freePr (P : Program) : Pr := prOf P (fun _ => (0, 9223372036854775808)) (fun _ => none) (fun _ _ => none)
end
end Go.Eng
/- Contracts as known calls; what is known of numbers. -/
namespace Go.Eng
open Go Go.RowKit Go.Pm
section
variable {P : Program} {α : At} {pr : Pr} {f : FuncId} {args : List V} {v : V} {σ : St}
end
-- facts of unknown numbers, in a list
-- facts of unknown texts: which are equal
end Go.Eng
/- Known calls that make a row. -/
namespace Go.Eng
open Go Go.RowKit Go.Pm
section
variable {P : Program} {α : At} {μ : Mu} {c : Nat → O} {σ σ' : St} {w w' : World} {M : Nat → Prop} {N : Nat} {f : FuncId} {args : List V}
end
end Go.Eng
/- Runs to contracts, in general; an unknown text; known calls in a list. -/
namespace Go.Eng
open Go Go.RowKit Go.Pm
theorem run_calls {P : Program} {pr : Pr} {α : At} (hα : AtOk pr α) (hp : PrOk pr P) (ho : ∀ f args σ σ' v, pr.orc f args σ = some (σ', v) → CallRun P α f args σ σ' v) (hn : ∀ f args σ σ' v, pr.orn f args σ = some (σ', v) → CallN P α f args σ σ' v)
  (hfol : P.follows .rangeFuncRecover = true) (hmix : P.follows .mixedOrders = true) {fuel : Nat} {f : FuncId} {args : List V} {vals : List Value} (h : saysTrue ((evF pr fuel).call f args st0) = true) (hx : concL α (fun _ => none) args = some vals) {W : World}
  (hwin : ∀ j i v, (α.wc j)[i]? = some v → ∃ x, conc α (fun _ => none) v = some x ∧ W.cell? ⟨(α.win j).1, (α.win j).2.1 + i, none⟩ = some x)
  (hfull : ∀ j o, α.blk j = some o → α.wc j ≠ [] → W.heap[(α.win j).1]? = some o := by intro j o h; cases h) :
  Calls P f vals.toArray W fun e W' => e = .returned (.bool true) ∧ Ext W W' := by
 obtain ⟨σ', h⟩ := saysTrue_ok h
 rw [evF_eq] at h
 have hI := (ev_ok hα hp ho hn hfol hmix fuel).call f args st0 σ' _ h
 refine (ev_calls hI hx hwin hfull).mono ?_
 rintro e W' ⟨x, μ', rfl, h1, h2⟩
 simp only [conc, Option.some.injEq] at h1
 subst h1
 exact ⟨rfl, h2⟩
-- one unknown text, no 0
end Go.Eng
/- The store's laws: awake, run by the evaluator. -/
namespace Go.Proofs.Ytffmbdagjpdieaa
open Go.Eng Go.Pm Go.RowKit
theorem stAwake : saysTrue ((evF (freePr Try.prog) 100000).call 6 [] st0) = true := by kernel_rfl
theorem stAwakeCalls (W : World) : Calls Try.prog 6 #[] W fun e W' => e = .returned (.bool true) ∧ Ext W W' :=
 run_calls (α := plainAt) (pr := freePr Try.prog) ⟨fun j => ⟨Nat.zero_le _, Nat.zero_le _⟩, fun j n cs hw => (by cases hw), fun g n cs hw => (by cases hw), fun op a b r h => (by cases h)⟩ (prOk _ _ _ _) (fun _ _ _ _ _ e => (stay_no e).elim) (fun _ _ _ _ _ e => (stay_no e).elim) (by kernel_rfl) (by kernel_rfl) stAwake (vals := []) (by simp [concL]) (fun j i v hv => by simp [plainAt] at hv)
theorem stAwakeInv (B : Base) (H : List Res) (w : World) (hv : Inv B H w) : Calls Try.prog 6 #[] w fun e w' => e = .returned (.bool true) ∧ Inv B H w' :=
 (stAwakeCalls w).mono fun _ _ ⟨h1, h2⟩ => ⟨h1, hv.ext h2⟩
end Go.Proofs.Ytffmbdagjpdieaa
/- StoreStamps: the law's walk. -/
namespace Go.Proofs.Ytffmbdagjpdieaa
open Go.RowKit Go.Pm
theorem refSameE (B : Base) (H : List Res) (w : World) (u v : Val) (p t z p' t' z' : Value) (h : ValRd B u p t z) (huv : u = v) (h' : ValRd B v p' t' z') (hs : ValSm v) (hv : Inv B H w) : Calls Try.prog 12 #[.agg (valCells u p t z).toArray, .agg (valCells v p' t' z').toArray] w fun e w' => e = .returned (.bool true) ∧ Inv B H w' := by
 subst huv
 exact refSameV B H w u p t z p' t' z' h h' (by have := hs.1; omega) (by have := hs.2.1; omega) (by have := hs.2.2; omega) hv
theorem l17acallable6 : Callable Try.prog 6 := ⟨_, Try.func6, by kernel_rfl, by kernel_rfl⟩
theorem l17acallable7 : Callable Try.prog 7 := ⟨_, Try.func7, by kernel_rfl, by kernel_rfl⟩
theorem l17aes22 (w : World) : (sizeOf (Try.prog.elem 22)).run Try.prog w = .ok 1 w := by kernel_rfl
theorem l17ana27 (w : World) : (isAgg 27).run Try.prog w = .ok false w := by kernel_rfl
theorem l17acallable8 : Callable Try.prog 8 := ⟨_, Try.func8, by kernel_rfl, by kernel_rfl⟩
theorem l17acallable9 : Callable Try.prog 9 := ⟨_, Try.func9, by kernel_rfl, by kernel_rfl⟩
theorem l17acallable10 : Callable Try.prog 10 := ⟨_, Try.func10, by kernel_rfl, by kernel_rfl⟩
theorem l17aal40 (w : World) : (Instr.alloc 40 true (.tuple #[])).run Try.prog w = .ok (.pointer (some ⟨w.heap.size, 0, none⟩)) (w.alloc (.cells ([.string ⟨([] : List UInt8).toArray⟩, .int .i64 0, .bool false, .int .i64 0, .int .i64 0, .string ⟨([] : List UInt8).toArray⟩, .slice none 0 0, .slice none 0 0, .slice none 0 0] : List Value).toArray 40)) := by kernel_rfl
theorem l17acallable11 : Callable Try.prog 11 := ⟨_, Try.func11, by kernel_rfl, by kernel_rfl⟩
theorem l17aal38 (w : World) : (Instr.alloc 38 true (.tuple #[])).run Try.prog w = .ok (.pointer (some ⟨w.heap.size, 0, none⟩)) (w.alloc (.cells ([.int .i64 0, .bool false, .int .i64 0, .int .i64 0, .string ⟨([] : List UInt8).toArray⟩, .slice none 0 0, .slice none 0 0, .slice none 0 0] : List Value).toArray 38)) := by kernel_rfl
theorem l17acallable12 : Callable Try.prog 12 := ⟨_, Try.func12, by kernel_rfl, by kernel_rfl⟩
set_option maxHeartbeats 8000000 in
theorem storeStampsMain (B : Base) (H : List Res) (w : World) (ad : Option Addr) (c : Nat) (ll : List (List Wr)) (xs : List Value) (hr : RdV B [] ad xs) (hwss : WssRd B ll xs) (hv : Inv B H w) :
  Calls Try.prog 3 #[.slice ad ll.length c] w fun e w' => e = .returned (.bool true) ∧ Inv B H w' := by
 refine (callsIn_wide (n := 5)).1 ?_
 refine callsIn_of_wp Try.func3 rfl trivial ?_
 simp only [Try.ntmps3, List.size_toArray, List.length_cons, List.length_nil, Nat.reduceAdd, Nat.reduceSub, Array.replicate_succ, Array.replicate_zero, List.push_toArray, List.append_toArray, List.nil_append, List.cons_append]
 refine sK fun K1 hK1 => rL ?_
 refine xA (.bool false) rfl rfl rfl ?_
 refine wL ?_
 simp only [zP, zI, zS, zO]
 refine tN (hK1 _ _ ?_)
 clear hK1 K1
 refine sK fun K2 hK2 => ?_
 refine sK fun K3 hK3 => rL ?_
 refine xC l17acallable6 rfl rfl (l := []) rfl ((stAwakeInv B _ _ hv).mono ?_)
 rintro e w4 ⟨rfl, hv⟩
 refine ⟨_, rfl, ?_⟩
 refine xG (.bool false) rfl rfl (ex_not (b := true) rfl rfl rfl) ?_
 refine xM (.bool false) rfl rfl rfl ?_
 simp only [zP, zI, zS, zO]
 refine xH 2 14 false (.slice ad ll.length c) rfl rfl rfl rfl (ex_move rfl rfl) ?_
 refine xH 2 14 false (.int .i64 (ll.length : Int)) rfl rfl rfl rfl (ex_len0 Try.underlying22 rfl rfl) ?_
 by_cases hb5 : (ll.length : Int) > 20
 ·refine xH 2 14 false (.bool true) rfl rfl rfl rfl (ex_gtr (k := .i64) (m := (ll.length : Int)) (n := 20) rfl rfl rfl (decide_eq_true hb5)) ?_
  simp only [zP, zI, zS, zO]
  refine xK false (.bool true) rfl rfl rfl rfl ?_
  refine wL ?_
  simp only [zP, zI, zS, zO]
  refine tN (hK3 _ _ ?_)
  clear hK3 K3
  refine wpIn_cond_true rfl ?_
  refine sK fun K6 hK6 => rL ?_
  refine xC l17acallable6 rfl rfl (l := []) rfl ((stAwakeInv B _ _ hv).mono ?_)
  rintro e w7 ⟨rfl, hv⟩
  refine ⟨_, rfl, ?_⟩
  refine xA (.bool true) rfl rfl rfl ?_
  refine wL ?_
  simp only [zP, zI, zS, zO]
  refine tN (hK6 _ _ ?_)
  clear hK6 K6
  refine wpIn_ret ?_
  refine then_ret ?_
  clear hK2 K2
  refine bR rfl rfl ?_
  exact ⟨rfl, hv⟩
 refine xH 2 14 false (.bool false) rfl rfl rfl rfl (ex_gtr (k := .i64) (m := (ll.length : Int)) (n := 20) rfl rfl rfl (decide_eq_false hb5)) ?_
 simp only [zP, zI, zS, zO]
 refine xK false (.bool false) rfl rfl rfl rfl ?_
 refine wL ?_
 simp only [zP, zI, zS, zO]
 refine tN (hK3 _ _ ?_)
 clear hK3 K3
 refine wpIn_cond_false rfl ?_
 refine wpIn_skip ?_
 refine tN (hK2 _ _ ?_)
 clear hK2 K2
 refine sK fun K8 hK8 => rL ?_
 refine xC l17acallable7 rfl rfl (l := []) rfl ((storeNew B _ _ hv).mono ?_)
 rintro e w9 ⟨s, p, rfl, hv⟩
 refine ⟨_, rfl, ?_⟩
 refine xA (.pointer (some ⟨s, 0, none⟩)) rfl rfl rfl ?_
 refine wL ?_
 simp only [zP, zI, zS, zO]
 refine tN (hK8 _ _ ?_)
 clear hK8 K8
 refine sK fun K10 hK10 => rL ?_
 refine xA (.int .i64 0) rfl rfl rfl ?_
 refine wL ?_
 simp only [zP, zI, zS, zO]
 refine tN (hK10 _ _ ?_)
 clear hK10 K10
 refine sK fun K11 hK11 => ?_
 refine sK fun K12 hK12 => rL ?_
 refine xA (.int .i64 0) rfl rfl rfl ?_
 refine wL ?_
 simp only [zP, zI, zS, zO]
 refine tN (hK12 _ _ ?_)
 clear hK12 K12
 refine wpIn_block ?_
 gi_loopw [4, 5] (fun x4 x5 wr => ∃ (i n : Nat) (C : Base) (v : Value) (X : List (List Ent)) (bvs : List Value) (M : Model), x4 = .int .i64 (n : Int) ∧ x5 = .int .i64 (i : Int) ∧ B.Le C ∧ i ≤ ll.length ∧ n ≤ i ∧ M.length ≤ 12 * i ∧ IxM C X M ∧ Inv C (Res.cell s [.pointer (some ⟨p, 0, none⟩), .int .i64 (n : Int), .int .i64 0] 60 :: ixS 81 93 92 p v (M.length : Int) X bvs :: H) wr) (fun x4 x5 _ => ll.length - (intOf x5).toNat)
 case atStart => exact ⟨0, 0, B, _, _, _, [], rfl, rfl, Base.Le.refl _, Nat.zero_le _, Nat.le_refl _, Nat.zero_le _, ixm_nil B, hv⟩
 case round =>
  obtain ⟨i, n, C, v, X, bvs, M, rfl, rfl, hBC, hi, hni, hMl, hxm, hv⟩ := hrel
  refine sK fun K14 hK14 => ?_
  refine sK fun K15 hK15 => rL ?_
  refine xM (.int .i64 (i : Int)) rfl rfl rfl ?_
  refine xM (.slice ad ll.length c) rfl rfl rfl ?_
  refine xG (.int .i64 (ll.length : Int)) rfl rfl (ex_len0 Try.underlying22 rfl rfl) ?_
  simp only [zP, zI, zS, zO]
  by_cases hb16 : (i : Int) < (ll.length : Int)
  ·refine xG (.bool true) rfl rfl (ex_lss (k := .i64) (m := (i : Int)) (n := (ll.length : Int)) rfl rfl rfl (decide_eq_true hb16)) ?_
   refine wL ?_
   simp only [zP, zI, zS, zO]
   refine tN (hK15 _ _ ?_)
   clear hK15 K15
   refine wpIn_cond_true rfl ?_
   refine wpIn_skip ?_
   refine tN (hK14 _ _ ?_)
   clear hK14 K14
   refine sK fun K17 hK17 => ?_
   refine wpIn_block ?_
   refine sK fun K18 hK18 => ?_
   refine sK fun K19 hK19 => ?_
   obtain ⟨ws, hws⟩ : ∃ x, ll[i]? = some x := ⟨_, List.getElem?_eq_getElem (show i < ll.length by omega)⟩
   obtain ⟨wa, wc, ys, hxi, hwok9, hwr, hwrs⟩ := hwss i ws hws
   obtain ⟨bb, bo, had, hrd⟩ := row1_reads (hr.rdW []) hxi
   subst had
   refine rL ?_
   refine xM (.slice (some ⟨bb, bo, none⟩) ll.length c) rfl rfl rfl ?_
   refine xM (.int .i64 (i : Int)) rfl rfl rfl ?_
   refine xG (.pointer (some ⟨bb, bo + i, none⟩)) rfl rfl (ex_index rfl rfl rfl (run_idx1 (k := i) Try.underlying22 l17aes22 (by omega))) ?_
   simp only [zP, zI, zS, zO]
   refine xL (.slice wa ws.length wc) rfl rfl rfl (run_load1 l17ana27 (hrd _ _ _ hBC no_res hv 0 _ rfl)) ?_
   refine xC l17acallable8 rfl rfl (l := [.slice wa ws.length wc]) rfl ((lawSmall C _ _ wa wc ws ys (hwr.more hBC (fun _ h => h)) (hwrs.more hBC) hv).mono ?_)
   rintro e w21 ⟨bl20, rfl, hbl20, hv⟩
   refine ⟨_, rfl, ?_⟩
   cases bl20
   ·refine xG (.bool true) rfl rfl (ex_not (b := false) rfl rfl rfl) ?_
    refine wL ?_
    simp only [zP, zI, zS, zO]
    refine tN (hK19 _ _ ?_)
    clear hK19 K19
    refine wpIn_cond_true rfl ?_
    refine sK fun K22 hK22 => rL ?_
    refine xA (.bool true) rfl rfl rfl ?_
    refine wL ?_
    simp only [zP, zI, zS, zO]
    refine tN (hK22 _ _ ?_)
    clear hK22 K22
    refine wpIn_ret ?_
    refine then_ret ?_
    clear hK18 K18
    refine blk_ret ?_
    refine then_ret ?_
    clear hK17 K17
    refine then_ret ?_
    refine blk_ret ?_
    refine then_ret ?_
    clear hK11 K11
    refine bR rfl rfl ?_
    exact ⟨rfl, ((hv.sub (List.Sublist.cons _ (List.Sublist.cons _ (List.Sublist.refl _))))).weak hBC⟩
   refine xG (.bool false) rfl rfl (ex_not (b := true) rfl rfl rfl) ?_
   refine wL ?_
   simp only [zP, zI, zS, zO]
   refine tN (hK19 _ _ ?_)
   clear hK19 K19
   refine wpIn_cond_false rfl ?_
   refine wpIn_skip ?_
   refine tN (hK18 _ _ ?_)
   clear hK18 K18
   refine sK fun K23 hK23 => rL ?_
   refine xM (.pointer (some ⟨s, 0, none⟩)) rfl rfl rfl ?_
   refine xM (.slice (some ⟨bb, bo, none⟩) ll.length c) rfl rfl rfl ?_
   refine xM (.int .i64 (i : Int)) rfl rfl rfl ?_
   simp only [zP, zI, zS, zO]
   refine xG (.pointer (some ⟨bb, bo + i, none⟩)) rfl rfl (ex_index rfl rfl rfl (run_idx1 (k := i) Try.underlying22 l17aes22 (by omega))) ?_
   refine xL (.slice wa ws.length wc) rfl rfl rfl (run_load1 l17ana27 (hrd _ _ _ hBC no_res hv 0 _ rfl)) ?_
   obtain ⟨hl12, hsm⟩ := hbl20 rfl
   have hwat := hwrs.at_ hsm
   refine xC l17acallable9 rfl rfl (l := [.pointer (some ⟨s, 0, none⟩), .slice wa ws.length wc]) rfl ((storeApply C _ _ s p v X bvs M (n : Int) 0 wa wc ys ws (hxm.more (Base.Le.refl _)) (by omega) (hwr.more hBC (fun _ h => h)) (hwat.more hBC) (by omega) (by omega) hv).mono ?_)
   rintro e w24 ⟨D, n2, ec, hD, rfl, hor⟩
   refine ⟨_, rfl, ?_⟩
   rcases hor with ⟨hne, -, rfl, hv⟩ | ⟨rfl, rfl, happ, v', X', bvs', M', hxm2, hset, hv⟩
   ·simp only [zP, zI, zS, zO]
    refine xM (.tuple #[.int .i64 0, .int .i64 ec]) rfl rfl rfl ?_
    refine xG (.int .i64 0) rfl rfl (ex_extract rfl rfl rfl) ?_
    refine xG (.int .i64 ec) rfl rfl (ex_extract rfl rfl rfl) ?_
    simp only [zP, zI, zS, zO]
    refine xA (.int .i64 0) rfl rfl rfl ?_
    refine xA (.int .i64 ec) rfl rfl rfl ?_
    refine wL ?_
    simp only [zP, zI, zS, zO]
    refine tN (hK23 _ _ ?_)
    clear hK23 K23
    refine sK fun K25 hK25 => ?_
    refine sK fun K26 hK26 => rL ?_
    refine xM (.int .i64 ec) rfl rfl rfl ?_
    refine xG (.bool true) rfl rfl (ex_neq (k := .i64) (m := ec) (n := 0) rfl rfl rfl (decide_eq_true hne)) ?_
    refine wL ?_
    simp only [zP, zI, zS, zO]
    refine tN (hK26 _ _ ?_)
    clear hK26 K26
    refine wpIn_cond_true rfl ?_
    refine sK fun K27 hK27 => ?_
    refine sK fun K28 hK28 => rL ?_
    refine xM (.int .i64 0) rfl rfl rfl ?_
    refine xG (.bool false) rfl rfl (ex_neq (k := .i64) (m := 0) (n := 0) rfl rfl rfl (by decide)) ?_
    refine xM (.bool false) rfl rfl rfl ?_
    simp only [zP, zI, zS, zO]
    refine xH 2 46 false (.pointer (some ⟨s, 0, none⟩)) rfl rfl rfl rfl (ex_move rfl rfl) ?_
    refine wpi_callG l17acallable10 tV wideC rfl (wanted_of (j := 2) (d := 46) (b := false) rfl rfl rfl) rfl (args := #[.pointer (some ⟨s, 0, none⟩)]) (by simp only [yA, yB, yC]; rfl) ((storeLast D _ _ s p (n : Int) 0 hv).mono ?_)
    rintro e w29 ⟨rfl, hv⟩
    refine ⟨_, rfl, ?_⟩
    refine xH 2 46 false (.int .i64 (n : Int)) rfl rfl rfl rfl (ex_move rfl rfl) ?_
    simp only [zP, zI, zS, zO]
    refine xH 2 46 false (.bool false) rfl rfl rfl rfl (ex_neq (k := .i64) (m := (n : Int)) (n := (n : Int)) rfl rfl rfl (decide_eq_false (fun h => h rfl))) ?_
    refine xK false (.bool false) rfl rfl rfl rfl ?_
    refine wL ?_
    simp only [zP, zI, zS, zO]
    refine tN (hK28 _ _ ?_)
    clear hK28 K28
    refine wpIn_cond_false rfl ?_
    refine wpIn_skip ?_
    refine tN (hK27 _ _ ?_)
    clear hK27 K27
    refine wpIn_exit ?_
    refine then_exit ?_
    clear hK25 K25
    refine blk_hit ?_
    refine tN (hK17 _ _ ?_)
    clear hK17 K17
    refine rL ?_
    refine xM (.int .i64 (i : Int)) rfl rfl rfl ?_
    refine xG (.int .i64 ((i + 1 : Nat) : Int)) rfl rfl (ex_add (m := (i : Int)) (n := 1) rfl rfl rfl (by rw [i64_in (by omega)]; omega)) ?_
    refine xA (.int .i64 ((i + 1 : Nat) : Int)) rfl rfl rfl ?_
    refine wL ?_
    simp only [zP, zI, zS, zO]
    refine then_normal ?_
    go_roundw
    case rel => exact ⟨i + 1, n, _, _, _, _, M, rfl, rfl, (hBC.trans hD), by omega, by omega, by omega, hxm.more hD, ((hv.front 1 rfl).front 1 rfl)⟩
    case measure => show ll.length - (((i + 1 : Nat) : Int)).toNat < ll.length - ((i : Int)).toNat; omega
   have hm2 := hset.len
   simp only [zP, zI, zS, zO]
   refine xM (.tuple #[.int .i64 ((n : Int) + 1), .int .i64 0]) rfl rfl rfl ?_
   refine xG (.int .i64 ((n : Int) + 1)) rfl rfl (ex_extract rfl rfl rfl) ?_
   refine xG (.int .i64 0) rfl rfl (ex_extract rfl rfl rfl) ?_
   simp only [zP, zI, zS, zO]
   refine xA (.int .i64 ((n : Int) + 1)) rfl rfl rfl ?_
   refine xA (.int .i64 0) rfl rfl rfl ?_
   refine wL ?_
   simp only [zP, zI, zS, zO]
   refine tN (hK23 _ _ ?_)
   clear hK23 K23
   refine sK fun K30 hK30 => ?_
   refine sK fun K31 hK31 => rL ?_
   refine xM (.int .i64 0) rfl rfl rfl ?_
   refine xG (.bool false) rfl rfl (ex_neq (k := .i64) (m := 0) (n := 0) rfl rfl rfl (by decide)) ?_
   refine wL ?_
   simp only [zP, zI, zS, zO]
   refine tN (hK31 _ _ ?_)
   clear hK31 K31
   refine wpIn_cond_false rfl ?_
   refine wpIn_skip ?_
   refine tN (hK30 _ _ ?_)
   clear hK30 K30
   refine sK fun K32 hK32 => rL ?_
   refine xM (.int .i64 (n : Int)) rfl rfl rfl ?_
   refine xG (.int .i64 ((n : Int) + 1)) rfl rfl (ex_add (m := (n : Int)) (n := 1) rfl rfl rfl (i64_in (by omega))) ?_
   refine xA (.int .i64 ((n : Int) + 1)) rfl rfl rfl ?_
   refine wL ?_
   simp only [zP, zI, zS, zO]
   refine tN (hK32 _ _ ?_)
   clear hK32 K32
   refine sK fun K33 hK33 => ?_
   refine sK fun K34 hK34 => rL ?_
   refine xM (.int .i64 ((n : Int) + 1)) rfl rfl rfl ?_
   refine xM (.int .i64 ((n : Int) + 1)) rfl rfl rfl ?_
   refine xG (.bool false) rfl rfl (ex_neq (k := .i64) (m := ((n : Int) + 1)) (n := ((n : Int) + 1)) rfl rfl rfl (decide_eq_false (fun h => h rfl))) ?_
   simp only [zP, zI, zS, zO]
   refine xM (.bool false) rfl rfl rfl ?_
   refine xH 3 57 false (.pointer (some ⟨s, 0, none⟩)) rfl rfl rfl rfl (ex_move rfl rfl) ?_
   refine wpi_callG l17acallable10 tV wideC rfl (wanted_of (j := 3) (d := 57) (b := false) rfl rfl rfl) rfl (args := #[.pointer (some ⟨s, 0, none⟩)]) (by simp only [yA, yB, yC]; rfl) ((storeLast D _ _ s p ((n : Int) + 1) 0 hv).mono ?_)
   rintro e w35 ⟨rfl, hv⟩
   refine ⟨_, rfl, ?_⟩
   simp only [zP, zI, zS, zO]
   refine xH 3 57 false (.int .i64 ((n : Int) + 1)) rfl rfl rfl rfl (ex_move rfl rfl) ?_
   refine xH 3 57 false (.bool false) rfl rfl rfl rfl (ex_neq (k := .i64) (m := ((n : Int) + 1)) (n := ((n : Int) + 1)) rfl rfl rfl (decide_eq_false (fun h => h rfl))) ?_
   refine xK false (.bool false) rfl rfl rfl rfl ?_
   refine wL ?_
   simp only [zP, zI, zS, zO]
   refine tN (hK34 _ _ ?_)
   clear hK34 K34
   refine wpIn_cond_false rfl ?_
   refine wpIn_skip ?_
   refine tN (hK33 _ _ ?_)
   clear hK33 K33
   refine sK fun K36 hK36 => rL ?_
   refine xA (.int .i64 0) rfl rfl rfl ?_
   refine wL ?_
   simp only [zP, zI, zS, zO]
   refine tN (hK36 _ _ ?_)
   clear hK36 K36
   refine wpIn_block ?_
   gi_loopw [8] (fun x8 wr => ∃ (k : Nat) (E : Base), x8 = .int .i64 (k : Int) ∧ D.Le E ∧ k ≤ ws.length ∧ Inv E (Res.cell s [.pointer (some ⟨p, 0, none⟩), .int .i64 ((n : Int) + 1), .int .i64 0] 60 :: ixS 81 93 92 p v' (M'.length : Int) X' bvs' :: H) wr) (fun x8 _ => ws.length - (intOf x8).toNat)
   case atStart => exact ⟨0, D, rfl, Base.Le.refl _, Nat.zero_le _, ((hv.front 1 rfl).front 1 rfl)⟩
   case round =>
    obtain ⟨k, E, rfl, hDE, hk, hv⟩ := hrel
    refine sK fun K38 hK38 => ?_
    refine sK fun K39 hK39 => rL ?_
    refine xM (.int .i64 (k : Int)) rfl rfl rfl ?_
    refine xM (.slice (some ⟨bb, bo, none⟩) ll.length c) rfl rfl rfl ?_
    refine xM (.int .i64 (i : Int)) rfl rfl rfl ?_
    simp only [zP, zI, zS, zO]
    refine xG (.pointer (some ⟨bb, bo + i, none⟩)) rfl rfl (ex_index rfl rfl rfl (run_idx1 (k := i) Try.underlying22 l17aes22 (by omega))) ?_
    refine xL (.slice wa ws.length wc) rfl rfl rfl (run_load1 l17ana27 (hrd _ _ _ ((hBC.trans hD).trans hDE) no_res hv 0 _ rfl)) ?_
    refine xG (.int .i64 (ws.length : Int)) rfl rfl (ex_len0 Try.underlying27 rfl rfl) ?_
    simp only [zP, zI, zS, zO]
    by_cases hb40 : (k : Int) < (ws.length : Int)
    ·refine xG (.bool true) rfl rfl (ex_lss (k := .i64) (m := (k : Int)) (n := (ws.length : Int)) rfl rfl rfl (decide_eq_true hb40)) ?_
     refine wL ?_
     simp only [zP, zI, zS, zO]
     refine tN (hK39 _ _ ?_)
     clear hK39 K39
     refine wpIn_cond_true rfl ?_
     refine wpIn_skip ?_
     refine tN (hK38 _ _ ?_)
     clear hK38 K38
     refine sK fun K41 hK41 => ?_
     refine wpIn_block ?_
     refine sK fun K42 hK42 => ?_
     obtain ⟨x, hx⟩ : ∃ x, ws[k]? = some x := ⟨_, List.getElem?_eq_getElem (show k < ws.length by omega)⟩
     obtain ⟨b3, o3, xp, xt, xz, had, hvalx, hrdx⟩ := WrsAt.reads hwat hwr hx
     subst had
     refine rL ?_
     refine xM (.slice (some ⟨bb, bo, none⟩) ll.length c) rfl rfl rfl ?_
     refine xM (.int .i64 (i : Int)) rfl rfl rfl ?_
     refine xG (.pointer (some ⟨bb, bo + i, none⟩)) rfl rfl (ex_index rfl rfl rfl (run_idx1 (k := i) Try.underlying22 l17aes22 (by omega))) ?_
     simp only [zP, zI, zS, zO]
     refine xL (.slice (some ⟨b3, o3, none⟩) ws.length wc) rfl rfl rfl (run_load1 l17ana27 (hrd _ _ _ ((hBC.trans hD).trans hDE) no_res hv 0 _ rfl)) ?_
     refine xM (.int .i64 (k : Int)) rfl rfl rfl ?_
     refine xG (.pointer (some ⟨b3, o3 + k * 9, none⟩)) rfl rfl (ex_index rfl rfl rfl (run_idx (k := k) Try.underlying27 s8es27 (by omega))) ?_
     simp only [zP, zI, zS, zO]
     refine xL (.agg #[.string ⟨x.key.toArray⟩, .int .i64 x.ver.stamp, .bool x.ver.gone, .int .i64 x.ver.expire, .int .i64 x.ver.val.kind, .string ⟨x.ver.val.text.toArray⟩, xp, xt, xz]) rfl rfl rfl (run_loadR (cs := [.string ⟨x.key.toArray⟩, .int .i64 x.ver.stamp, .bool x.ver.gone, .int .i64 x.ver.expire, .int .i64 x.ver.val.kind, .string ⟨x.ver.val.text.toArray⟩, xp, xt, xz]) s8wd40 (Reads.mid (pre := []) (mid := [.string ⟨x.key.toArray⟩, .int .i64 x.ver.stamp, .bool x.ver.gone, .int .i64 x.ver.expire, .int .i64 x.ver.val.kind, .string ⟨x.ver.val.text.toArray⟩, xp, xt, xz]) (post := []) hrdx _ _ _ ((hBC.trans hD).trans hDE) no_res hv)) ?_
     refine sl_alloc tV (wn rfl) rfl hv l17aal40 (fun b43 w44 hv => ?_)
     refine sl_storeNAt 0 (new := [.string ⟨x.key.toArray⟩, .int .i64 x.ver.stamp, .bool x.ver.gone, .int .i64 x.ver.expire, .int .i64 x.ver.val.kind, .string ⟨x.ver.val.text.toArray⟩, xp, xt, xz]) (pre := []) (mid := [.string ⟨([] : List UInt8).toArray⟩, .int .i64 0, .bool false, .int .i64 0, .int .i64 0, .string ⟨([] : List UInt8).toArray⟩, .slice none 0 0, .slice none 0 0, .slice none 0 0]) (post := []) (L' := [.string ⟨x.key.toArray⟩, .int .i64 x.ver.stamp, .bool x.ver.gone, .int .i64 x.ver.expire, .int .i64 x.ver.val.kind, .string ⟨x.ver.val.text.toArray⟩, xp, xt, xz]) tV (wn rfl) rfl rfl rfl hv rfl s8sz40 rfl rfl rfl (one_cons rfl (one_cons rfl (one_cons rfl (one_cons rfl (one_cons rfl (one_cons rfl (one_cons hvalx.p.one (one_cons hvalx.t.one (one_cons hvalx.z.one one_nil))))))))) rfl (fun w45 hv => ?_)
     simp only [List.set_cons_zero] at hv
     refine wL ?_
     simp only [zP, zN, zI, zS, zO]
     refine tN (hK42 _ _ ?_)
     clear hK42 K42
     refine sK fun K46 hK46 => rL ?_
     refine xM (.pointer (some ⟨s, 0, none⟩)) rfl rfl rfl ?_
     refine xF (.pointer (some ⟨b43, 0, none⟩)) rfl rfl rfl (s8fa40_0 _ _ _) ?_
     refine xL (.string ⟨x.key.toArray⟩) rfl rfl rfl (run_load1 s3na9 (hv.load 0 0 rfl rfl)) ?_
     simp only [zP, zI, zS, zO]
     refine xM (.int .i64 ((n : Int) + 1)) rfl rfl rfl ?_
     replace hv := hv.front 2 rfl
     simp only [List.eraseIdx_cons_succ, List.eraseIdx_cons_zero] at hv
     replace hv := hv.front 2 rfl
     simp only [List.eraseIdx_cons_succ, List.eraseIdx_cons_zero] at hv
     refine xC l17acallable11 rfl rfl (l := [.pointer (some ⟨s, 0, none⟩), .string ⟨x.key.toArray⟩, .int .i64 ((n : Int) + 1), .int .i64 0]) rfl ((storeRead E _ _ s p v' X' bvs' M' ((n : Int) + 1) 0 _ _ x.key (hxm2.more hDE) hv).mono ?_)
     rintro e w47 ⟨F, y, p3, t3, z3, ok, hF, rfl, hrd9, hvy, hv⟩
     refine ⟨_, rfl, ?_⟩
     have hck := (happ.ch x (List.mem_of_getElem? hx)).1
     rw [hset.got k x (by omega) hx] at hrd9
     rcases read_last hck (Int.le_refl _) hrd9 with ⟨hg, rfl⟩ | ⟨hg, rfl, hy⟩
     ·refine xM (.tuple #[.agg #[.int .i64 y.stamp, .bool y.gone, .int .i64 y.expire, .int .i64 y.val.kind, .string ⟨y.val.text.toArray⟩, p3, t3, z3], .bool false]) rfl rfl rfl ?_
      simp only [zP, zI, zS, zO]
      refine xG (.agg #[.int .i64 y.stamp, .bool y.gone, .int .i64 y.expire, .int .i64 y.val.kind, .string ⟨y.val.text.toArray⟩, p3, t3, z3]) rfl rfl (ex_extract rfl rfl rfl) ?_
      refine xG (.bool false) rfl rfl (ex_extract rfl rfl rfl) ?_
      refine sl_alloc tV (wn rfl) rfl hv l17aal38 (fun b48 w49 hv => ?_)
      simp only [zP, zI, zS, zO]
      refine sl_storeNAt 0 (new := [.int .i64 y.stamp, .bool y.gone, .int .i64 y.expire, .int .i64 y.val.kind, .string ⟨y.val.text.toArray⟩, p3, t3, z3]) (pre := []) (mid := [.int .i64 0, .bool false, .int .i64 0, .int .i64 0, .string ⟨([] : List UInt8).toArray⟩, .slice none 0 0, .slice none 0 0, .slice none 0 0]) (post := []) (L' := [.int .i64 y.stamp, .bool y.gone, .int .i64 y.expire, .int .i64 y.val.kind, .string ⟨y.val.text.toArray⟩, p3, t3, z3]) tV (wn rfl) rfl rfl rfl hv rfl s1sz38 rfl rfl rfl (one_cons rfl (one_cons rfl (one_cons rfl (one_cons rfl (one_cons rfl (one_cons hvy.p.one (one_cons hvy.t.one (one_cons hvy.z.one one_nil)))))))) rfl (fun w50 hv => ?_)
      simp only [List.set_cons_zero] at hv
      refine xA (.bool false) rfl rfl rfl ?_
      refine wL ?_
      simp only [zP, zN, zI, zS, zO]
      refine tN (hK46 _ _ ?_)
      clear hK46 K46
      refine sK fun K51 hK51 => rL ?_
      refine xM (.bool false) rfl rfl rfl ?_
      refine xF (.pointer (some ⟨b43, 1, none⟩)) rfl rfl rfl (s14fa40_1 _ _ _) ?_
      refine xF (.pointer (some ⟨b43, 2, none⟩)) rfl rfl rfl (s2fa38_1 _ _ _) ?_
      simp only [zP, zI, zS, zO]
      refine xL (.bool x.ver.gone) rfl rfl rfl (run_load1 s2na4 (hv.load 3 2 rfl rfl)) ?_
      refine xG (.bool (!x.ver.gone)) rfl rfl (ex_not (b := x.ver.gone) rfl rfl rfl) ?_
      have hg' : x.ver.gone = true := hg
      refine xG (.bool false) rfl rfl (ex_bneq (p := false) (q := (!x.ver.gone)) Try.underlying4 rfl rfl rfl (by rw [hg']; rfl)) ?_
      simp only [zP, zI, zS, zO]
      refine xM (.bool false) rfl rfl rfl ?_
      refine xH 6 93 false (.bool false) rfl rfl rfl rfl (ex_move rfl rfl) ?_
      refine xH 6 93 false (.bool false) rfl rfl rfl rfl (ex_move rfl rfl) ?_
      simp only [zP, zI, zS, zO]
      refine xT 8 95 true false rfl rfl rfl rfl rfl rfl rfl (by decide) ?_
      simp only [zP, zI, zS, zO]
      refine xN 8 95 true false rfl rfl rfl (by decide) ?_
      refine xN 8 95 true false rfl rfl rfl (by decide) ?_
      refine xU 13 100 rfl rfl rfl ?_
      simp only [zP, zI, zS, zO]
      refine xU 13 100 rfl rfl rfl ?_
      refine xU 13 100 rfl rfl rfl ?_
      refine xU 13 100 rfl rfl rfl ?_
      simp only [zP, zI, zS, zO]
      refine xU 13 100 rfl rfl rfl ?_
      refine xU 13 100 rfl rfl rfl ?_
      refine xU 13 100 rfl rfl rfl ?_
      simp only [zP, zI, zS, zO]
      refine xN 8 95 true false rfl rfl rfl (by decide) ?_
      refine xN 8 95 true false rfl rfl rfl (by decide) ?_
      refine xU 22 109 rfl rfl rfl ?_
      simp only [zP, zI, zS, zO]
      refine xU 22 109 rfl rfl rfl ?_
      refine xU 22 109 rfl rfl rfl ?_
      refine xU 22 109 rfl rfl rfl ?_
      simp only [zP, zI, zS, zO]
      refine xU 22 109 rfl rfl rfl ?_
      refine xU 22 109 rfl rfl rfl ?_
      refine xN 8 95 true false rfl rfl rfl (by decide) ?_
      simp only [zP, zI, zS, zO]
      refine xH 6 93 false (.bool false) rfl rfl rfl rfl (ex_pick (b := false) rfl rfl rfl) ?_
      refine xK false (.bool false) rfl rfl rfl rfl ?_
      refine wL ?_
      simp only [zP, zI, zS, zO]
      refine tN (hK51 _ _ ?_)
      clear hK51 K51
      refine wpIn_cond_false rfl ?_
      refine wpIn_skip ?_
      refine blk_normal ?_
      refine tN (hK41 _ _ ?_)
      clear hK41 K41
      refine rL ?_
      refine xM (.int .i64 (k : Int)) rfl rfl rfl ?_
      refine xG (.int .i64 ((k + 1 : Nat) : Int)) rfl rfl (ex_add (m := (k : Int)) (n := 1) rfl rfl rfl (by rw [i64_in (by omega)]; omega)) ?_
      refine xA (.int .i64 ((k + 1 : Nat) : Int)) rfl rfl rfl ?_
      refine wL ?_
      simp only [zP, zI, zS, zO]
      refine then_normal ?_
      go_roundw
      case rel => exact ⟨k + 1, _, rfl, (hDE.trans hF), by omega, (((hv.front 2 rfl).front 2 rfl).sub (List.Sublist.cons_cons _ (List.Sublist.cons_cons _ (List.Sublist.cons _ (List.Sublist.cons _ (List.Sublist.refl _))))))⟩
      case measure => show ws.length - (((k + 1 : Nat) : Int)).toNat < ws.length - ((k : Int)).toNat; omega
     refine xM (.tuple #[.agg #[.int .i64 y.stamp, .bool y.gone, .int .i64 y.expire, .int .i64 y.val.kind, .string ⟨y.val.text.toArray⟩, p3, t3, z3], .bool true]) rfl rfl rfl ?_
     simp only [zP, zI, zS, zO]
     refine xG (.agg #[.int .i64 y.stamp, .bool y.gone, .int .i64 y.expire, .int .i64 y.val.kind, .string ⟨y.val.text.toArray⟩, p3, t3, z3]) rfl rfl (ex_extract rfl rfl rfl) ?_
     refine xG (.bool true) rfl rfl (ex_extract rfl rfl rfl) ?_
     refine sl_alloc tV (wn rfl) rfl hv l17aal38 (fun b52 w53 hv => ?_)
     simp only [zP, zI, zS, zO]
     refine sl_storeNAt 0 (new := [.int .i64 y.stamp, .bool y.gone, .int .i64 y.expire, .int .i64 y.val.kind, .string ⟨y.val.text.toArray⟩, p3, t3, z3]) (pre := []) (mid := [.int .i64 0, .bool false, .int .i64 0, .int .i64 0, .string ⟨([] : List UInt8).toArray⟩, .slice none 0 0, .slice none 0 0, .slice none 0 0]) (post := []) (L' := [.int .i64 y.stamp, .bool y.gone, .int .i64 y.expire, .int .i64 y.val.kind, .string ⟨y.val.text.toArray⟩, p3, t3, z3]) tV (wn rfl) rfl rfl rfl hv rfl s1sz38 rfl rfl rfl (one_cons rfl (one_cons rfl (one_cons rfl (one_cons rfl (one_cons rfl (one_cons hvy.p.one (one_cons hvy.t.one (one_cons hvy.z.one one_nil)))))))) rfl (fun w54 hv => ?_)
     simp only [List.set_cons_zero] at hv
     refine xA (.bool true) rfl rfl rfl ?_
     refine wL ?_
     simp only [zP, zN, zI, zS, zO]
     refine tN (hK46 _ _ ?_)
     clear hK46 K46
     refine sK fun K55 hK55 => rL ?_
     refine xM (.bool true) rfl rfl rfl ?_
     refine xF (.pointer (some ⟨b43, 1, none⟩)) rfl rfl rfl (s14fa40_1 _ _ _) ?_
     refine xF (.pointer (some ⟨b43, 2, none⟩)) rfl rfl rfl (s2fa38_1 _ _ _) ?_
     simp only [zP, zI, zS, zO]
     refine xL (.bool x.ver.gone) rfl rfl rfl (run_load1 s2na4 (hv.load 3 2 rfl rfl)) ?_
     refine xG (.bool (!x.ver.gone)) rfl rfl (ex_not (b := x.ver.gone) rfl rfl rfl) ?_
     have hg' : x.ver.gone = false := hg
     refine xG (.bool false) rfl rfl (ex_bneq (p := true) (q := (!x.ver.gone)) Try.underlying4 rfl rfl rfl (by rw [hg']; rfl)) ?_
     simp only [zP, zI, zS, zO]
     refine xM (.bool false) rfl rfl rfl ?_
     refine xH 6 93 false (.bool true) rfl rfl rfl rfl (ex_move rfl rfl) ?_
     refine xH 6 93 false (.bool true) rfl rfl rfl rfl (ex_move rfl rfl) ?_
     simp only [zP, zI, zS, zO]
     refine xH 8 95 true (.pointer (some ⟨b52, 0, none⟩)) rfl rfl rfl rfl (ex_field rfl rfl (s2fa38_0 _ _ _)) ?_
     refine xH 8 95 true (.int .i64 y.stamp) rfl rfl rfl rfl (ex_load rfl rfl (run_load1 s2na3 (hv.load 0 0 rfl rfl))) ?_
     refine xH 8 95 true (.int .i64 ((n : Int) + 1)) rfl rfl rfl rfl (ex_move rfl rfl) ?_
     simp only [zP, zI, zS, zO]
     refine xH 8 95 true (.bool false) rfl rfl rfl rfl (ex_neq (k := .i64) (m := y.stamp) (n := ((n : Int) + 1)) rfl rfl rfl (decide_eq_false (by rw [hy]; simp))) ?_
     refine xH 8 95 true (.bool false) rfl rfl rfl rfl (ex_move rfl rfl) ?_
     refine xH 13 100 false (.pointer (some ⟨b52, 3, none⟩)) rfl rfl rfl rfl (ex_field rfl rfl (s1fa38_3 _ _ _)) ?_
     simp only [zP, zI, zS, zO]
     refine xH 13 100 false (.agg #[.int .i64 y.val.kind, .string ⟨y.val.text.toArray⟩, p3, t3, z3]) rfl rfl rfl rfl (ex_load rfl rfl (run_load_mid (pre := [.int .i64 y.stamp, .bool y.gone, .int .i64 y.expire]) (mid := [.int .i64 y.val.kind, .string ⟨y.val.text.toArray⟩, p3, t3, z3]) (post := []) s1wd36 (show Blk _ b52 ([.int .i64 y.stamp, .bool y.gone, .int .i64 y.expire] ++ [.int .i64 y.val.kind, .string ⟨y.val.text.toArray⟩, p3, t3, z3] ++ []) _ from hv.get 0 rfl) rfl)) ?_
     refine xH 13 100 false (.pointer (some ⟨b43, 1, none⟩)) rfl rfl rfl rfl (ex_field rfl rfl (s14fa40_1 _ _ _)) ?_
     refine xH 13 100 false (.pointer (some ⟨b43, 4, none⟩)) rfl rfl rfl rfl (ex_field rfl rfl (s1fa38_3 _ _ _)) ?_
     simp only [zP, zI, zS, zO]
     refine xH 13 100 false (.agg #[.int .i64 x.ver.val.kind, .string ⟨x.ver.val.text.toArray⟩, xp, xt, xz]) rfl rfl rfl rfl (ex_load rfl rfl (run_load_mid (pre := [.string ⟨x.key.toArray⟩, .int .i64 x.ver.stamp, .bool x.ver.gone, .int .i64 x.ver.expire]) (mid := [.int .i64 x.ver.val.kind, .string ⟨x.ver.val.text.toArray⟩, xp, xt, xz]) (post := []) s1wd36 (show Blk _ b43 ([.string ⟨x.key.toArray⟩, .int .i64 x.ver.stamp, .bool x.ver.gone, .int .i64 x.ver.expire] ++ [.int .i64 x.ver.val.kind, .string ⟨x.ver.val.text.toArray⟩, xp, xt, xz] ++ []) _ from hv.get 3 rfl) rfl)) ?_
     refine wpi_callG l17acallable12 tV wideC rfl (wanted_of (j := 13) (d := 100) (b := false) rfl rfl rfl) rfl (args := #[.agg #[.int .i64 y.val.kind, .string ⟨y.val.text.toArray⟩, p3, t3, z3], .agg #[.int .i64 x.ver.val.kind, .string ⟨x.ver.val.text.toArray⟩, xp, xt, xz]]) (by simp only [yA, yB, yC]; rfl) ((refSameE F _ _ y.val x.ver.val _ _ _ _ _ _ hvy.rd (by rw [hy]) ((hvalx.more (((hBC.trans hD).trans hDE).trans hF)).rd) (hsm x (List.mem_of_getElem? hx)) hv).mono ?_)
     rintro e w56 ⟨rfl, hv⟩
     refine ⟨_, rfl, ?_⟩
     refine xH 13 100 false (.bool false) rfl rfl rfl rfl (ex_not (b := true) rfl rfl rfl) ?_
     simp only [zP, zI, zS, zO]
     refine xH 8 95 true (.bool false) rfl rfl rfl rfl (ex_pick (b := false) rfl rfl rfl) ?_
     refine xH 8 95 true (.bool false) rfl rfl rfl rfl (ex_move rfl rfl) ?_
     refine xH 22 109 false (.pointer (some ⟨b52, 2, none⟩)) rfl rfl rfl rfl (ex_field rfl rfl (s2fa38_2 _ _ _)) ?_
     simp only [zP, zI, zS, zO]
     refine xH 22 109 false (.int .i64 y.expire) rfl rfl rfl rfl (ex_load rfl rfl (run_load1 s2na3 (hv.load 0 2 rfl rfl))) ?_
     refine xH 22 109 false (.pointer (some ⟨b43, 1, none⟩)) rfl rfl rfl rfl (ex_field rfl rfl (s14fa40_1 _ _ _)) ?_
     refine xH 22 109 false (.pointer (some ⟨b43, 3, none⟩)) rfl rfl rfl rfl (ex_field rfl rfl (s2fa38_2 _ _ _)) ?_
     simp only [zP, zI, zS, zO]
     refine xH 22 109 false (.int .i64 x.ver.expire) rfl rfl rfl rfl (ex_load rfl rfl (run_load1 s2na3 (hv.load 3 3 rfl rfl))) ?_
     refine xH 22 109 false (.bool false) rfl rfl rfl rfl (ex_neq (k := .i64) (m := y.expire) (n := x.ver.expire) rfl rfl rfl (decide_eq_false (by rw [hy]; simp))) ?_
     refine xH 8 95 true (.bool false) rfl rfl rfl rfl (ex_pick (b := false) rfl rfl rfl) ?_
     simp only [zP, zI, zS, zO]
     refine xH 6 93 false (.bool false) rfl rfl rfl rfl (ex_pick (b := true) rfl rfl rfl) ?_
     refine xK false (.bool false) rfl rfl rfl rfl ?_
     refine wL ?_
     simp only [zP, zI, zS, zO]
     refine tN (hK55 _ _ ?_)
     clear hK55 K55
     refine wpIn_cond_false rfl ?_
     refine wpIn_skip ?_
     refine blk_normal ?_
     refine tN (hK41 _ _ ?_)
     clear hK41 K41
     refine rL ?_
     refine xM (.int .i64 (k : Int)) rfl rfl rfl ?_
     refine xG (.int .i64 ((k + 1 : Nat) : Int)) rfl rfl (ex_add (m := (k : Int)) (n := 1) rfl rfl rfl (by rw [i64_in (by omega)]; omega)) ?_
     refine xA (.int .i64 ((k + 1 : Nat) : Int)) rfl rfl rfl ?_
     refine wL ?_
     simp only [zP, zI, zS, zO]
     refine then_normal ?_
     go_roundw
     case rel => exact ⟨k + 1, _, rfl, (hDE.trans hF), by omega, (((hv.front 2 rfl).front 2 rfl).sub (List.Sublist.cons_cons _ (List.Sublist.cons_cons _ (List.Sublist.cons _ (List.Sublist.cons _ (List.Sublist.refl _))))))⟩
     case measure => show ws.length - (((k + 1 : Nat) : Int)).toNat < ws.length - ((k : Int)).toNat; omega
    refine xG (.bool false) rfl rfl (ex_lss (k := .i64) (m := (k : Int)) (n := (ws.length : Int)) rfl rfl rfl (decide_eq_false hb40)) ?_
    refine wL ?_
    simp only [zP, zI, zS, zO]
    refine tN (hK39 _ _ ?_)
    clear hK39 K39
    refine wpIn_cond_false rfl ?_
    refine wpIn_exit ?_
    refine then_exit ?_
    clear hK38 K38
    refine then_exit ?_
    refine blk_hit ?_
    refine blk_normal ?_
    refine tN (hK17 _ _ ?_)
    clear hK17 K17
    refine rL ?_
    refine xM (.int .i64 (i : Int)) rfl rfl rfl ?_
    refine xG (.int .i64 ((i + 1 : Nat) : Int)) rfl rfl (ex_add (m := (i : Int)) (n := 1) rfl rfl rfl (by rw [i64_in (by omega)]; omega)) ?_
    refine xA (.int .i64 ((i + 1 : Nat) : Int)) rfl rfl rfl ?_
    refine wL ?_
    simp only [zP, zI, zS, zO]
    refine then_normal ?_
    go_roundw
    case rel => exact ⟨i + 1, n + 1, _, _, _, _, M', rfl, rfl, ((hBC.trans hD).trans hDE), by omega, by omega, by omega, hxm2.more hDE, ((hv.front 1 rfl).front 1 rfl)⟩
    case measure => show ll.length - (((i + 1 : Nat) : Int)).toNat < ll.length - ((i : Int)).toNat; omega
  refine xG (.bool false) rfl rfl (ex_lss (k := .i64) (m := (i : Int)) (n := (ll.length : Int)) rfl rfl rfl (decide_eq_false hb16)) ?_
  refine wL ?_
  simp only [zP, zI, zS, zO]
  refine tN (hK15 _ _ ?_)
  clear hK15 K15
  refine wpIn_cond_false rfl ?_
  refine wpIn_exit ?_
  refine then_exit ?_
  clear hK14 K14
  refine then_exit ?_
  refine blk_hit ?_
  refine tN (hK11 _ _ ?_)
  clear hK11 K11
  refine sK fun K57 hK57 => rL ?_
  refine xA (.bool true) rfl rfl rfl ?_
  refine wL ?_
  simp only [zP, zI, zS, zO]
  refine tN (hK57 _ _ ?_)
  clear hK57 K57
  refine wpIn_ret ?_
  refine bR rfl rfl ?_
  exact ⟨rfl, ((hv.sub (List.Sublist.cons _ (List.Sublist.cons _ (List.Sublist.refl _))))).weak hBC⟩
end Go.Proofs.Ytffmbdagjpdieaa
