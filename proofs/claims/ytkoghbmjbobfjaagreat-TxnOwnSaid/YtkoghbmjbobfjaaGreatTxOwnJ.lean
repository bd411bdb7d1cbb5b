/- The evaluator once more, its branches as small functions: quicker for the kernel; and that it is the same. -/
import Derived.Test.YtkoghbmjbobfjaaGreatTxOwnI
import Derived.Test.YtkoghbmjbobfjaaGreatTxOwnA
import Derived.Test.YtkoghbmjbobfjaaGreatRows
import Derived.Deep.LoopGhost
import Derived.Test.YtkoghbmjbobfjaaGreatTxOwnB
import Derived.Test.YtkoghbmjbobfjaaGreatTxOwnD
import Derived.Test.YtkoghbmjbobfjaaGreatTxOwnE
set_option maxRecDepth 100000
namespace Go.Eng
open Go
noncomputable section
def o_move (fr : Fr) (σ : St) (x : Operand) : Res (St × V) := (opnd fr x).bind fun v => .ok (σ, v)
def o_pick (fr : Fr) (σ : St) (c : Operand) (a : Operand) (b : Operand) : Res (St × V) := (opnd fr c).bind fun
  | .b t => (opnd fr (cond t a b)).bind fun v => .ok (σ, v)
  | _ => .no "pick"
def o_alloc (P : Pr) (σ : St) (t : TypeId) : Res (St × V) := (ti P t).bind fun i => (zc i).bind fun z => let (σ, k) := new σ (.cells z t false false); .ok (σ, .p (some (k, 0)))
def o_box (fr : Fr) (σ : St) (t : TypeId) (x : Operand) : Res (St × V) := (opnd fr x).bind fun v => cond (allLeaf (cellsOf v)) (let (σ, k) := new σ (.cells (cellsOf v) t false false); .ok (σ, .p (some (k, 0)))) (.no "box")
def o_build (P : Pr) (fr : Fr) (σ : St) (t : TypeId) (ps : Array (Nat × Operand)) : Res (St × V) := (parts fr ps.toList).bind fun l => (build P t l).bind fun v => .ok (σ, v)
def o_buildSlice (P : Pr) (fr : Fr) (σ : St) (t : TypeId) (n : Nat) (ps : Array (Nat × Operand)) : Res (St × V) := (parts fr ps.toList).bind fun l => buildSlice P σ t n l
def o_load (P : Pr) (fr : Fr) (σ : St) (t : TypeId) (x : Operand) : Res (St × V) := (opnd fr x).bind fun
  | .p (some (k, o)) => loadT P σ t k o
  | .wp r j => (ti P t).bind fun i => cond (Nat.beq i.sz 1 && !i.agg) (match P.win r with
   | some (_, cs) => match cs[j]? with
    | some v => .ok (σ, v)
    | none => .no "load"
   | none => .no "load") (.no "load: size")
  | .gl g j => (ti P t).bind fun i => cond (Nat.beq i.sz 1 && !i.agg) (match P.win (g + 1) with
   | some (_, cs) => match cs[j]? with
    | some v => .ok (σ, v)
    | none => .no "load"
   | none => .no "load of a global") (.no "load: size")
  | _ => .no "load"
def o_store (P : Pr) (fr : Fr) (σ : St) (t : TypeId) (x : Operand) (y : Operand) : Res (St × V) := (opnd fr x).bind fun a => (opnd fr y).bind fun v => match a with
  | .p (some (k, o)) => (ti P t).bind fun i => cond (Nat.beq (cellsOf v).length i.sz) ((storeN σ k o (cellsOf v)).bind fun σ => .ok (σ, und)) (.no "store: size")
  | _ => .no "store"
def o_nilCheck (fr : Fr) (σ : St) (x : Operand) : Res (St × V) := (opnd fr x).bind fun
  | .p (some a) => .ok (σ, .p (some a))
  | .f fn a b => (match fn with | .method _ => .no "nilCheck of a method" | _ => .ok (σ, .f fn a b))
  | .t ty v => .ok (σ, .t ty v)
  | _ => .no "nilCheck"
def o_binOp (P : Pr) (fr : Fr) (σ : St) (op : BinOp) (t : TypeId) (x : Operand) (y : Operand) : Res (St × V) := (opnd fr x).bind fun a => (opnd fr y).bind fun b => binOp P σ op t x y a b
def o_unOp (fr : Fr) (σ : St) (op : UnOp) (x : Operand) : Res (St × V) := (opnd fr x).bind fun a => (unOp op a).bind fun v => .ok (σ, v)
def o_convert (P : Pr) (fr : Fr) (σ : St) (s : TypeId) (d : TypeId) (x : Operand) : Res (St × V) := (opnd fr x).bind fun a => convert P σ s d a
def o_makeInterface (P : Pr) (fr : Fr) (σ : St) (t : TypeId) (x : Operand) : Res (St × V) := (opnd fr x).bind fun v => (ti P t).bind fun i => match i.d with
  | .interface _ => .no "makeInterface"
  | _ => .ok (σ, .t t v)
def o_makeFunc (fr : Fr) (σ : St) (fn : Fn) (a : Array Operand) (b : Array Operand) : Res (St × V) := cond (isYield fn) (.no "makeFunc") ((opnds fr a.toList).bind fun a => (opnds fr b.toList).bind fun b => .ok (σ, .f fn a b))
def o_makeSlice (P : Pr) (fr : Fr) (σ : St) (t : TypeId) (l : Operand) (c : Operand) : Res (St × V) := (opnd fr l).bind fun l => (opnd fr c).bind fun c => makeSlice P σ t l c
def o_slice (P : Pr) (fr : Fr) (σ : St) (t : TypeId) (x : Operand) (l : Option Operand) (h : Option Operand) (m : Option Operand) : Res (St × V) := (opnd fr x).bind fun x => (optO fr l).bind fun l => (optO fr h).bind fun h => (optO fr m).bind fun m => slice P σ t x l h m
def o_fieldAddr (P : Pr) (fr : Fr) (σ : St) (t : TypeId) (x : Operand) (f : Nat) : Res (St × V) := (opnd fr x).bind fun x => (fieldAt P t x f).bind fun v => .ok (σ, v)
def o_field (P : Pr) (fr : Fr) (σ : St) (t : TypeId) (x : Operand) (f : Nat) : Res (St × V) := (opnd fr x).bind fun x => (fieldOf P t x f).bind fun v => .ok (σ, v)
def o_indexAddr (P : Pr) (fr : Fr) (σ : St) (t : TypeId) (x : Operand) (i : Operand) : Res (St × V) := (opnd fr x).bind fun x => (opnd fr i).bind fun i => (indexAt P t x i).bind fun v => .ok (σ, v)
def o_index (P : Pr) (fr : Fr) (σ : St) (t : TypeId) (x : Operand) (i : Operand) : Res (St × V) := (opnd fr x).bind fun x => (opnd fr i).bind fun i => (index P t x i).bind fun v => .ok (σ, v)
def o_lookup (P : Pr) (fr : Fr) (σ : St) (t : TypeId) (x : Operand) (i : Operand) (ok : Bool) : Res (St × V) := (opnd fr x).bind fun x => (opnd fr i).bind fun i => lookup P σ t x i ok
def o_mapUpdate (P : Pr) (fr : Fr) (σ : St) (t : TypeId) (m : Operand) (k : Operand) (v : Operand) : Res (St × V) := (opnd fr m).bind fun m => (opnd fr k).bind fun k => (opnd fr v).bind fun v => (mapUp P σ t m k v).bind fun σ => .ok (σ, und)
def o_extract (fr : Fr) (σ : St) (x : Operand) (i : Nat) : Res (St × V) := (opnd fr x).bind fun
  | .u vs => match vs[i]? with | some v => .ok (σ, v) | none => .no "extract"
  | _ => .no "extract"
def o_range (P : Pr) (fr : Fr) (σ : St) (t : TypeId) (x : Operand) : Res (St × V) := (opnd fr x).bind fun x => (ti P t).bind fun i => match i.d, x with
  | .map _ _, .m none => let (σ, k) := new σ (.miter none 0 [] 0); .ok (σ, .p (some (k, 0)))
  | .map _ _, .m (some r) => match obj σ r with
   | .map _ clock => let (σ, k) := new (rd σ r) (.miter (some r) clock [] clock); .ok (σ, .p (some (k, 0)))
   | _ => .no "range"
  | _, _ => .no "range"
def o_call (P : Pr) (ih : Ih) (fr : Fr) (σ : St) (c : Call) : Res (St × V) := (opnds fr c.args.toList).bind fun args => match c.callee with
  | .builtin b => builtin P σ b c.argTypes.toList args
  | .value f => (opnd fr f).bind fun f => callV P ih σ f args
  | .invoke x name => (opnd fr x).bind fun
   | .t t v => (methodOf P t v name).bind fun (f, x) => callF P ih σ f (x :: args)
   | _ => .no "invoke"
def o_entry (fr : Fr) (σ : St) (x : Operand) : Res (St × V) := (opnd fr x).bind fun
  | .p (some (k, 0)) => match obj σ k with
   | .miter (some r) _ seen stepped => match obj σ r, seen.getLast? with
    | .map es clock, some st => cond (Nat.beq clock stepped) (match es.find? (fun e => Nat.beq e.2.2 st) with
     | some e => .ok (rd (rd σ k) r, .u [e.1, e.2.1])
     | none => .no "entry: gone") (.no "entry: an insertion")
    | _, _ => .no "entry"
   | _ => .no "entry"
  | _ => .no "entry"
def operF (P : Pr) (ih : Ih) (fr : Fr) (σ : St) (o : Op) : Res (St × V) := match o with
 | .move x | .assign x => o_move fr σ x
 | .pick c a b => o_pick fr σ c a b
 | .alloc t => o_alloc P σ t
 | .box t x => o_box fr σ t x
 | .build t ps => o_build P fr σ t ps
 | .buildSlice t n ps => o_buildSlice P fr σ t n ps
 | .load t x => o_load P fr σ t x
 | .store t x y => o_store P fr σ t x y
 | .nilCheck x => o_nilCheck fr σ x
 | .binOp op t x y _ => o_binOp P fr σ op t x y
 | .unOp op _ x => o_unOp fr σ op x
 | .convert s d x => o_convert P fr σ s d x
 | .makeInterface t x => o_makeInterface P fr σ t x
 | .makeFunc fn a b => o_makeFunc fr σ fn a b
 | .makeMap _ none => let (σ, k) := new σ (.map [] 0); .ok (σ, .m (some k))
 | .makeMap t (some x) => (ti P t).bind fun i => match i.d with
  | .map _ _ => (opnd fr x).bind fun
   | .i _ _ => let (σ, k) := new σ (.map [] 0); .ok (σ, .m (some k))
   | _ => .no "makeMap: room"
  | _ => .no "makeMap"
 | .makeSlice t l c => o_makeSlice P fr σ t l c
 | .slice t x l h m => o_slice P fr σ t x l h m
 | .fieldAddr t x f => o_fieldAddr P fr σ t x f
 | .field t x f => o_field P fr σ t x f
 | .indexAddr t x i => o_indexAddr P fr σ t x i
 | .index t x i => o_index P fr σ t x i
 | .lookup t x i ok => o_lookup P fr σ t x i ok
 | .mapUpdate t m k v | .insert t m k v => o_mapUpdate P fr σ t m k v
 | .extract x i => o_extract fr σ x i
 | .range t x => o_range P fr σ t x
 | .next x false => (opnd fr x).bind fun
  | .p (some (k, 0)) => match obj σ k with
   | .miter none _ _ _ => .ok (rd σ k, .u [.b false])
   | .miter (some r) since seen last => match obj σ r with
    | .map es clock => nextV σ k r since seen last es clock
    | _ => .no "next: map"
   | _ => .no "next"
  | _ => .no "next"
 | .call c => o_call P ih fr σ c
 | .defer _ => .no "op defer"
 | .entry x => o_entry fr σ x
 | .sliceToArrayPointer _ _ => .no "op sliceToArrayPointer"
 | .next _ true => .no "op next string"
 | .panic _ => .no "op panic"
 | .ready _ => .no "op ready"
 | .waits _ => .no "op waits"
 | _ => .no "op other"
theorem operF_eq (P : Pr) (ih : Ih) (fr : Fr) (σ : St) (o : Oper) : operF P ih fr σ o.op = oper P ih fr σ o := by
 unfold operF oper
 cases o.op <;> rfl
def deferC : Op → Option Call
 | .defer c => some c
 | _ => none
def goF (P : Pr) (ih : Ih) (rnd : Option Nat) (o : Oper) (k : Fr → St → Res (St × Fr)) (fr : Fr) (σ : St) : Res (St × Fr) := match deferC o.op with
 | some c => match rnd with
  | none => (deferV fr c).bind fun d => ({ fr with ds := d :: fr.ds }.put o.dst und).bind fun fr => k fr σ
  | some _ => .no "defer in a round"
 | none => (operF P ih fr σ o.op).bind fun x => (fr.put o.dst x.2).bind fun fr => k fr x.1
def runOpsF (P : Pr) (ih : Ih) (rnd : Option Nat) (ops : List Oper) (l : List Oper) : Fr → St → Res (St × Fr) := List.rec (motive := fun _ => Fr → St → Res (St × Fr))
 (fun fr σ => .ok (σ, fr))
 (fun o _ k fr σ => Bool.rec ((fr.put o.dst und).bind fun fr => k fr σ) (goF P ih rnd o k fr σ) (wantedV ops fr o)) l
def drF (P : Pr) (ih : Ih) (o : Oper) (ms : List Nat) (fps : List (Nat × Nat)) (k : List Nat → List (Nat × Nat) → Fr → St → Res (St × Fr)) (fr : Fr) (σ : St) : Res (St × Fr) :=
 (operF P ih fr { σ with r := 0, w := 0 } o.op).bind fun x => Bool.rec (.no "drawn: not apart")
  ((fr.put o.dst x.2).bind fun fr => k ms.tail (fps ++ [(x.1.r, x.1.w)]) fr { x.1 with r := Nat.lor σ.r x.1.r, w := Nat.lor σ.w x.1.w }) (apart (ms.headD 0) fps 0 x.1.r x.1.w)
def runDrawnF (P : Pr) (ih : Ih) (ops : List Oper) (l : List Oper) : List Nat → List (Nat × Nat) → Fr → St → Res (St × Fr) := List.rec (motive := fun _ => List Nat → List (Nat × Nat) → Fr → St → Res (St × Fr))
 (fun _ _ fr σ => .ok (σ, fr))
 (fun o _ k ms fps fr σ => Bool.rec ((fr.put o.dst und).bind fun fr => k ms.tail (fps ++ [(0, 0)]) fr σ) (drF P ih o ms fps k fr σ) (wantedV ops fr o)) l
theorem runOpsF_eq (P : Pr) (ih : Ih) (rnd : Option Nat) (ops : List Oper) : ∀ (l : List Oper) (fr : Fr) (σ : St), runOpsF P ih rnd ops l fr σ = runOps P ih rnd ops l fr σ
 | [], _, _ => rfl
 | o :: l, fr, σ => by
  have hk : (fun fr σ => runOpsF P ih rnd ops l fr σ) = fun fr σ => runOps P ih rnd ops l fr σ := funext fun fr => funext fun σ => runOpsF_eq P ih rnd ops l fr σ
  show Bool.rec (motive := fun _ => Res (St × Fr)) ((fr.put o.dst und).bind fun fr => runOpsF P ih rnd ops l fr σ) (goF P ih rnd o (fun fr σ => runOpsF P ih rnd ops l fr σ) fr σ) (wantedV ops fr o) = _
  simp only [runOps]
  cases wantedV ops fr o with
  | false =>
   show (fr.put o.dst und).bind (fun fr => runOpsF P ih rnd ops l fr σ) = (fr.put o.dst und).bind (fun fr => runOps P ih rnd ops l fr σ)
   congr 1
   funext fr
   exact runOpsF_eq P ih rnd ops l fr σ
  | true =>
   show goF P ih rnd o (fun fr σ => runOpsF P ih rnd ops l fr σ) fr σ = _
   rw [hk]
   unfold goF
   rw [operF_eq]
   simp only [cond_true]
   cases o.op <;> rfl
theorem runDrawnF_eq (P : Pr) (ih : Ih) (ops : List Oper) : ∀ (l : List Oper) (ms : List Nat) (fps : List (Nat × Nat)) (fr : Fr) (σ : St), runDrawnF P ih ops l ms fps fr σ = runDrawn P ih ops l ms fps fr σ
 | [], _, _, _, _ => rfl
 | o :: l, ms, fps, fr, σ => by
  have hk : (fun ms fps fr σ => runDrawnF P ih ops l ms fps fr σ) = fun ms fps fr σ => runDrawn P ih ops l ms fps fr σ := funext fun ms => funext fun fps => funext fun fr => funext fun σ => runDrawnF_eq P ih ops l ms fps fr σ
  show Bool.rec (motive := fun _ => Res (St × Fr)) ((fr.put o.dst und).bind fun fr => runDrawnF P ih ops l ms.tail (fps ++ [(0, 0)]) fr σ) (drF P ih o ms fps (fun ms fps fr σ => runDrawnF P ih ops l ms fps fr σ) fr σ) (wantedV ops fr o) = _
  simp only [runDrawn]
  cases wantedV ops fr o with
  | false =>
   show (fr.put o.dst und).bind (fun fr => runDrawnF P ih ops l ms.tail (fps ++ [(0, 0)]) fr σ) = (fr.put o.dst und).bind (fun fr => runDrawn P ih ops l ms.tail (fps ++ [(0, 0)]) fr σ)
   congr 1
   funext fr
   exact runDrawnF_eq P ih ops l _ _ fr σ
  | true =>
   show drF P ih o ms fps (fun ms fps fr σ => runDrawnF P ih ops l ms fps fr σ) fr σ = _
   rw [hk]
   unfold drF
   rw [operF_eq]
   simp only [cond_true]
   congr 1
   funext x
   cases apart (ms.headD 0) fps 0 x.1.r x.1.w <;> rfl
def r_region (P : Pr) (ih : Ih) (rnd : Option Nat) (ops : Array Oper) (d : Bool) (fr : Fr) (σ : St) : Res (St × Fr × Exit) := Bool.rec
 ((runOpsF P ih rnd ops.toList ops.toList fr σ).bind fun x => .ok (x.1, x.2, .normal))
 (Bool.rec (.no "drawn: slots") ((runDrawnF P ih ops.toList ops.toList (Pm.masks ops) [] fr σ).bind fun x => .ok (x.1, x.2, .normal)) (drawOk ops)) d
def r_then (ih : Ih) (rnd : Option Nat) (f : FuncId) (b : Code) (x : St × Fr × Exit) : Res (St × Fr × Exit) := match x.2.2 with
 | .normal => ih.exec rnd f b x.2.1 x.1
 | _ => .ok x
def r_cond (ih : Ih) (rnd : Option Nat) (f : FuncId) (x : Operand) (a b : Code) (fr : Fr) (σ : St) : Res (St × Fr × Exit) := (opnd fr x).bind fun
  | .b t => ih.exec rnd f (cond t a b) fr σ
  | _ => .no "cond"
def r_out (id : Nat) (x : St × Fr × Exit) : Res (St × Fr × Exit) := match x.2.2 with
 | .exit j => .ok (x.1, x.2.1, cond (Nat.beq j id) .normal (.exit j))
 | _ => .ok x
def runF (P : Pr) (ih : Ih) (rnd : Option Nat) (f : FuncId) (c : Code) (fr : Fr) (σ : St) : Res (St × Fr × Exit) := match c with
 | .skip | .label _ => .ok (σ, fr, .normal)
 | .region _ ops d => r_region P ih rnd ops d fr σ
 | .seq a b => (ih.exec rnd f a fr σ).bind (r_then ih rnd f b)
 | .cond x a b => r_cond ih rnd f x a b fr σ
 | .block id a => (ih.exec rnd f a fr σ).bind (r_out id)
 | .loop a => (ih.exec rnd f a fr σ).bind (r_then ih rnd f (.loop a))
 | .exit id => .ok (σ, fr, .exit id)
 | .ret => .ok (σ, fr, .ret)
 | .scope b => ih.scope rnd f b b fr σ
 | .goto l => .ok (σ, fr, .goto l)
 | c => run P ih rnd f c fr σ
theorem runF_eq (P : Pr) (ih : Ih) (rnd : Option Nat) (f : FuncId) (c : Code) (fr : Fr) (σ : St) : runF P ih rnd f c fr σ = run P ih rnd f c fr σ := by
 cases c with
 | region id ops d =>
  show r_region P ih rnd ops d fr σ = _
  simp only [run, r_region, runOpsF_eq, runDrawnF_eq]
  cases d with
  | false => rfl
  | true => cases drawOk ops <;> rfl
 | seq a b =>
  show (ih.exec rnd f a fr σ).bind (r_then ih rnd f b) = _
  simp only [run]
  congr 1
  funext x
  obtain ⟨σ', fr', e⟩ := x
  cases e <;> rfl
 | loop a =>
  show (ih.exec rnd f a fr σ).bind (r_then ih rnd f (.loop a)) = _
  simp only [run]
  congr 1
  funext x
  obtain ⟨σ', fr', e⟩ := x
  cases e <;> rfl
 | block id a =>
  show (ih.exec rnd f a fr σ).bind (r_out id) = _
  simp only [run]
  congr 1
  funext x
  obtain ⟨σ', fr', e⟩ := x
  cases e <;> rfl
 | _ => rfl
def stepF (P : Pr) (ih : Ih) : Ih := ⟨fun f args σ => match P.orc f args σ with
 | some x => .ok x
 | none => runCall P ih f args σ, runF P ih, runScope ih⟩
def evF (P : Pr) (n : Nat) : Ih := Nat.rec ⟨fun _ _ _ => .no "fuel", fun _ _ _ _ _ => .no "fuel", fun _ _ _ _ _ _ => .no "fuel"⟩ (fun _ ih => stepF P ih) n
theorem evF_eq (P : Pr) : ∀ n, evF P n = ev P n
 | 0 => rfl
 | n + 1 => by
  show stepF P (evF P n) = step P (ev P n)
  rw [evF_eq P n]
  unfold stepF step
  congr 1
  funext rnd f c fr σ
  exact runF_eq P _ rnd f c fr σ
end
end Go.Eng
/- Laws of a slice of texts, run by the evaluator: so many texts, each short; or the first long one. -/
namespace Go.Eng
open Go Go.RowKit Go.Pm
def strV (s : List UInt8) : Value := .string ⟨s.toArray⟩
noncomputable section
def freePr (P : Program) : Pr := prOf P (fun _ => (0, 9223372036854775808)) (fun _ => none) (fun _ _ => none)
end
end Go.Eng
/- Contracts as known calls; what is known of numbers. -/
namespace Go.Eng
open Go Go.RowKit Go.Pm
section
variable {P : Program} {α : At} {pr : Pr} {f : FuncId} {args : List V} {v : V} {σ : St}
end
-- facts of unknown numbers, in a list
-- facts of unknown texts: which are equal
end Go.Eng
/- Known calls that make a row. -/
namespace Go.Eng
open Go Go.RowKit Go.Pm
section
variable {P : Program} {α : At} {μ : Mu} {c : Nat → O} {σ σ' : St} {w w' : World} {M : Nat → Prop} {N : Nat} {f : FuncId} {args : List V}
end
end Go.Eng
/- Runs to contracts, in general; an unknown text; known calls in a list. -/
namespace Go.Eng
open Go Go.RowKit Go.Pm
theorem run_calls {P : Program} {pr : Pr} {α : At} (hα : AtOk pr α) (hp : PrOk pr P) (ho : ∀ f args σ σ' v, pr.orc f args σ = some (σ', v) → CallRun P α f args σ σ' v) (hn : ∀ f args σ σ' v, pr.orn f args σ = some (σ', v) → CallN P α f args σ σ' v)
  (hfol : P.follows .rangeFuncRecover = true) (hmix : P.follows .mixedOrders = true) {fuel : Nat} {f : FuncId} {args : List V} {vals : List Value} (h : saysTrue ((evF pr fuel).call f args st0) = true) (hx : concL α (fun _ => none) args = some vals) {W : World}
  (hwin : ∀ j i v, (α.wc j)[i]? = some v → ∃ x, conc α (fun _ => none) v = some x ∧ W.cell? ⟨(α.win j).1, (α.win j).2.1 + i, none⟩ = some x)
  (hfull : ∀ j o, α.blk j = some o → α.wc j ≠ [] → W.heap[(α.win j).1]? = some o := by intro j o h; cases h) :
  Calls P f vals.toArray W fun e W' => e = .returned (.bool true) ∧ Ext W W' := by
 obtain ⟨σ', h⟩ := saysTrue_ok h
 rw [evF_eq] at h
 have hI := (ev_ok hα hp ho hn hfol hmix fuel).call f args st0 σ' _ h
 refine (ev_calls hI hx hwin hfull).mono ?_
 rintro e W' ⟨x, μ', rfl, h1, h2⟩
 simp only [conc, Option.some.injEq] at h1
 subst h1
 exact ⟨rfl, h2⟩
-- one unknown text, no 0
end Go.Eng
/- The transactions' laws: awake, run by the evaluator. -/
namespace Go.Proofs.YtkoghbmjbobfjaaGreat
open Go.Eng Go.Pm Go.RowKit
theorem txAwake : saysTrue ((evF (freePr Tryz.prog) 100000).call 20 [] st0) = true := by kernel_rfl
theorem txAwakeCalls (W : World) : Calls Tryz.prog 20 #[] W fun e W' => e = .returned (.bool true) ∧ Ext W W' :=
 run_calls (α := plainAt) (pr := freePr Tryz.prog) ⟨fun j => ⟨Nat.zero_le _, Nat.zero_le _⟩, fun j n cs hw => (by cases hw), fun g n cs hw => (by cases hw), fun op a b r h => (by cases h)⟩ (prOk _ _ _ _) (fun _ _ _ _ _ e => (stay_no e).elim) (fun _ _ _ _ _ e => (stay_no e).elim) (by kernel_rfl) (by kernel_rfl) txAwake (vals := []) (by simp [concL]) (fun j i v hv => by simp [plainAt] at hv)
theorem txAwakeInv (B : Base) (H : List Res) (w : World) (hv : Inv B H w) : Calls Tryz.prog 20 #[] w fun e w' => e = .returned (.bool true) ∧ Inv B H w' :=
 (txAwakeCalls w).mono fun _ _ ⟨h1, h2⟩ => ⟨h1, hv.ext h2⟩
end Go.Proofs.YtkoghbmjbobfjaaGreat
/- Which versions and chains are right. -/
namespace Go.Proofs.YtkoghbmjbobfjaaGreat
open Go.RowKit Go.Pm
end Go.Proofs.YtkoghbmjbobfjaaGreat
/- chain.Put; store.valid, store.all. -/
namespace Go.Proofs.YtkoghbmjbobfjaaGreat
open Go.RowKit Go.Pm
end Go.Proofs.YtkoghbmjbobfjaaGreat
/- store.New, Last, Read. -/
namespace Go.Proofs.YtkoghbmjbobfjaaGreat
open Go.RowKit Go.Pm
end Go.Proofs.YtkoghbmjbobfjaaGreat
/- store.chains. -/
namespace Go.Proofs.YtkoghbmjbobfjaaGreat
open Go.RowKit Go.Pm
def news (M : Model) (ws : List Wr) : Nat := (ws.filter fun x => (getM M x.key).length == 0).length
end Go.Proofs.YtkoghbmjbobfjaaGreat
/- store.Apply. -/
namespace Go.Proofs.YtkoghbmjbobfjaaGreat
open Go.RowKit Go.Pm
end Go.Proofs.YtkoghbmjbobfjaaGreat
/- The reference's Same of texts, pairs, members, values; Small; small. -/
namespace Go.Proofs.YtkoghbmjbobfjaaGreat
open Go.RowKit Go.Pm
theorem pairEq (d : Nat) (w : World) (a b : List UInt8) : (Op.equalIn (d + 2) 97 (.agg #[strV a, strV b]) (.agg #[strV a, strV b])).run Tryz.prog w = .ok true w := by
 have hf : Tryz.prog.stoodInHeld 97 = false := by kernel_rfl
 have hfs : (Tryz.prog.fieldsOf 97).toList = [{ name := "Field", type := 9, offset := 0, embedded := false, tag := "", pkgPath := "", byteOffset := 0 }, { name := "Text", type := 9, offset := 1, embedded := false, tag := "", pkgPath := "", byteOffset := 16 }] := by kernel_rfl
 have hag : ∀ w, (isAgg 9).run Tryz.prog w = .ok false w := fun w => by kernel_rfl
 have hs : ∀ w, (sizeOf 9).run Tryz.prog w = .ok 1 w := fun w => by kernel_rfl
 have h9 : Tryz.prog.underlying 9 = some .string := Tryz.underlying9
 rw [run_equalIn_struct w (d + 1) 97 _ _ (by kernel_rfl) hf, hfs]
 simp [Op.eqFields, part, hag, hs, run_equalIn_string w d 9 _ _ h9]
theorem memEq (d : Nat) (w : World) (a : Int) (b : List UInt8) : (Op.equalIn (d + 2) 99 (.agg #[.int .i64 a, strV b]) (.agg #[.int .i64 a, strV b])).run Tryz.prog w = .ok true w := by
 have hf : Tryz.prog.stoodInHeld 99 = false := by kernel_rfl
 have hfs : (Tryz.prog.fieldsOf 99).toList = [{ name := "Score", type := 3, offset := 0, embedded := false, tag := "", pkgPath := "", byteOffset := 0 }, { name := "Name", type := 9, offset := 1, embedded := false, tag := "", pkgPath := "", byteOffset := 8 }] := by kernel_rfl
 have hag : ∀ w, (isAgg 9).run Tryz.prog w = .ok false w := fun w => by kernel_rfl
 have hs : ∀ w, (sizeOf 9).run Tryz.prog w = .ok 1 w := fun w => by kernel_rfl
 have h9 : Tryz.prog.underlying 9 = some .string := Tryz.underlying9
 have hag3 : ∀ w, (isAgg 3).run Tryz.prog w = .ok false w := fun w => by kernel_rfl
 have hs3 : ∀ w, (sizeOf 3).run Tryz.prog w = .ok 1 w := fun w => by kernel_rfl
 have h3 : Tryz.prog.underlying 3 = some (.int .i64) := Tryz.underlying3
 rw [run_equalIn_struct w (d + 1) 99 _ _ (by kernel_rfl) hf, hfs]
 simp [Op.eqFields, part, hag, hs, hag3, hs3, run_equalIn_string w d 9 _ _ h9, run_equalIn_int w d 3 _ _ _ _ h3]
set_option maxHeartbeats 2000000 in
theorem refWords (B : Base) (H : List Res) (w : World) (ad ad' : Option Addr) (c c' : Nat) (l : List (List UInt8)) (hr : RdV B [] ad (textCells l)) (hr' : RdV B [] ad' (textCells l)) (hm : l.length ≤ 1000000) (hv : Inv B H w) :
  Calls Tryz.prog 18 #[.slice ad l.length c, .slice ad' l.length c'] w fun e w' => e = .returned (.bool true) ∧ Inv B H w' := by
 refine cW Tryz.func18 rfl Tryz.ntmps18 ?_
 simp only [al]
 refine sK fun _ k1 => rL (xA (.bool false) rfl ?_)
 simp only [zP, po]
 refine wK k1 (sK fun _ k2 => ?_)
 refine sK fun _ k3 => rL (xM (.slice ad l.length c) rfl ?_)
 refine xG (.int .i64 (l.length : Int)) rfl (ex_len0 Tryz.underlying29 rfl rfl) (xM (.slice ad' l.length c') rfl ?_)
 simp only [zP, po]
 refine xG (.int .i64 (l.length : Int)) rfl (ex_len0 Tryz.underlying29 rfl rfl) (xG (.bool false) rfl (ex_neq rfl rfl rfl (decide_eq_false (fun h => h rfl))) ?_)
 simp only [zP, po]
 refine wK k3 (cF rfl ?_)
 refine kS (tK k2 ?_)
 refine sK fun _ k4 => sK fun _ k5 => rL (xA (.int .i64 0) rfl ?_)
 simp only [zP, po]
 refine wK k5 (bB ?_)
 gi_loopw [5] (fun x5 wr => ∃ (i : Nat), x5 = .int .i64 (i : Int) ∧ i ≤ l.length ∧ Inv B H wr) (fun x5 _ => l.length - (intOf x5).toNat)
 case atStart => exact ⟨0, rfl, Nat.zero_le _, hv⟩
 case round =>
  obtain ⟨i, rfl, hi, hv⟩ := hrel
  refine sK fun _ k7 => sK fun _ k8 => rL (xM (.int .i64 (i : Int)) rfl ?_)
  refine xM (.slice ad l.length c) rfl (xG (.int .i64 (l.length : Int)) rfl (ex_len0 Tryz.underlying29 rfl rfl) ?_)
  simp only [zP, po]
  by_cases hb9 : (i : Int) < (l.length : Int)
  ·refine xG (.bool true) rfl (ex_lss rfl rfl rfl (decide_eq_true hb9)) ?_
   simp only [zP, po]
   refine wK k8 (cT rfl ?_)
   refine kS (tK k7 ?_)
   refine sK fun _ k10 => bB (sK fun _ k11 => ?_)
   obtain ⟨x, hx⟩ : ∃ x, l[i]? = some x := ⟨_, List.getElem?_eq_getElem (show i < l.length by omega)⟩
   obtain ⟨bb, bo, had, hrdx⟩ := text_reads hr hx
   subst had
   obtain ⟨b2, o2, hadb2, hrdb2⟩ := text_reads hr' hx
   subst hadb2
   refine rW mixed [] [0,1,2,3,4,5,6,7,8] 26 rfl (by kernel_rfl) hv ?_
   simp only [qm, opAt]
   refine dM (.slice (some ⟨bb, bo, none⟩) l.length c) rfl (dM (.int .i64 (i : Int)) rfl ?_)
   refine dG (.pointer (some ⟨bb, bo + i, none⟩)) rfl (ex_index rfl rfl rfl (run_idx1 (k := i) Tryz.underlying29 s9es29 (by omega))) ?_
   simp only [zP, po]
   refine dL _ rfl (fun hv => ex_load rfl rfl (run_load1 s9na9 (hrdx _ _ _ (Base.Le.refl _) no_res hv 0 _ rfl))) (dM (.slice (some ⟨b2, o2, none⟩) l.length c') rfl ?_)
   refine dM (.int .i64 (i : Int)) rfl ?_
   simp only [zP, po]
   refine dG (.pointer (some ⟨b2, o2 + i, none⟩)) rfl (ex_index rfl rfl rfl (run_idx1 (k := i) Tryz.underlying29 s9es29 (by omega))) (dL _ rfl (fun hv => ex_load rfl rfl (run_load1 s9na9 (hrdb2 _ _ _ (Base.Le.refl _) no_res hv 0 _ rfl))) ?_)
   refine dG (.bool false) rfl (ex_sneq rfl rfl rfl (decide_eq_false (fun h => h rfl))) (dE fun w12 hv => ?_)
   simp only [zP, po]
   refine tK k11 (cF rfl ?_)
   refine kS (bN ?_)
   refine tK k10 (rL ?_)
   refine xM (.int .i64 (i : Int)) rfl (xG (.int .i64 ((i + 1 : Nat) : Int)) rfl (ex_add rfl rfl rfl (by rw [i64_in (by omega)]; omega)) ?_)
   refine xA (.int .i64 ((i + 1 : Nat) : Int)) rfl (wL ?_)
   simp only [zP, po]
   refine then_normal ?_
   go_roundw
   case rel => exact ⟨i + 1, rfl, by omega, hv⟩
   case measure => show l.length - (((i + 1 : Nat) : Int)).toNat < l.length - ((i : Int)).toNat; omega
  refine xG (.bool false) rfl (ex_lss rfl rfl rfl (decide_eq_false hb9)) ?_
  simp only [zP, po]
  refine wK k8 (cF rfl ?_)
  refine xE (tX ?_)
  refine tX (bH ?_)
  refine tK k4 (sK fun _ k13 => ?_)
  refine rL (xA (.bool true) rfl ?_)
  simp only [zP, po]
  refine wK k13 (rR ?_)
  refine bR rfl rfl (⟨rfl, hv⟩)
set_option maxHeartbeats 2000000 in
theorem refPairs (B : Base) (H : List Res) (w : World) (ad ad' : Option Addr) (c c' : Nat) (l : List (List UInt8 × List UInt8)) (hr : RdV B [] ad (pairCells l)) (hr' : RdV B [] ad' (pairCells l)) (hm : l.length ≤ 1000000) (hv : Inv B H w) :
  Calls Tryz.prog 46 #[.slice ad l.length c, .slice ad' l.length c'] w fun e w' => e = .returned (.bool true) ∧ Inv B H w' := by
 refine cW Tryz.func46 rfl Tryz.ntmps46 ?_
 simp only [al]
 refine sK fun _ k1 => rL (xA (.bool false) rfl ?_)
 simp only [zP, po]
 refine wK k1 (sK fun _ k2 => ?_)
 refine sK fun _ k3 => rL (xM (.slice ad l.length c) rfl ?_)
 refine xG (.int .i64 (l.length : Int)) rfl (ex_len0 Tryz.underlying32 rfl rfl) (xM (.slice ad' l.length c') rfl ?_)
 simp only [zP, po]
 refine xG (.int .i64 (l.length : Int)) rfl (ex_len0 Tryz.underlying32 rfl rfl) (xG (.bool false) rfl (ex_neq rfl rfl rfl (decide_eq_false (fun h => h rfl))) ?_)
 simp only [zP, po]
 refine wK k3 (cF rfl ?_)
 refine kS (tK k2 ?_)
 refine sK fun _ k4 => sK fun _ k5 => rL (xA (.int .i64 0) rfl ?_)
 simp only [zP, po]
 refine wK k5 (bB ?_)
 gi_loopw [5] (fun x5 wr => ∃ (i : Nat), x5 = .int .i64 (i : Int) ∧ i ≤ l.length ∧ Inv B H wr) (fun x5 _ => l.length - (intOf x5).toNat)
 case atStart => exact ⟨0, rfl, Nat.zero_le _, hv⟩
 case round =>
  obtain ⟨i, rfl, hi, hv⟩ := hrel
  refine sK fun _ k7 => sK fun _ k8 => rL (xM (.int .i64 (i : Int)) rfl ?_)
  refine xM (.slice ad l.length c) rfl (xG (.int .i64 (l.length : Int)) rfl (ex_len0 Tryz.underlying32 rfl rfl) ?_)
  simp only [zP, po]
  by_cases hb9 : (i : Int) < (l.length : Int)
  ·refine xG (.bool true) rfl (ex_lss rfl rfl rfl (decide_eq_true hb9)) ?_
   simp only [zP, po]
   refine wK k8 (cT rfl ?_)
   refine kS (tK k7 ?_)
   refine sK fun _ k10 => bB (sK fun _ k11 => ?_)
   obtain ⟨x, hx⟩ : ∃ x, l[i]? = some x := ⟨_, List.getElem?_eq_getElem (show i < l.length by omega)⟩
   obtain ⟨bb, bo, had, hrdx⟩ := pair_reads hr hx
   subst had
   obtain ⟨b2, o2, hadb2, hrdb2⟩ := pair_reads hr' hx
   subst hadb2
   refine rW mixed [] [0,1,2,3,4,5,6,7,8] 26 rfl (by kernel_rfl) hv ?_
   simp only [qm, opAt]
   refine dM (.slice (some ⟨bb, bo, none⟩) l.length c) rfl (dM (.int .i64 (i : Int)) rfl ?_)
   refine dG (.pointer (some ⟨bb, bo + i * 2, none⟩)) rfl (ex_index rfl rfl rfl (run_idx (k := i) Tryz.underlying32 s10es32 (by omega))) ?_
   simp only [zP, po]
   refine dL (.agg #[.string ⟨x.1.toArray⟩, .string ⟨x.2.toArray⟩]) rfl (fun hv => ex_load rfl rfl (run_loadR (cs := [.string ⟨x.1.toArray⟩, .string ⟨x.2.toArray⟩]) s10wd97 (Reads.mid (pre := []) (mid := [.string ⟨x.1.toArray⟩, .string ⟨x.2.toArray⟩]) (post := []) hrdx _ _ _ (Base.Le.refl _) no_res hv))) (dM (.slice (some ⟨b2, o2, none⟩) l.length c') rfl ?_)
   refine dM (.int .i64 (i : Int)) rfl ?_
   simp only [zP, po]
   refine dG (.pointer (some ⟨b2, o2 + i * 2, none⟩)) rfl (ex_index rfl rfl rfl (run_idx (k := i) Tryz.underlying32 s10es32 (by omega))) (dL (.agg #[.string ⟨x.1.toArray⟩, .string ⟨x.2.toArray⟩]) rfl (fun hv => ex_load rfl rfl (run_loadR (cs := [.string ⟨x.1.toArray⟩, .string ⟨x.2.toArray⟩]) s10wd97 (Reads.mid (pre := []) (mid := [.string ⟨x.1.toArray⟩, .string ⟨x.2.toArray⟩]) (post := []) hrdb2 _ _ _ (Base.Le.refl _) no_res hv))) ?_)
   refine dG (.bool false) rfl (ex_neqSame (L := [.string ⟨x.1.toArray⟩, .string ⟨x.2.toArray⟩]) rfl rfl rfl (by kernel_rfl) (fun w => pairEq 9998 w x.1 x.2)) (dE fun w12 hv => ?_)
   simp only [zP, po]
   refine tK k11 (cF rfl ?_)
   refine kS (bN ?_)
   refine tK k10 (rL ?_)
   refine xM (.int .i64 (i : Int)) rfl (xG (.int .i64 ((i + 1 : Nat) : Int)) rfl (ex_add rfl rfl rfl (by rw [i64_in (by omega)]; omega)) ?_)
   refine xA (.int .i64 ((i + 1 : Nat) : Int)) rfl (wL ?_)
   simp only [zP, po]
   refine then_normal ?_
   go_roundw
   case rel => exact ⟨i + 1, rfl, by omega, hv⟩
   case measure => show l.length - (((i + 1 : Nat) : Int)).toNat < l.length - ((i : Int)).toNat; omega
  refine xG (.bool false) rfl (ex_lss rfl rfl rfl (decide_eq_false hb9)) ?_
  simp only [zP, po]
  refine wK k8 (cF rfl ?_)
  refine xE (tX ?_)
  refine tX (bH ?_)
  refine tK k4 (sK fun _ k13 => ?_)
  refine rL (xA (.bool true) rfl ?_)
  simp only [zP, po]
  refine wK k13 (rR ?_)
  refine bR rfl rfl (⟨rfl, hv⟩)
set_option maxHeartbeats 2000000 in
theorem refMems (B : Base) (H : List Res) (w : World) (ad ad' : Option Addr) (c c' : Nat) (l : List (Int × List UInt8)) (hr : RdV B [] ad (memCells l)) (hr' : RdV B [] ad' (memCells l)) (hm : l.length ≤ 1000000) (hv : Inv B H w) :
  Calls Tryz.prog 47 #[.slice ad l.length c, .slice ad' l.length c'] w fun e w' => e = .returned (.bool true) ∧ Inv B H w' := by
 refine cW Tryz.func47 rfl Tryz.ntmps47 ?_
 simp only [al]
 refine sK fun _ k1 => rL (xA (.bool false) rfl ?_)
 simp only [zP, po]
 refine wK k1 (sK fun _ k2 => ?_)
 refine sK fun _ k3 => rL (xM (.slice ad l.length c) rfl ?_)
 refine xG (.int .i64 (l.length : Int)) rfl (ex_len0 Tryz.underlying33 rfl rfl) (xM (.slice ad' l.length c') rfl ?_)
 simp only [zP, po]
 refine xG (.int .i64 (l.length : Int)) rfl (ex_len0 Tryz.underlying33 rfl rfl) (xG (.bool false) rfl (ex_neq rfl rfl rfl (decide_eq_false (fun h => h rfl))) ?_)
 simp only [zP, po]
 refine wK k3 (cF rfl ?_)
 refine kS (tK k2 ?_)
 refine sK fun _ k4 => sK fun _ k5 => rL (xA (.int .i64 0) rfl ?_)
 simp only [zP, po]
 refine wK k5 (bB ?_)
 gi_loopw [5] (fun x5 wr => ∃ (i : Nat), x5 = .int .i64 (i : Int) ∧ i ≤ l.length ∧ Inv B H wr) (fun x5 _ => l.length - (intOf x5).toNat)
 case atStart => exact ⟨0, rfl, Nat.zero_le _, hv⟩
 case round =>
  obtain ⟨i, rfl, hi, hv⟩ := hrel
  refine sK fun _ k7 => sK fun _ k8 => rL (xM (.int .i64 (i : Int)) rfl ?_)
  refine xM (.slice ad l.length c) rfl (xG (.int .i64 (l.length : Int)) rfl (ex_len0 Tryz.underlying33 rfl rfl) ?_)
  simp only [zP, po]
  by_cases hb9 : (i : Int) < (l.length : Int)
  ·refine xG (.bool true) rfl (ex_lss rfl rfl rfl (decide_eq_true hb9)) ?_
   simp only [zP, po]
   refine wK k8 (cT rfl ?_)
   refine kS (tK k7 ?_)
   refine sK fun _ k10 => bB (sK fun _ k11 => ?_)
   obtain ⟨x, hx⟩ : ∃ x, l[i]? = some x := ⟨_, List.getElem?_eq_getElem (show i < l.length by omega)⟩
   obtain ⟨bb, bo, had, hrdx⟩ := mem_reads hr hx
   subst had
   obtain ⟨b2, o2, hadb2, hrdb2⟩ := mem_reads hr' hx
   subst hadb2
   refine rW mixed [] [0,1,2,3,4,5,6,7,8] 26 rfl (by kernel_rfl) hv ?_
   simp only [qm, opAt]
   refine dM (.slice (some ⟨bb, bo, none⟩) l.length c) rfl (dM (.int .i64 (i : Int)) rfl ?_)
   refine dG (.pointer (some ⟨bb, bo + i * 2, none⟩)) rfl (ex_index rfl rfl rfl (run_idx (k := i) Tryz.underlying33 s9es33 (by omega))) ?_
   simp only [zP, po]
   refine dL (.agg #[.int .i64 x.1, .string ⟨x.2.toArray⟩]) rfl (fun hv => ex_load rfl rfl (run_loadR (cs := [.int .i64 x.1, .string ⟨x.2.toArray⟩]) s9wd99 (Reads.mid (pre := []) (mid := [.int .i64 x.1, .string ⟨x.2.toArray⟩]) (post := []) hrdx _ _ _ (Base.Le.refl _) no_res hv))) (dM (.slice (some ⟨b2, o2, none⟩) l.length c') rfl ?_)
   refine dM (.int .i64 (i : Int)) rfl ?_
   simp only [zP, po]
   refine dG (.pointer (some ⟨b2, o2 + i * 2, none⟩)) rfl (ex_index rfl rfl rfl (run_idx (k := i) Tryz.underlying33 s9es33 (by omega))) (dL (.agg #[.int .i64 x.1, .string ⟨x.2.toArray⟩]) rfl (fun hv => ex_load rfl rfl (run_loadR (cs := [.int .i64 x.1, .string ⟨x.2.toArray⟩]) s9wd99 (Reads.mid (pre := []) (mid := [.int .i64 x.1, .string ⟨x.2.toArray⟩]) (post := []) hrdb2 _ _ _ (Base.Le.refl _) no_res hv))) ?_)
   refine dG (.bool false) rfl (ex_neqSame (L := [.int .i64 x.1, .string ⟨x.2.toArray⟩]) rfl rfl rfl (by kernel_rfl) (fun w => memEq 9998 w x.1 x.2)) (dE fun w12 hv => ?_)
   simp only [zP, po]
   refine tK k11 (cF rfl ?_)
   refine kS (bN ?_)
   refine tK k10 (rL ?_)
   refine xM (.int .i64 (i : Int)) rfl (xG (.int .i64 ((i + 1 : Nat) : Int)) rfl (ex_add rfl rfl rfl (by rw [i64_in (by omega)]; omega)) ?_)
   refine xA (.int .i64 ((i + 1 : Nat) : Int)) rfl (wL ?_)
   simp only [zP, po]
   refine then_normal ?_
   go_roundw
   case rel => exact ⟨i + 1, rfl, by omega, hv⟩
   case measure => show l.length - (((i + 1 : Nat) : Int)).toNat < l.length - ((i : Int)).toNat; omega
  refine xG (.bool false) rfl (ex_lss rfl rfl rfl (decide_eq_false hb9)) ?_
  simp only [zP, po]
  refine wK k8 (cF rfl ?_)
  refine xE (tX ?_)
  refine tX (bH ?_)
  refine tK k4 (sK fun _ k13 => ?_)
  refine rL (xA (.bool true) rfl ?_)
  simp only [zP, po]
  refine wK k13 (rR ?_)
  refine bR rfl rfl (⟨rfl, hv⟩)
theorem s18callable46 : Callable Tryz.prog 46 := ⟨_, Tryz.func46, by kernel_rfl, by kernel_rfl⟩
theorem s18callable18 : Callable Tryz.prog 18 := ⟨_, Tryz.func18, by kernel_rfl, by kernel_rfl⟩
theorem s18callable47 : Callable Tryz.prog 47 := ⟨_, Tryz.func47, by kernel_rfl, by kernel_rfl⟩
set_option maxHeartbeats 2000000 in
theorem refSame0 (B : Base) (H : List Res) (w : World) (v : Val) (ap at2 az ap' at2' az' : Option Addr) (cp ct cz cp' ct' cz' : Nat) (hrp : RdV B [] ap (pairCells v.pairs)) (hrt : RdV B [] at2 (textCells v.texts)) (hrz : RdV B [] az (memCells v.zset)) (hrp' : RdV B [] ap' (pairCells v.pairs)) (hrt' : RdV B [] at2' (textCells v.texts)) (hrz' : RdV B [] az' (memCells v.zset)) (hpm : v.pairs.length ≤ 1000000) (htm : v.texts.length ≤ 1000000) (hzm : v.zset.length ≤ 1000000) (hv : Inv B H w) :
  Calls Tryz.prog 16 #[.agg #[.int .i64 v.kind, .string ⟨v.text.toArray⟩, .slice ap v.pairs.length cp, .slice at2 v.texts.length ct, .slice az v.zset.length cz], .agg #[.int .i64 v.kind, .string ⟨v.text.toArray⟩, .slice ap' v.pairs.length cp', .slice at2' v.texts.length ct', .slice az' v.zset.length cz']] w fun e w' => e = .returned (.bool true) ∧ Inv B H w' := by
 refine cW Tryz.func16 rfl Tryz.ntmps16 ?_
 simp only [al]
 refine sK fun _ k1 => rL (sl_box (L := [.int .i64 v.kind, .string ⟨v.text.toArray⟩, .slice ap v.pairs.length cp, .slice at2 v.texts.length ct, .slice az v.zset.length cz]) tV (wn rfl) rfl rfl hv (fun w => by kernel_rfl) (fun b2 w3 hv => ?_))
 refine sl_box (L := [.int .i64 v.kind, .string ⟨v.text.toArray⟩, .slice ap' v.pairs.length cp', .slice at2' v.texts.length ct', .slice az' v.zset.length cz']) tV (wn rfl) rfl rfl hv (fun w => by kernel_rfl) (fun b4 w5 hv => ?_)
 refine xA (.bool false) rfl ?_
 simp only [zP, po]
 refine wK k1 (sK fun _ k6 => ?_)
 refine rL (xF (.pointer (some ⟨b2, 0, none⟩)) rfl (s12fa35_0 _ _ _) ?_)
 refine xL _ rfl (run_load1 s2na3 (hv.load 1 0 rfl rfl)) (xF (.pointer (some ⟨b4, 0, none⟩)) rfl (s12fa35_0 _ _ _) ?_)
 simp only [zP, po]
 refine xL _ rfl (run_load1 s2na3 (hv.load 0 0 rfl rfl)) (xG (.bool true) rfl (ex_eql rfl rfl rfl (decide_eq_true (rfl))) ?_)
 refine xM (.bool true) rfl ?_
 simp only [zP, po]
 refine xF (.pointer (some ⟨b2, 1, none⟩)) rfl (s12fa35_1 _ _ _) (xL _ rfl (run_load1 s9na9 (hv.load 1 1 rfl rfl)) ?_)
 refine xF (.pointer (some ⟨b4, 1, none⟩)) rfl (s12fa35_1 _ _ _) ?_
 simp only [zP, po]
 refine xL _ rfl (run_load1 s9na9 (hv.load 0 1 rfl rfl)) (xG (.bool true) rfl (ex_seql rfl rfl rfl (decide_eq_true (rfl))) ?_)
 refine xK true (.bool true) rfl ?_
 simp only [zP, po]
 refine xM (.bool true) rfl (xF (.pointer (some ⟨b2, 2, none⟩)) rfl (s1fa35_2 _ _ _) ?_)
 refine xL _ rfl (run_load1 s1na32 (hv.load 1 2 rfl rfl)) ?_
 simp only [zP, po]
 refine xF (.pointer (some ⟨b4, 2, none⟩)) rfl (s1fa35_2 _ _ _) (xL _ rfl (run_load1 s1na32 (hv.load 0 2 rfl rfl)) ?_)
 refine xC s18callable46 rfl ((refPairs B _ _ _ _ _ _ _ hrp hrp' (by omega) hv).mono ?_) rfl
 rintro e w7 ⟨rfl, hv⟩
 refine ⟨_, rfl, ?_⟩
 simp only [zP, po]
 refine xK true (.bool true) rfl (xM (.bool true) rfl ?_)
 refine xF (.pointer (some ⟨b2, 3, none⟩)) rfl (s1fa35_3 _ _ _) ?_
 simp only [zP, po]
 refine xL _ rfl (run_load1 s1na29 (hv.load 1 3 rfl rfl)) (xF (.pointer (some ⟨b4, 3, none⟩)) rfl (s1fa35_3 _ _ _) ?_)
 refine xL _ rfl (run_load1 s1na29 (hv.load 0 3 rfl rfl)) ?_
 simp only [zP, po]
 refine xC s18callable18 rfl ((refWords B _ _ _ _ _ _ _ hrt hrt' (by omega) hv).mono ?_) rfl
 rintro e w8 ⟨rfl, hv⟩
 refine ⟨_, rfl, ?_⟩
 refine xK true (.bool true) rfl (xM (.bool true) rfl ?_)
 simp only [zP, po]
 refine xF (.pointer (some ⟨b2, 4, none⟩)) rfl (s1fa35_4 _ _ _) (xL _ rfl (run_load1 s1na33 (hv.load 1 4 rfl rfl)) ?_)
 refine xF (.pointer (some ⟨b4, 4, none⟩)) rfl (s1fa35_4 _ _ _) ?_
 simp only [zP, po]
 refine xL _ rfl (run_load1 s1na33 (hv.load 0 4 rfl rfl)) (xC s18callable47 rfl ((refMems B _ _ _ _ _ _ _ hrz hrz' (by omega) hv).mono ?_) rfl)
 rintro e w9 ⟨rfl, hv⟩
 refine ⟨_, rfl, ?_⟩
 refine xK true (.bool true) rfl ?_
 simp only [zP, po]
 refine xA (.bool true) rfl ?_
 simp only [zP, po]
 refine wK k6 (rR ?_)
 refine bR rfl rfl (⟨rfl, (hv.sub (List.Sublist.cons _ (List.Sublist.cons _ (List.Sublist.refl _))))⟩)
theorem refSameV (B : Base) (H : List Res) (w : World) (v : Val) (p t z p' t' z' : Value) (h : ValRd B v p t z) (h' : ValRd B v p' t' z') (hpm : v.pairs.length ≤ 1000000) (htm : v.texts.length ≤ 1000000) (hzm : v.zset.length ≤ 1000000) (hv : Inv B H w) : Calls Tryz.prog 16 #[.agg (valCells v p t z).toArray, .agg (valCells v p' t' z').toArray] w fun e w' => e = .returned (.bool true) ∧ Inv B H w' := by
 obtain ⟨⟨ap, cp, rfl, -, hrp⟩, ⟨at2, ct, rfl, -, hrt⟩, ⟨az, cz, rfl, -, hrz⟩⟩ := h
 obtain ⟨⟨ap', cp', rfl, -, hrp'⟩, ⟨at2', ct', rfl, -, hrt'⟩, ⟨az', cz', rfl, -, hrz'⟩⟩ := h'
 exact refSame0 B H w v ap at2 az ap' at2' az' cp ct cz cp' ct' cz' hrp hrt hrz hrp' hrt' hrz' hpm htm hzm hv
set_option maxHeartbeats 4000000 in
theorem refSmall0 (B : Base) (H : List Res) (w : World) (v : Val) (ap at2 az : Option Addr) (cp ct cz : Nat) (hrp : RdV B [] ap (pairCells v.pairs)) (hrt : RdV B [] at2 (textCells v.texts)) (hrz : RdV B [] az (memCells v.zset)) (hv : Inv B H w) :
  Calls Tryz.prog 8 #[.agg #[.int .i64 v.kind, .string ⟨v.text.toArray⟩, .slice ap v.pairs.length cp, .slice at2 v.texts.length ct, .slice az v.zset.length cz]] w fun e w' => ∃ b, e = .returned (.bool b) ∧ (b = true → ValSm v) ∧ Inv B H w' := by
 refine cW Tryz.func8 rfl Tryz.ntmps8 ?_
 simp only [al]
 refine sK fun _ k1 => rL (sl_box (L := [.int .i64 v.kind, .string ⟨v.text.toArray⟩, .slice ap v.pairs.length cp, .slice at2 v.texts.length ct, .slice az v.zset.length cz]) tV (wn rfl) rfl rfl hv (fun w => by kernel_rfl) (fun b2 w3 hv => ?_))
 refine xA (.bool false) rfl ?_
 simp only [zP, po]
 refine wK k1 (sK fun _ k4 => ?_)
 refine sK fun _ k5 => rL (xF (.pointer (some ⟨b2, 1, none⟩)) rfl (s12fa35_1 _ _ _) ?_)
 refine xL _ rfl (run_load1 s9na9 (hv.load 0 1 rfl rfl)) (xG (.int .i64 (v.text.length : Int)) rfl (ex_lenStr Tryz.underlying9 rfl rfl) ?_)
 simp only [zP, po]
 by_cases hb6 : (v.text.length : Int) > 5000
 ·refine xG (.bool true) rfl (ex_gtr rfl rfl rfl (decide_eq_true hb6)) (xM (.bool true) rfl ?_)
  iterate 4 refine yN rfl ?_
  refine xK true (.bool true) rfl ?_
  simp only [zP, po]
  refine xM (.bool true) rfl ?_
  iterate 4 refine yN rfl ?_
  refine xK true (.bool true) rfl (xM (.bool true) rfl ?_)
  simp only [zP, po]
  iterate 4 refine yN rfl ?_
  refine xK true (.bool true) rfl ?_
  simp only [zP, po]
  refine wK k5 (cT rfl ?_)
  refine sK fun _ k7 => rL (xA (.bool false) rfl ?_)
  simp only [zP, po]
  refine wK k7 (rR ?_)
  refine tR (bR rfl rfl ?_)
  exact ⟨false, rfl, fun h => (by cases h), (hv.sub (List.Sublist.cons _ (List.Sublist.refl _)))⟩
 refine xG (.bool false) rfl (ex_gtr rfl rfl rfl (decide_eq_false hb6)) (xM (.bool false) rfl ?_)
 refine xF (.pointer (some ⟨b2, 2, none⟩)) rfl (s1fa35_2 _ _ _) ?_
 simp only [zP, po]
 refine xL _ rfl (run_load1 s1na32 (hv.load 0 2 rfl rfl)) (xG (.int .i64 (v.pairs.length : Int)) rfl (ex_len0 Tryz.underlying32 rfl rfl) ?_)
 by_cases hb8 : (v.pairs.length : Int) > 60
 ·refine xG (.bool true) rfl (ex_gtr rfl rfl rfl (decide_eq_true hb8)) ?_
  simp only [zP, po]
  refine xK false (.bool true) rfl (xM (.bool true) rfl ?_)
  iterate 4 refine yN rfl ?_
  refine xK true (.bool true) rfl ?_
  simp only [zP, po]
  refine xM (.bool true) rfl ?_
  iterate 4 refine yN rfl ?_
  refine xK true (.bool true) rfl ?_
  simp only [zP, po]
  refine wK k5 (cT rfl ?_)
  refine sK fun _ k9 => rL (xA (.bool false) rfl ?_)
  simp only [zP, po]
  refine wK k9 (rR ?_)
  refine tR (bR rfl rfl ?_)
  exact ⟨false, rfl, fun h => (by cases h), (hv.sub (List.Sublist.cons _ (List.Sublist.refl _)))⟩
 refine xG (.bool false) rfl (ex_gtr rfl rfl rfl (decide_eq_false hb8)) ?_
 simp only [zP, po]
 refine xK false (.bool false) rfl (xM (.bool false) rfl ?_)
 refine xF (.pointer (some ⟨b2, 3, none⟩)) rfl (s1fa35_3 _ _ _) ?_
 simp only [zP, po]
 refine xL _ rfl (run_load1 s1na29 (hv.load 0 3 rfl rfl)) (xG (.int .i64 (v.texts.length : Int)) rfl (ex_len0 Tryz.underlying29 rfl rfl) ?_)
 by_cases hb10 : (v.texts.length : Int) > 600
 ·refine xG (.bool true) rfl (ex_gtr rfl rfl rfl (decide_eq_true hb10)) ?_
  simp only [zP, po]
  refine xK false (.bool true) rfl (xM (.bool true) rfl ?_)
  iterate 4 refine yN rfl ?_
  refine xK true (.bool true) rfl ?_
  simp only [zP, po]
  refine wK k5 (cT rfl ?_)
  refine sK fun _ k11 => rL (xA (.bool false) rfl ?_)
  simp only [zP, po]
  refine wK k11 (rR ?_)
  refine tR (bR rfl rfl ?_)
  exact ⟨false, rfl, fun h => (by cases h), (hv.sub (List.Sublist.cons _ (List.Sublist.refl _)))⟩
 refine xG (.bool false) rfl (ex_gtr rfl rfl rfl (decide_eq_false hb10)) ?_
 simp only [zP, po]
 refine xK false (.bool false) rfl (xM (.bool false) rfl ?_)
 refine xF (.pointer (some ⟨b2, 4, none⟩)) rfl (s1fa35_4 _ _ _) ?_
 simp only [zP, po]
 refine xL _ rfl (run_load1 s1na33 (hv.load 0 4 rfl rfl)) (xG (.int .i64 (v.zset.length : Int)) rfl (ex_len0 Tryz.underlying33 rfl rfl) ?_)
 by_cases hb12 : (v.zset.length : Int) > 60
 ·refine xG (.bool true) rfl (ex_gtr rfl rfl rfl (decide_eq_true hb12)) ?_
  simp only [zP, po]
  refine xK false (.bool true) rfl ?_
  simp only [zP, po]
  refine wK k5 (cT rfl ?_)
  refine sK fun _ k13 => rL (xA (.bool false) rfl ?_)
  simp only [zP, po]
  refine wK k13 (rR ?_)
  refine tR (bR rfl rfl ?_)
  exact ⟨false, rfl, fun h => (by cases h), (hv.sub (List.Sublist.cons _ (List.Sublist.refl _)))⟩
 refine xG (.bool false) rfl (ex_gtr rfl rfl rfl (decide_eq_false hb12)) ?_
 simp only [zP, po]
 refine xK false (.bool false) rfl ?_
 simp only [zP, po]
 refine wK k5 (cF rfl ?_)
 refine kS (tK k4 ?_)
 refine sK fun _ k14 => sK fun _ k15 => rL (xA (.int .i64 0) rfl ?_)
 simp only [zP, po]
 refine wK k15 (bB ?_)
 gi_loopw [3] (fun x3 wr => ∃ (i : Nat), x3 = .int .i64 (i : Int) ∧ i ≤ v.pairs.length ∧ Inv B (Res.cell b2 [.int .i64 v.kind, .string ⟨v.text.toArray⟩, .slice ap v.pairs.length cp, .slice at2 v.texts.length ct, .slice az v.zset.length cz] 35 :: H) wr) (fun x3 _ => v.pairs.length - (intOf x3).toNat)
 case atStart => exact ⟨0, rfl, Nat.zero_le _, hv⟩
 case round =>
  obtain ⟨i, rfl, hi, hv⟩ := hrel
  refine sK fun _ k17 => sK fun _ k18 => rL (xM (.int .i64 (i : Int)) rfl ?_)
  refine xF (.pointer (some ⟨b2, 2, none⟩)) rfl (s1fa35_2 _ _ _) (xL _ rfl (run_load1 s1na32 (hv.load 0 2 rfl rfl)) ?_)
  simp only [zP, po]
  refine xG (.int .i64 (v.pairs.length : Int)) rfl (ex_len0 Tryz.underlying32 rfl rfl) ?_
  by_cases hb19 : (i : Int) < (v.pairs.length : Int)
  ·refine xG (.bool true) rfl (ex_lss rfl rfl rfl (decide_eq_true hb19)) ?_
   simp only [zP, po]
   refine wK k18 (cT rfl ?_)
   refine kS (tK k17 ?_)
   refine sK fun _ k20 => bB (sK fun _ k21 => ?_)
   obtain ⟨x, hx⟩ : ∃ x, v.pairs[i]? = some x := ⟨_, List.getElem?_eq_getElem (show i < v.pairs.length by omega)⟩
   obtain ⟨bb, bo, had, hrdx⟩ := pair_reads hrp hx
   subst had
   refine rL (xF (.pointer (some ⟨b2, 2, none⟩)) rfl (s1fa35_2 _ _ _) ?_)
   refine xL _ rfl (run_load1 s1na32 (hv.load 0 2 rfl rfl)) (xM (.int .i64 (i : Int)) rfl ?_)
   simp only [zP, po]
   refine xG (.pointer (some ⟨bb, bo + i * 2, none⟩)) rfl (ex_index rfl rfl rfl (run_idx (k := i) Tryz.underlying32 s10es32 (by omega))) (xF (.pointer (some ⟨bb, bo + i * 2, none⟩)) rfl (s10fa97_0 _ _ _) ?_)
   refine xL _ rfl (run_load1 s9na9 (hrdx _ _ _ (Base.Le.refl _) no_res hv 0 _ rfl)) ?_
   simp only [zP, po]
   refine xG (.int .i64 (x.1.length : Int)) rfl (ex_lenStr Tryz.underlying9 rfl rfl) ?_
   by_cases hb22 : (x.1.length : Int) > 200
   ·refine xG (.bool true) rfl (ex_gtr rfl rfl rfl (decide_eq_true hb22)) (xM (.bool true) rfl ?_)
    simp only [zP, po]
    refine yP rfl (yP rfl ?_)
    refine yP rfl ?_
    simp only [zP, po]
    refine yP rfl (yP rfl ?_)
    refine yP rfl ?_
    simp only [zP, po]
    refine yP rfl (yP rfl ?_)
    refine xK true (.bool true) rfl ?_
    simp only [zP, po]
    refine wK k21 (cT rfl ?_)
    refine sK fun _ k23 => rL (xA (.bool false) rfl ?_)
    simp only [zP, po]
    refine wK k23 (rR ?_)
    refine bE (tR ?_)
    refine tR (bE ?_)
    refine tR (bR rfl rfl ?_)
    exact ⟨false, rfl, fun h => (by cases h), (hv.sub (List.Sublist.cons _ (List.Sublist.refl _)))⟩
   refine xG (.bool false) rfl (ex_gtr rfl rfl rfl (decide_eq_false hb22)) (xM (.bool false) rfl ?_)
   simp only [zP, po]
   refine xF (.pointer (some ⟨b2, 2, none⟩)) rfl (s1fa35_2 _ _ _) (xL _ rfl (run_load1 s1na32 (hv.load 0 2 rfl rfl)) ?_)
   refine xM (.int .i64 (i : Int)) rfl ?_
   simp only [zP, po]
   refine xG (.pointer (some ⟨bb, bo + i * 2, none⟩)) rfl (ex_index rfl rfl rfl (run_idx (k := i) Tryz.underlying32 s10es32 (by omega))) (xF (.pointer (some ⟨bb, bo + i * 2 + 1, none⟩)) rfl (s10fa97_1 _ _ _) ?_)
   refine xL _ rfl (run_load1 s9na9 (hrdx _ _ _ (Base.Le.refl _) no_res hv 1 _ rfl)) ?_
   simp only [zP, po]
   refine xG (.int .i64 (x.2.length : Int)) rfl (ex_lenStr Tryz.underlying9 rfl rfl) ?_
   by_cases hb24 : (x.2.length : Int) > 5000
   ·refine xG (.bool true) rfl (ex_gtr rfl rfl rfl (decide_eq_true hb24)) (xK false (.bool true) rfl ?_)
    simp only [zP, po]
    refine wK k21 (cT rfl ?_)
    refine sK fun _ k25 => rL (xA (.bool false) rfl ?_)
    simp only [zP, po]
    refine wK k25 (rR ?_)
    refine bE (tR ?_)
    refine tR (bE ?_)
    refine tR (bR rfl rfl ?_)
    exact ⟨false, rfl, fun h => (by cases h), (hv.sub (List.Sublist.cons _ (List.Sublist.refl _)))⟩
   refine xG (.bool false) rfl (ex_gtr rfl rfl rfl (decide_eq_false hb24)) (xK false (.bool false) rfl ?_)
   simp only [zP, po]
   refine wK k21 (cF rfl ?_)
   refine kS (bN ?_)
   refine tK k20 (rL ?_)
   refine xM (.int .i64 (i : Int)) rfl (xG (.int .i64 ((i + 1 : Nat) : Int)) rfl (ex_add rfl rfl rfl (by rw [i64_in (by omega)]; omega)) ?_)
   refine xA (.int .i64 ((i + 1 : Nat) : Int)) rfl (wL ?_)
   simp only [zP, po]
   refine then_normal ?_
   go_roundw
   case rel => exact ⟨i + 1, rfl, by omega, hv⟩
   case measure => show v.pairs.length - (((i + 1 : Nat) : Int)).toNat < v.pairs.length - ((i : Int)).toNat; omega
  refine xG (.bool false) rfl (ex_lss rfl rfl rfl (decide_eq_false hb19)) ?_
  simp only [zP, po]
  refine wK k18 (cF rfl ?_)
  refine xE (tX ?_)
  refine tX (bH ?_)
  refine tK k14 (sK fun _ k26 => ?_)
  refine sK fun _ k27 => rL (xA (.int .i64 0) rfl ?_)
  simp only [zP, po]
  refine wK k27 (bB ?_)
  gi_loopw [4] (fun x4 wr => ∃ (i : Nat), x4 = .int .i64 (i : Int) ∧ i ≤ v.texts.length ∧ Inv B (Res.cell b2 [.int .i64 v.kind, .string ⟨v.text.toArray⟩, .slice ap v.pairs.length cp, .slice at2 v.texts.length ct, .slice az v.zset.length cz] 35 :: H) wr) (fun x4 _ => v.texts.length - (intOf x4).toNat)
  case atStart => exact ⟨0, rfl, Nat.zero_le _, hv⟩
  case round =>
   obtain ⟨i, rfl, hi, hv⟩ := hrel
   refine sK fun _ k29 => sK fun _ k30 => rL (xM (.int .i64 (i : Int)) rfl ?_)
   refine xF (.pointer (some ⟨b2, 3, none⟩)) rfl (s1fa35_3 _ _ _) (xL _ rfl (run_load1 s1na29 (hv.load 0 3 rfl rfl)) ?_)
   simp only [zP, po]
   refine xG (.int .i64 (v.texts.length : Int)) rfl (ex_len0 Tryz.underlying29 rfl rfl) ?_
   by_cases hb31 : (i : Int) < (v.texts.length : Int)
   ·refine xG (.bool true) rfl (ex_lss rfl rfl rfl (decide_eq_true hb31)) ?_
    simp only [zP, po]
    refine wK k30 (cT rfl ?_)
    refine kS (tK k29 ?_)
    refine sK fun _ k32 => bB (sK fun _ k33 => ?_)
    obtain ⟨x, hx⟩ : ∃ x, v.texts[i]? = some x := ⟨_, List.getElem?_eq_getElem (show i < v.texts.length by omega)⟩
    obtain ⟨b3, o3, had, hrdx⟩ := text_reads hrt hx
    subst had
    refine rL (xF (.pointer (some ⟨b2, 3, none⟩)) rfl (s1fa35_3 _ _ _) ?_)
    refine xL _ rfl (run_load1 s1na29 (hv.load 0 3 rfl rfl)) (xM (.int .i64 (i : Int)) rfl ?_)
    simp only [zP, po]
    refine xG (.pointer (some ⟨b3, o3 + i, none⟩)) rfl (ex_index rfl rfl rfl (run_idx1 (k := i) Tryz.underlying29 s9es29 (by omega))) (xL _ rfl (run_load1 s9na9 (hrdx _ _ _ (Base.Le.refl _) no_res hv 0 _ rfl)) ?_)
    refine xG (.int .i64 (x.length : Int)) rfl (ex_lenStr Tryz.underlying9 rfl rfl) ?_
    simp only [zP, po]
    by_cases hb34 : (x.length : Int) > 200
    ·refine xG (.bool true) rfl (ex_gtr rfl rfl rfl (decide_eq_true hb34)) ?_
     simp only [zP, po]
     refine wK k33 (cT rfl ?_)
     refine sK fun _ k35 => rL (xA (.bool false) rfl ?_)
     simp only [zP, po]
     refine wK k35 (rR ?_)
     refine bE (tR ?_)
     refine tR (bE ?_)
     refine tR (bR rfl rfl ?_)
     exact ⟨false, rfl, fun h => (by cases h), (hv.sub (List.Sublist.cons _ (List.Sublist.refl _)))⟩
    refine xG (.bool false) rfl (ex_gtr rfl rfl rfl (decide_eq_false hb34)) ?_
    simp only [zP, po]
    refine wK k33 (cF rfl ?_)
    refine kS (bN ?_)
    refine tK k32 (rL ?_)
    refine xM (.int .i64 (i : Int)) rfl (xG (.int .i64 ((i + 1 : Nat) : Int)) rfl (ex_add rfl rfl rfl (by rw [i64_in (by omega)]; omega)) ?_)
    refine xA (.int .i64 ((i + 1 : Nat) : Int)) rfl (wL ?_)
    simp only [zP, po]
    refine then_normal ?_
    go_roundw
    case rel => exact ⟨i + 1, rfl, by omega, hv⟩
    case measure => show v.texts.length - (((i + 1 : Nat) : Int)).toNat < v.texts.length - ((i : Int)).toNat; omega
   refine xG (.bool false) rfl (ex_lss rfl rfl rfl (decide_eq_false hb31)) ?_
   simp only [zP, po]
   refine wK k30 (cF rfl ?_)
   refine xE (tX ?_)
   refine tX (bH ?_)
   refine tK k26 (sK fun _ k36 => ?_)
   refine sK fun _ k37 => rL (xA (.int .i64 0) rfl ?_)
   simp only [zP, po]
   refine wK k37 (bB ?_)
   gi_loopw [5] (fun x5 wr => ∃ (i : Nat), x5 = .int .i64 (i : Int) ∧ i ≤ v.zset.length ∧ Inv B (Res.cell b2 [.int .i64 v.kind, .string ⟨v.text.toArray⟩, .slice ap v.pairs.length cp, .slice at2 v.texts.length ct, .slice az v.zset.length cz] 35 :: H) wr) (fun x5 _ => v.zset.length - (intOf x5).toNat)
   case atStart => exact ⟨0, rfl, Nat.zero_le _, hv⟩
   case round =>
    obtain ⟨i, rfl, hi, hv⟩ := hrel
    refine sK fun _ k39 => sK fun _ k40 => rL (xM (.int .i64 (i : Int)) rfl ?_)
    refine xF (.pointer (some ⟨b2, 4, none⟩)) rfl (s1fa35_4 _ _ _) (xL _ rfl (run_load1 s1na33 (hv.load 0 4 rfl rfl)) ?_)
    simp only [zP, po]
    refine xG (.int .i64 (v.zset.length : Int)) rfl (ex_len0 Tryz.underlying33 rfl rfl) ?_
    by_cases hb41 : (i : Int) < (v.zset.length : Int)
    ·refine xG (.bool true) rfl (ex_lss rfl rfl rfl (decide_eq_true hb41)) ?_
     simp only [zP, po]
     refine wK k40 (cT rfl ?_)
     refine kS (tK k39 ?_)
     refine sK fun _ k42 => bB (sK fun _ k43 => ?_)
     obtain ⟨x, hx⟩ : ∃ x, v.zset[i]? = some x := ⟨_, List.getElem?_eq_getElem (show i < v.zset.length by omega)⟩
     obtain ⟨b4, o4, had, hrdx⟩ := mem_reads hrz hx
     subst had
     refine rL (xF (.pointer (some ⟨b2, 4, none⟩)) rfl (s1fa35_4 _ _ _) ?_)
     refine xL _ rfl (run_load1 s1na33 (hv.load 0 4 rfl rfl)) (xM (.int .i64 (i : Int)) rfl ?_)
     simp only [zP, po]
     refine xG (.pointer (some ⟨b4, o4 + i * 2, none⟩)) rfl (ex_index rfl rfl rfl (run_idx (k := i) Tryz.underlying33 s9es33 (by omega))) (xF (.pointer (some ⟨b4, o4 + i * 2 + 1, none⟩)) rfl (s9fa99_1 _ _ _) ?_)
     refine xL _ rfl (run_load1 s9na9 (hrdx _ _ _ (Base.Le.refl _) no_res hv 1 _ rfl)) ?_
     simp only [zP, po]
     refine xG (.int .i64 (x.2.length : Int)) rfl (ex_lenStr Tryz.underlying9 rfl rfl) ?_
     by_cases hb44 : (x.2.length : Int) > 200
     ·refine xG (.bool true) rfl (ex_gtr rfl rfl rfl (decide_eq_true hb44)) ?_
      simp only [zP, po]
      refine wK k43 (cT rfl ?_)
      refine sK fun _ k45 => rL (xA (.bool false) rfl ?_)
      simp only [zP, po]
      refine wK k45 (rR ?_)
      refine bE (tR ?_)
      refine tR (bE ?_)
      refine tR (bR rfl rfl ?_)
      exact ⟨false, rfl, fun h => (by cases h), (hv.sub (List.Sublist.cons _ (List.Sublist.refl _)))⟩
     refine xG (.bool false) rfl (ex_gtr rfl rfl rfl (decide_eq_false hb44)) ?_
     simp only [zP, po]
     refine wK k43 (cF rfl ?_)
     refine kS (bN ?_)
     refine tK k42 (rL ?_)
     refine xM (.int .i64 (i : Int)) rfl (xG (.int .i64 ((i + 1 : Nat) : Int)) rfl (ex_add rfl rfl rfl (by rw [i64_in (by omega)]; omega)) ?_)
     refine xA (.int .i64 ((i + 1 : Nat) : Int)) rfl (wL ?_)
     simp only [zP, po]
     refine then_normal ?_
     go_roundw
     case rel => exact ⟨i + 1, rfl, by omega, hv⟩
     case measure => show v.zset.length - (((i + 1 : Nat) : Int)).toNat < v.zset.length - ((i : Int)).toNat; omega
    refine xG (.bool false) rfl (ex_lss rfl rfl rfl (decide_eq_false hb41)) ?_
    simp only [zP, po]
    refine wK k40 (cF rfl ?_)
    refine xE (tX ?_)
    refine tX (bH ?_)
    refine tK k36 (sK fun _ k46 => ?_)
    refine rL (xA (.bool true) rfl ?_)
    simp only [zP, po]
    refine wK k46 (rR ?_)
    refine bR rfl rfl (⟨true, rfl, fun _ => ⟨by omega, by omega, by omega⟩, (hv.sub (List.Sublist.cons _ (List.Sublist.refl _)))⟩)
theorem refSmall (B : Base) (H : List Res) (w : World) (v : Val) (p t z : Value) (h : ValRd B v p t z) (hv : Inv B H w) : Calls Tryz.prog 8 #[.agg (valCells v p t z).toArray] w fun e w' => ∃ b, e = .returned (.bool b) ∧ (b = true → ValSm v) ∧ Inv B H w' := by
 obtain ⟨⟨ap, cp, rfl, -, hrp⟩, ⟨at2, ct, rfl, -, hrt⟩, ⟨az, cz, rfl, -, hrz⟩⟩ := h
 exact refSmall0 B H w v ap at2 az cp ct cz hrp hrt hrz hv
end Go.Proofs.YtkoghbmjbobfjaaGreat
/- TxnOwn: the law's walk. -/
namespace Go.Proofs.YtkoghbmjbobfjaaGreat
open Go.RowKit Go.Pm
theorem valRd_at {B : Base} {v : Val} {p t z : Value} (h : ValRd B v p t z) (hs : ValSm v) : ValAt B v p t z := by
 obtain ⟨h1, h2, h3⟩ := hs
 exact ⟨h.p, h.t, h.z, by omega, by omega, by omega⟩
theorem l18fa79_3 (w : World) (b o : Nat) : (Instr.fieldAt 79 (.pointer (some ⟨b, o, none⟩)) 3).run Tryz.prog w = .ok (.pointer (some ⟨b, o + 3, none⟩)) w := by kernel_rfl
theorem l18fa77_0 (w : World) (b o : Nat) : (Instr.fieldAt 77 (.pointer (some ⟨b, o, none⟩)) 0).run Tryz.prog w = .ok (.pointer (some ⟨b, o + 0, none⟩)) w := by kernel_rfl
theorem l18fa77_1 (w : World) (b o : Nat) : (Instr.fieldAt 77 (.pointer (some ⟨b, o, none⟩)) 1).run Tryz.prog w = .ok (.pointer (some ⟨b, o + 1, none⟩)) w := by kernel_rfl
theorem l18callable8 : Callable Tryz.prog 8 := ⟨_, Tryz.func8, by kernel_rfl, by kernel_rfl⟩
set_option maxHeartbeats 2000000 in
theorem lawSmall18 (B : Base) (H : List Res) (w : World) (kd tt nn an : Int) (x : Wr) (xp xt xz : Value) (hrdv : ValRd B x.ver.val xp xt xz) (hv : Inv B H w) :
  Calls Tryz.prog 24 #[.agg #[.int .i64 kd, .int .i64 tt, .int .i64 nn, .string ⟨x.key.toArray⟩, .int .i64 x.ver.stamp, .bool x.ver.gone, .int .i64 x.ver.expire, .int .i64 x.ver.val.kind, .string ⟨x.ver.val.text.toArray⟩, xp, xt, xz, .int .i64 an]] w fun e w' => ∃ b, e = .returned (.bool b) ∧ (b = true → x.key.length ≤ 300 ∧ ValSm x.ver.val) ∧ Inv B H w' := by
 refine cW Tryz.func24 rfl Tryz.ntmps24 ?_
 simp only [al]
 refine sK fun _ k1 => rL (sl_box (L := [.int .i64 kd, .int .i64 tt, .int .i64 nn, .string ⟨x.key.toArray⟩, .int .i64 x.ver.stamp, .bool x.ver.gone, .int .i64 x.ver.expire, .int .i64 x.ver.val.kind, .string ⟨x.ver.val.text.toArray⟩, xp, xt, xz, .int .i64 an]) tV (wn rfl) rfl rfl hv (fun w => by kernel_rfl) (fun b2 w3 hv => ?_))
 refine xA (.bool false) rfl ?_
 simp only [zP, po]
 refine wK k1 (sK fun _ k4 => ?_)
 refine rL (xF (.pointer (some ⟨b2, 3, none⟩)) rfl (l18fa79_3 _ _ _) ?_)
 refine xF (.pointer (some ⟨b2, 3, none⟩)) rfl (l18fa77_0 _ _ _) (xL _ rfl (run_load1 s9na9 (hv.load 0 3 rfl rfl)) ?_)
 simp only [zP, po]
 refine xG (.int .i64 (x.key.length : Int)) rfl (ex_lenStr Tryz.underlying9 rfl rfl) ?_
 by_cases hb5 : (x.key.length : Int) ≤ 300
 ·refine xG (.bool true) rfl (ex_leq rfl rfl rfl (decide_eq_true hb5)) (xM (.bool true) rfl ?_)
  simp only [zP, po]
  refine xF (.pointer (some ⟨b2, 3, none⟩)) rfl (l18fa79_3 _ _ _) (xF (.pointer (some ⟨b2, 4, none⟩)) rfl (l18fa77_1 _ _ _) ?_)
  refine xF (.pointer (some ⟨b2, 7, none⟩)) rfl (x2fa45_3 _ _ _) ?_
  simp only [zP, po]
  refine xL (.agg #[.int .i64 x.ver.val.kind, .string ⟨x.ver.val.text.toArray⟩, xp, xt, xz]) rfl (run_load_mid (pre := [.int .i64 kd, .int .i64 tt, .int .i64 nn, .string ⟨x.key.toArray⟩, .int .i64 x.ver.stamp, .bool x.ver.gone, .int .i64 x.ver.expire]) (mid := [.int .i64 x.ver.val.kind, .string ⟨x.ver.val.text.toArray⟩, xp, xt, xz]) (post := [.int .i64 an]) s1wd35 (show Blk _ b2 ([.int .i64 kd, .int .i64 tt, .int .i64 nn, .string ⟨x.key.toArray⟩, .int .i64 x.ver.stamp, .bool x.ver.gone, .int .i64 x.ver.expire] ++ [.int .i64 x.ver.val.kind, .string ⟨x.ver.val.text.toArray⟩, xp, xt, xz] ++ [.int .i64 an]) _ from hv.get 0 rfl) rfl) (xC l18callable8 rfl ((refSmall B _ _ x.ver.val xp xt xz hrdv hv).mono ?_) rfl)
  rintro e w7 ⟨bl6, rfl, hbl6, hv⟩
  refine ⟨_, rfl, ?_⟩
  cases bl6
  ·refine xK true (.bool false) rfl ?_
   simp only [zP, po]
   refine xA (.bool false) rfl ?_
   simp only [zP, po]
   refine wK k4 (rR ?_)
   refine bR rfl rfl (⟨false, rfl, fun h => (by cases h), (hv.sub (List.Sublist.cons _ (List.Sublist.refl _)))⟩)
  refine xK true (.bool true) rfl ?_
  simp only [zP, po]
  refine xA (.bool true) rfl ?_
  simp only [zP, po]
  refine wK k4 (rR ?_)
  refine bR rfl rfl (⟨true, rfl, fun _ => ⟨by omega, hbl6 rfl⟩, (hv.sub (List.Sublist.cons _ (List.Sublist.refl _)))⟩)
 refine xG (.bool false) rfl (ex_leq rfl rfl rfl (decide_eq_false hb5)) (xM (.bool false) rfl ?_)
 simp only [zP, po]
 iterate 5 refine yN rfl ?_
 refine xK false (.bool false) rfl (xA (.bool false) rfl ?_)
 simp only [zP, po]
 refine wK k4 (rR ?_)
 refine bR rfl rfl (⟨false, rfl, fun h => (by cases h), (hv.sub (List.Sublist.cons _ (List.Sublist.refl _)))⟩)
theorem refSameE (B : Base) (H : List Res) (w : World) (u v : Val) (p t z p' t' z' : Value) (hu : u = v) (h : ValAt B u p t z) (h' : ValAt B v p' t' z') (hv : Inv B H w) : Calls Tryz.prog 16 #[.agg (valCells u p t z).toArray, .agg (valCells v p' t' z').toArray] w fun e w' => e = .returned (.bool true) ∧ Inv B H w' := by
 subst hu
 exact refSameV B H w u p t z p' t' z' h.rd h'.rd h.pm h.tm h.zm hv
theorem l18callable20 : Callable Tryz.prog 20 := ⟨_, Tryz.func20, by kernel_rfl, by kernel_rfl⟩
theorem l18callable22 : Callable Tryz.prog 22 := ⟨_, Tryz.func22, by kernel_rfl, by kernel_rfl⟩
theorem l18callable21 : Callable Tryz.prog 21 := ⟨_, Tryz.func21, by kernel_rfl, by kernel_rfl⟩
theorem l18callable23 : Callable Tryz.prog 23 := ⟨_, Tryz.func23, by kernel_rfl, by kernel_rfl⟩
theorem l18es64 (w : World) : (sizeOf (Tryz.prog.elem 64)).run Tryz.prog w = .ok 13 w := by kernel_rfl
theorem l18wd79 : Wide Tryz.prog 79 13 := wide_of (fun w => by kernel_rfl) (by kernel_rfl)
theorem l18al79 (w : World) : (Instr.alloc 79 true (.tuple #[])).run Tryz.prog w = .ok (.pointer (some ⟨w.heap.size, 0, none⟩)) (w.alloc (.cells ([.int .i64 0, .int .i64 0, .int .i64 0, .string ⟨([] : List UInt8).toArray⟩, .int .i64 0, .bool false, .int .i64 0, .int .i64 0, .string ⟨([] : List UInt8).toArray⟩, .slice none 0 0, .slice none 0 0, .slice none 0 0, .int .i64 0] : List Value).toArray 79)) := by kernel_rfl
theorem l18sz79 : (Tryz.prog.info? 79).map (·.size) = some 13 := by kernel_rfl
theorem l18callable24 : Callable Tryz.prog 24 := ⟨_, Tryz.func24, by kernel_rfl, by kernel_rfl⟩
theorem l18fa79_0 (w : World) (b o : Nat) : (Instr.fieldAt 79 (.pointer (some ⟨b, o, none⟩)) 0).run Tryz.prog w = .ok (.pointer (some ⟨b, o + 0, none⟩)) w := by kernel_rfl
theorem l18callable25 : Callable Tryz.prog 25 := ⟨_, Tryz.func25, by kernel_rfl, by kernel_rfl⟩
theorem l18callable26 : Callable Tryz.prog 26 := ⟨_, Tryz.func26, by kernel_rfl, by kernel_rfl⟩
theorem l18al45 (w : World) : (Instr.alloc 45 true (.tuple #[])).run Tryz.prog w = .ok (.pointer (some ⟨w.heap.size, 0, none⟩)) (w.alloc (.cells ([.int .i64 0, .bool false, .int .i64 0, .int .i64 0, .string ⟨([] : List UInt8).toArray⟩, .slice none 0 0, .slice none 0 0, .slice none 0 0] : List Value).toArray 45)) := by kernel_rfl
theorem l18callable16 : Callable Tryz.prog 16 := ⟨_, Tryz.func16, by kernel_rfl, by kernel_rfl⟩
theorem l18mk9 : (Tryz.prog.info? 9).map (fun i => (i.zero, i.size, i.bytes)) = some (some (.string ⟨([] : List UInt8).toArray⟩), 1, 16) := by kernel_rfl
theorem l18el29 : Elem Tryz.prog 29 9 (.string ⟨([] : List UInt8).toArray⟩) 1 16 := elem_of Tryz.underlying29 l18mk9 (by rfl) (by decide)
theorem l18callable27 : Callable Tryz.prog 27 := ⟨_, Tryz.func27, by kernel_rfl, by kernel_rfl⟩
theorem l18callable28 : Callable Tryz.prog 28 := ⟨_, Tryz.func28, by kernel_rfl, by kernel_rfl⟩
theorem l18callable29 : Callable Tryz.prog 29 := ⟨_, Tryz.func29, by kernel_rfl, by kernel_rfl⟩
theorem l18callable31 : Callable Tryz.prog 31 := ⟨_, Tryz.func31, by kernel_rfl, by kernel_rfl⟩
set_option maxHeartbeats 8000000 in
theorem txnOwnMain (B : Base) (H : List Res) (w : World) (ad : Option Addr) (n c : Nat) (hr : ActsRd18 B ad n) (hv : Inv B H w) :
  Calls Tryz.prog 4 #[.slice ad n c] w fun e w' => e = .returned (.bool true) ∧ Inv B H w' := by
 refine cW Tryz.func4 rfl Tryz.ntmps4 ?_
 simp only [al]
 refine sK fun _ k1 => rL (xA (.bool false) rfl ?_)
 simp only [zP, po]
 refine wK k1 (sK fun _ k2 => ?_)
 refine sK fun _ k3 => rL (xC l18callable20 rfl ((txAwakeInv B _ _ hv).mono ?_) rfl)
 rintro e w4 ⟨rfl, hv⟩
 refine ⟨_, rfl, ?_⟩
 refine xG (.bool false) rfl (ex_not rfl rfl rfl) (xM (.bool false) rfl ?_)
 simp only [zP, po]
 refine xM (.slice ad n c) rfl (xG (.int .i64 (n : Int)) rfl (ex_len0 Tryz.underlying64 rfl rfl) ?_)
 by_cases hb5 : (n : Int) > 20
 ·refine xG (.bool true) rfl (ex_gtr rfl rfl rfl (decide_eq_true hb5)) ?_
  simp only [zP, po]
  refine xK false (.bool true) rfl ?_
  simp only [zP, po]
  refine wK k3 (cT rfl ?_)
  refine sK fun _ k6 => rL (xC l18callable20 rfl ((txAwakeInv B _ _ hv).mono ?_) rfl)
  rintro e w7 ⟨rfl, hv⟩
  refine ⟨_, rfl, ?_⟩
  refine xA (.bool true) rfl ?_
  simp only [zP, po]
  refine wK k6 (rR ?_)
  refine tR (bR rfl rfl ?_)
  exact ⟨rfl, hv⟩
 refine xG (.bool false) rfl (ex_gtr rfl rfl rfl (decide_eq_false hb5)) ?_
 simp only [zP, po]
 refine xK false (.bool false) rfl ?_
 simp only [zP, po]
 refine wK k3 (cF rfl ?_)
 refine kS (tK k2 ?_)
 refine sK fun _ k8 => rL (xC l18callable22 rfl ((storeNew0 B _ _ hv).mono ?_) rfl)
 rintro e w9 ⟨s, p, rfl, hv⟩
 refine ⟨_, rfl, ?_⟩
 refine xG (.agg #[.int .i64 0, .int .i64 0, .slice none 0 0, .int .i64 0]) rfl (ex_buildN (vs := #[]) rfl (by simp only [List.map_toArray, List.map_nil]) (by kernel_rfl)) (sl_box (L := [.int .i64 0, .int .i64 0, .slice none 0 0, .int .i64 0]) tV (wn rfl) rfl rfl hv (fun w => by kernel_rfl) (fun b10 w11 hv => ?_))
 simp only [zP, po]
 refine xG (.iface 70 (.pointer (some ⟨b10, 0, none⟩))) rfl (ex_iface Tryz.underlying70 (fun _ h => by cases h) rfl rfl) (xC l18callable21 rfl ((txnNew0 B _ _ s 70 (.pointer (some ⟨b10, 0, none⟩)) hv).mono ?_) rfl)
 rintro e w12 ⟨m, rfl, hv⟩
 refine ⟨_, rfl, ?_⟩
 refine xM (.tuple #[.pointer (some ⟨m, 0, none⟩), .int .i64 0]) rfl ?_
 simp only [zP, po]
 refine xG (.pointer (some ⟨m, 0, none⟩)) rfl (ex_extract rfl rfl rfl) (xG (.int .i64 0) rfl (ex_extract rfl rfl rfl) ?_)
 refine xA (.pointer (some ⟨m, 0, none⟩)) rfl ?_
 simp only [zP, po]
 refine xA (.int .i64 0) rfl ?_
 simp only [zP, po]
 refine wK k8 (sK fun _ k13 => ?_)
 refine rL (xM (.pointer (some ⟨m, 0, none⟩)) rfl ?_)
 replace hv := hv.front 3 rfl
 simp only [List.eraseIdx_cons_succ, List.eraseIdx_cons_zero] at hv
 replace hv := hv.front 3 rfl
 simp only [List.eraseIdx_cons_succ, List.eraseIdx_cons_zero] at hv
 replace hv := hv.front 2 rfl
 simp only [List.eraseIdx_cons_succ, List.eraseIdx_cons_zero] at hv
 refine xC l18callable23 rfl ((txnBegin B _ _ m s p (.iface 70 (.pointer (some ⟨b10, 0, none⟩))) 0 hv).mono ?_) rfl
 rintro e w14 ⟨t, wb, va, vc, rfl, hv⟩
 refine ⟨_, rfl, ?_⟩
 obtain ⟨sv, hsv⟩ : ∃ sv, sv = Value.iface 70 (.pointer (some ⟨b10, 0, none⟩)) := ⟨_, rfl⟩
 rw [← hsv] at hv
 refine xM (.tuple #[.pointer (some ⟨t, 0, none⟩), .int .i64 0]) rfl ?_
 simp only [zP, po]
 refine xG (.pointer (some ⟨t, 0, none⟩)) rfl (ex_extract rfl rfl rfl) (xG (.int .i64 0) rfl (ex_extract rfl rfl rfl) ?_)
 refine xA (.pointer (some ⟨t, 0, none⟩)) rfl ?_
 simp only [zP, po]
 refine xA (.int .i64 0) rfl ?_
 simp only [zP, po]
 refine wK k13 (sK fun _ k15 => ?_)
 refine sK fun _ k16 => rL (xM (.pointer (some ⟨t, 0, none⟩)) rfl ?_)
 refine xG (.bool false) rfl (ex_pisnil Tryz.underlying25 rfl rfl rfl rfl) ?_
 simp only [zP, po]
 refine wK k16 (cF rfl ?_)
 refine kS (tK k15 ?_)
 refine sK fun _ k17 => sK fun _ k18 => rL (xA (.int .i64 0) rfl ?_)
 simp only [zP, po]
 refine wK k18 (bB ?_)
 gi_loopw [7] (fun x7 wr => ∃ (i : Nat) (C : Base) (es : List (List UInt8 × Value)) (M : List (List UInt8 × Ver)), x7 = .int .i64 (i : Int) ∧ B.Le C ∧ i ≤ n ∧ VM C es M ∧ Inv C (txR t m s p wb va vc sv 0 es :: H) wr) (fun x7 _ => n - (intOf x7).toNat)
 case atStart => exact ⟨0, B, [], [], rfl, Base.Le.refl _, Nat.zero_le _, trivial, (hv.sub (List.Sublist.cons_cons _ (List.Sublist.cons _ (List.Sublist.refl _))))⟩
 case round =>
  obtain ⟨i, C, es, M, rfl, hBC, hi, hM, hv⟩ := hrel
  refine sK fun _ k20 => sK fun _ k21 => rL (xM (.int .i64 (i : Int)) rfl ?_)
  refine xM (.slice ad n c) rfl (xG (.int .i64 (n : Int)) rfl (ex_len0 Tryz.underlying64 rfl rfl) ?_)
  simp only [zP, po]
  by_cases hb22 : (i : Int) < (n : Int)
  ·refine xG (.bool true) rfl (ex_lss rfl rfl rfl (decide_eq_true hb22)) ?_
   simp only [zP, po]
   refine wK k21 (cT rfl ?_)
   refine kS (tK k20 ?_)
   refine sK fun _ k23 => bB (sK fun _ k24 => ?_)
   obtain ⟨bb, bo, kd, tt, nn, an, x, xp, xt, xz, had, hrd, hrdv⟩ := hr i (by omega)
   subst had
   refine rL (xM (.slice (some ⟨bb, bo, none⟩) n c) rfl ?_)
   refine xM (.int .i64 (i : Int)) rfl (xG (.pointer (some ⟨bb, bo + i * 13, none⟩)) rfl (ex_index rfl rfl rfl (run_idx (k := i) Tryz.underlying64 l18es64 (by omega))) ?_)
   simp only [zP, po]
   refine xL (.agg #[.int .i64 kd, .int .i64 tt, .int .i64 nn, .string ⟨x.key.toArray⟩, .int .i64 x.ver.stamp, .bool x.ver.gone, .int .i64 x.ver.expire, .int .i64 x.ver.val.kind, .string ⟨x.ver.val.text.toArray⟩, xp, xt, xz, .int .i64 an]) rfl (run_loadR (cs := [.int .i64 kd, .int .i64 tt, .int .i64 nn, .string ⟨x.key.toArray⟩, .int .i64 x.ver.stamp, .bool x.ver.gone, .int .i64 x.ver.expire, .int .i64 x.ver.val.kind, .string ⟨x.ver.val.text.toArray⟩, xp, xt, xz, .int .i64 an]) l18wd79 (Reads.mid (pre := []) (mid := [.int .i64 kd, .int .i64 tt, .int .i64 nn, .string ⟨x.key.toArray⟩, .int .i64 x.ver.stamp, .bool x.ver.gone, .int .i64 x.ver.expire, .int .i64 x.ver.val.kind, .string ⟨x.ver.val.text.toArray⟩, xp, xt, xz, .int .i64 an]) (post := []) hrd _ _ _ hBC no_res hv)) (sl_alloc tV (wn rfl) rfl hv l18al79 (fun b25 w26 hv => ?_))
   refine xS 0 rfl hv l18sz79 rfl (by exact ⟨rfl, rfl, rfl, rfl, rfl, rfl, rfl, rfl, rfl, hrdv.p.one, hrdv.t.one, hrdv.z.one, rfl, trivial⟩) (fun w27 hv => ?_)
   simp only [zO, sp] at hv
   simp only [zP, po]
   refine wK k24 (sK fun _ k28 => ?_)
   refine sK fun _ k29 => rL (xL (.agg #[.int .i64 kd, .int .i64 tt, .int .i64 nn, .string ⟨x.key.toArray⟩, .int .i64 x.ver.stamp, .bool x.ver.gone, .int .i64 x.ver.expire, .int .i64 x.ver.val.kind, .string ⟨x.ver.val.text.toArray⟩, xp, xt, xz, .int .i64 an]) rfl (run_load_mid (pre := []) (mid := [.int .i64 kd, .int .i64 tt, .int .i64 nn, .string ⟨x.key.toArray⟩, .int .i64 x.ver.stamp, .bool x.ver.gone, .int .i64 x.ver.expire, .int .i64 x.ver.val.kind, .string ⟨x.ver.val.text.toArray⟩, xp, xt, xz, .int .i64 an]) (post := []) l18wd79 (show Blk _ b25 ([] ++ [.int .i64 kd, .int .i64 tt, .int .i64 nn, .string ⟨x.key.toArray⟩, .int .i64 x.ver.stamp, .bool x.ver.gone, .int .i64 x.ver.expire, .int .i64 x.ver.val.kind, .string ⟨x.ver.val.text.toArray⟩, xp, xt, xz, .int .i64 an] ++ []) _ from hv.get 0 rfl) rfl) ?_)
   refine xC l18callable24 rfl ((lawSmall18 C _ _ kd tt nn an x xp xt xz (hrdv.more hBC) hv).mono ?_) rfl
   rintro e w31 ⟨bl30, rfl, hbl30, hv⟩
   refine ⟨_, rfl, ?_⟩
   cases bl30
   ·refine xG (.bool true) rfl (ex_not rfl rfl rfl) ?_
    simp only [zP, po]
    refine wK k29 (cT rfl ?_)
    refine sK fun _ k32 => rL (xA (.bool true) rfl ?_)
    simp only [zP, po]
    refine wK k32 (rR ?_)
    refine tR (bE ?_)
    refine tR (tR ?_)
    refine bE (tR ?_)
    refine bR rfl rfl (⟨rfl, ((hv.sub (List.Sublist.cons _ (List.Sublist.cons _ (List.Sublist.refl _))))).weak hBC⟩)
   refine xG (.bool false) rfl (ex_not rfl rfl rfl) ?_
   simp only [zP, po]
   refine wK k29 (cF rfl ?_)
   refine kS (tK k28 ?_)
   refine sK fun _ k33 => sK fun _ k34 => rL (xF (.pointer (some ⟨b25, 0, none⟩)) rfl (l18fa79_0 _ _ _) ?_)
   refine xL _ rfl (run_load1 s2na3 (hv.load 0 0 rfl rfl)) (xG (.int .i64 (kd.tmod 2)) rfl (ex_rem (m := kd) (n := 2) rfl rfl rfl (by omega) rfl) ?_)
   simp only [zP, po]
   by_cases hb35 : (kd.tmod 2) = 0
   ·refine xG (.bool true) rfl (ex_eql rfl rfl rfl (decide_eq_true hb35)) ?_
    simp only [zP, po]
    refine wK k34 (cT rfl ?_)
    refine sK fun _ k36 => rL (xM (.pointer (some ⟨t, 0, none⟩)) rfl ?_)
    refine xF (.pointer (some ⟨b25, 3, none⟩)) rfl (l18fa79_3 _ _ _) (xF (.pointer (some ⟨b25, 3, none⟩)) rfl (l18fa77_0 _ _ _) ?_)
    simp only [zP, po]
    refine xL _ rfl (run_load1 s9na9 (hv.load 0 3 rfl rfl)) (xF (.pointer (some ⟨b25, 3, none⟩)) rfl (l18fa79_3 _ _ _) ?_)
    refine xF (.pointer (some ⟨b25, 4, none⟩)) rfl (l18fa77_1 _ _ _) ?_
    simp only [zP, po]
    refine xF (.pointer (some ⟨b25, 7, none⟩)) rfl (x2fa45_3 _ _ _) (xL (.agg #[.int .i64 x.ver.val.kind, .string ⟨x.ver.val.text.toArray⟩, xp, xt, xz]) rfl (run_load_mid (pre := [.int .i64 kd, .int .i64 tt, .int .i64 nn, .string ⟨x.key.toArray⟩, .int .i64 x.ver.stamp, .bool x.ver.gone, .int .i64 x.ver.expire]) (mid := [.int .i64 x.ver.val.kind, .string ⟨x.ver.val.text.toArray⟩, xp, xt, xz]) (post := [.int .i64 an]) s1wd35 (show Blk _ b25 ([.int .i64 kd, .int .i64 tt, .int .i64 nn, .string ⟨x.key.toArray⟩, .int .i64 x.ver.stamp, .bool x.ver.gone, .int .i64 x.ver.expire] ++ [.int .i64 x.ver.val.kind, .string ⟨x.ver.val.text.toArray⟩, xp, xt, xz] ++ [.int .i64 an]) _ from hv.get 0 rfl) rfl) ?_)
    obtain ⟨hk3, hsm⟩ := hbl30 rfl
    have hva := valRd_at hrdv hsm
    replace hv := hv.front 1 rfl
    simp only [List.eraseIdx_cons_succ, List.eraseIdx_cons_zero] at hv
    refine xC l18callable25 rfl ((txnPut C _ _ t m s p wb va vc sv 0 es M x.key x.ver.val xp xt xz 0 (hM.more (Base.Le.refl _)) (hva.more hBC) hv).mono ?_) rfl
    rintro e w37 ⟨D, es2, ec, hD, rfl, hput, hv⟩
    refine ⟨_, rfl, ?_⟩
    rcases hput with ⟨rfl, -, hM2⟩ | ⟨rfl, -, he9⟩
    ·simp only [zP, po]
     refine xA (.int .i64 0) rfl ?_
     simp only [zP, po]
     refine wK k36 (sK fun _ k38 => ?_)
     refine rL (xM (.pointer (some ⟨t, 0, none⟩)) rfl ?_)
     refine xF (.pointer (some ⟨b25, 3, none⟩)) rfl (l18fa79_3 _ _ _) (xF (.pointer (some ⟨b25, 3, none⟩)) rfl (l18fa77_0 _ _ _) ?_)
     simp only [zP, po]
     refine xL _ rfl (run_load1 s9na9 (hv.load 1 3 rfl rfl)) (xC l18callable26 rfl ((txnGet D _ _ t m s p wb va vc sv 0 es2 (updA M x.key ⟨0, false, 0, x.ver.val⟩) x.key (hM2.more (Base.Le.refl _)) hv).mono ?_) rfl)
     rintro e w39 ⟨E, y, yp, yt, yz, ok, hE, rfl, hget, hyv, hv⟩
     refine ⟨_, rfl, ?_⟩
     obtain ⟨rfl, hy⟩ : ok = true ∧ y = ⟨0, false, 0, x.ver.val⟩ := by
      rcases hget with ⟨h1, h2, -⟩ | ⟨-, -, h2⟩
      ·rw [look_upd, if_pos rfl] at h2
       cases h2; exact ⟨h1, rfl⟩
      have h3 := h2 ⟨0, false, 0, x.ver.val⟩ (by rw [look_upd, if_pos rfl])
      cases h3
     refine xM (.tuple #[.agg #[.int .i64 y.stamp, .bool y.gone, .int .i64 y.expire, .int .i64 y.val.kind, .string ⟨y.val.text.toArray⟩, yp, yt, yz], .bool true]) rfl ?_
     simp only [zP, po]
     refine xG (.agg #[.int .i64 y.stamp, .bool y.gone, .int .i64 y.expire, .int .i64 y.val.kind, .string ⟨y.val.text.toArray⟩, yp, yt, yz]) rfl (ex_extract rfl rfl rfl) (xG (.bool true) rfl (ex_extract rfl rfl rfl) ?_)
     refine sl_alloc tV (wn rfl) rfl hv l18al45 (fun b40 w41 hv => ?_)
     simp only [zP, po]
     refine xS 0 rfl hv x0sz45 rfl (by exact ⟨rfl, rfl, rfl, rfl, rfl, hyv.p.one, hyv.t.one, hyv.z.one, trivial⟩) (fun w42 hv => ?_)
     simp only [zO, sp] at hv
     refine xA (.bool true) rfl ?_
     simp only [zP, po]
     refine wK k38 (sK fun _ k43 => ?_)
     refine sK fun _ k44 => rL (xM (.int .i64 0) rfl ?_)
     refine xG (.bool true) rfl (ex_eql rfl rfl rfl (by decide)) (xM (.bool true) rfl ?_)
     simp only [zP, po]
     refine xM (.bool true) rfl (xG (.bool false) rfl (ex_not rfl rfl rfl) ?_)
     refine xM (.bool false) rfl ?_
     simp only [zP, po]
     refine xF (.pointer (some ⟨b40, 3, none⟩)) rfl (x2fa45_3 _ _ _) (xL (.agg #[.int .i64 y.val.kind, .string ⟨y.val.text.toArray⟩, yp, yt, yz]) rfl (run_load_mid (pre := [.int .i64 y.stamp, .bool y.gone, .int .i64 y.expire]) (mid := [.int .i64 y.val.kind, .string ⟨y.val.text.toArray⟩, yp, yt, yz]) (post := []) s1wd35 (show Blk _ b40 ([.int .i64 y.stamp, .bool y.gone, .int .i64 y.expire] ++ [.int .i64 y.val.kind, .string ⟨y.val.text.toArray⟩, yp, yt, yz] ++ []) _ from hv.get 0 rfl) rfl) ?_)
     refine xF (.pointer (some ⟨b25, 3, none⟩)) rfl (l18fa79_3 _ _ _) ?_
     simp only [zP, po]
     refine xF (.pointer (some ⟨b25, 4, none⟩)) rfl (l18fa77_1 _ _ _) (xF (.pointer (some ⟨b25, 7, none⟩)) rfl (x2fa45_3 _ _ _) ?_)
     refine xL (.agg #[.int .i64 x.ver.val.kind, .string ⟨x.ver.val.text.toArray⟩, xp, xt, xz]) rfl (run_load_mid (pre := [.int .i64 kd, .int .i64 tt, .int .i64 nn, .string ⟨x.key.toArray⟩, .int .i64 x.ver.stamp, .bool x.ver.gone, .int .i64 x.ver.expire]) (mid := [.int .i64 x.ver.val.kind, .string ⟨x.ver.val.text.toArray⟩, xp, xt, xz]) (post := [.int .i64 an]) s1wd35 (show Blk _ b25 ([.int .i64 kd, .int .i64 tt, .int .i64 nn, .string ⟨x.key.toArray⟩, .int .i64 x.ver.stamp, .bool x.ver.gone, .int .i64 x.ver.expire] ++ [.int .i64 x.ver.val.kind, .string ⟨x.ver.val.text.toArray⟩, xp, xt, xz] ++ [.int .i64 an]) _ from hv.get 2 rfl) rfl) ?_
     simp only [zP, po]
     refine xC l18callable16 rfl ((refSameE E _ _ y.val x.ver.val _ _ _ _ _ _ (by rw [hy]) (hyv.more (Base.Le.refl _)) (hva.more ((hBC.trans hD).trans hE)) hv).mono ?_) rfl
     rintro e w45 ⟨rfl, hv⟩
     refine ⟨_, rfl, ?_⟩
     refine xG (.bool false) rfl (ex_not rfl rfl rfl) (xK false (.bool false) rfl ?_)
     simp only [zP, po]
     refine xK true (.bool false) rfl ?_
     simp only [zP, po]
     refine wK k44 (cF rfl ?_)
     refine kS (tK k43 ?_)
     refine xE (tX ?_)
     refine bH (tK k23 ?_)
     refine rL (xM (.int .i64 (i : Int)) rfl ?_)
     refine xG (.int .i64 ((i + 1 : Nat) : Int)) rfl (ex_add rfl rfl rfl (by rw [i64_in (by omega)]; omega)) (xA (.int .i64 ((i + 1 : Nat) : Int)) rfl ?_)
     refine wL ?_
     simp only [zP, po]
     refine then_normal ?_
     go_roundw
     case rel => exact ⟨i + 1, _, _, (updA M x.key ⟨0, false, 0, x.ver.val⟩), rfl, ((hBC.trans hD).trans hE), by omega, hM2.more hE, ((hv.front 1 rfl).sub (List.Sublist.cons_cons _ (List.Sublist.cons _ (List.Sublist.cons _ (List.Sublist.refl _)))))⟩
     case measure => show n - (((i + 1 : Nat) : Int)).toNat < n - ((i : Int)).toNat; omega
    rw [he9] at hv
    simp only [zP, po]
    refine xA (.int .i64 2) rfl ?_
    simp only [zP, po]
    refine wK k36 (sK fun _ k46 => ?_)
    refine rL (xM (.pointer (some ⟨t, 0, none⟩)) rfl ?_)
    refine xF (.pointer (some ⟨b25, 3, none⟩)) rfl (l18fa79_3 _ _ _) (xF (.pointer (some ⟨b25, 3, none⟩)) rfl (l18fa77_0 _ _ _) ?_)
    simp only [zP, po]
    refine xL _ rfl (run_load1 s9na9 (hv.load 1 3 rfl rfl)) (xC l18callable26 rfl ((txnGet D _ _ t m s p wb va vc sv 0 es M x.key (hM.more hD) hv).mono ?_) rfl)
    rintro e w47 ⟨E, y, yp, yt, yz, ok, hE, rfl, hget, hyv, hv⟩
    refine ⟨_, rfl, ?_⟩
    clear hget
    cases ok
    ·refine xM (.tuple #[.agg #[.int .i64 y.stamp, .bool y.gone, .int .i64 y.expire, .int .i64 y.val.kind, .string ⟨y.val.text.toArray⟩, yp, yt, yz], .bool false]) rfl ?_
     simp only [zP, po]
     refine xG (.agg #[.int .i64 y.stamp, .bool y.gone, .int .i64 y.expire, .int .i64 y.val.kind, .string ⟨y.val.text.toArray⟩, yp, yt, yz]) rfl (ex_extract rfl rfl rfl) (xG (.bool false) rfl (ex_extract rfl rfl rfl) ?_)
     refine sl_alloc tV (wn rfl) rfl hv l18al45 (fun b48 w49 hv => ?_)
     simp only [zP, po]
     refine xS 0 rfl hv x0sz45 rfl (by exact ⟨rfl, rfl, rfl, rfl, rfl, hyv.p.one, hyv.t.one, hyv.z.one, trivial⟩) (fun w50 hv => ?_)
     simp only [zO, sp] at hv
     refine xA (.bool false) rfl ?_
     simp only [zP, po]
     refine wK k46 (sK fun _ k51 => ?_)
     refine sK fun _ k52 => rL (xM (.int .i64 2) rfl ?_)
     refine xG (.bool false) rfl (ex_eql rfl rfl rfl (by decide)) (xM (.bool false) rfl ?_)
     simp only [zP, po]
     refine yP rfl (yP rfl ?_)
     refine yP rfl ?_
     simp only [zP, po]
     refine yP rfl (yP rfl ?_)
     refine yP rfl ?_
     simp only [zP, po]
     refine yP rfl (yP rfl ?_)
     refine yP rfl ?_
     simp only [zP, po]
     refine yP rfl (yP rfl ?_)
     refine yP rfl ?_
     simp only [zP, po]
     refine xK false (.bool false) rfl ?_
     simp only [zP, po]
     refine wK k52 (cF rfl ?_)
     refine kS (tK k51 ?_)
     refine xE (tX ?_)
     refine bH (tK k23 ?_)
     refine rL (xM (.int .i64 (i : Int)) rfl ?_)
     refine xG (.int .i64 ((i + 1 : Nat) : Int)) rfl (ex_add rfl rfl rfl (by rw [i64_in (by omega)]; omega)) (xA (.int .i64 ((i + 1 : Nat) : Int)) rfl ?_)
     refine wL ?_
     simp only [zP, po]
     refine then_normal ?_
     go_roundw
     case rel => exact ⟨i + 1, _, _, M, rfl, ((hBC.trans hD).trans hE), by omega, hM.more (hD.trans hE), ((hv.front 1 rfl).sub (List.Sublist.cons_cons _ (List.Sublist.cons _ (List.Sublist.cons _ (List.Sublist.refl _)))))⟩
     case measure => show n - (((i + 1 : Nat) : Int)).toNat < n - ((i : Int)).toNat; omega
    refine xM (.tuple #[.agg #[.int .i64 y.stamp, .bool y.gone, .int .i64 y.expire, .int .i64 y.val.kind, .string ⟨y.val.text.toArray⟩, yp, yt, yz], .bool true]) rfl ?_
    simp only [zP, po]
    refine xG (.agg #[.int .i64 y.stamp, .bool y.gone, .int .i64 y.expire, .int .i64 y.val.kind, .string ⟨y.val.text.toArray⟩, yp, yt, yz]) rfl (ex_extract rfl rfl rfl) (xG (.bool true) rfl (ex_extract rfl rfl rfl) ?_)
    refine sl_alloc tV (wn rfl) rfl hv l18al45 (fun b53 w54 hv => ?_)
    simp only [zP, po]
    refine xS 0 rfl hv x0sz45 rfl (by exact ⟨rfl, rfl, rfl, rfl, rfl, hyv.p.one, hyv.t.one, hyv.z.one, trivial⟩) (fun w55 hv => ?_)
    simp only [zO, sp] at hv
    refine xA (.bool true) rfl ?_
    simp only [zP, po]
    refine wK k46 (sK fun _ k56 => ?_)
    refine sK fun _ k57 => rL (xM (.int .i64 2) rfl ?_)
    refine xG (.bool false) rfl (ex_eql rfl rfl rfl (by decide)) (xM (.bool false) rfl ?_)
    simp only [zP, po]
    refine yP rfl (yP rfl ?_)
    refine yP rfl ?_
    simp only [zP, po]
    refine yP rfl (yP rfl ?_)
    refine yP rfl ?_
    simp only [zP, po]
    refine yP rfl (yP rfl ?_)
    refine yP rfl ?_
    simp only [zP, po]
    refine yP rfl (yP rfl ?_)
    refine yP rfl ?_
    simp only [zP, po]
    refine xK false (.bool false) rfl ?_
    simp only [zP, po]
    refine wK k57 (cF rfl ?_)
    refine kS (tK k56 ?_)
    refine xE (tX ?_)
    refine bH (tK k23 ?_)
    refine rL (xM (.int .i64 (i : Int)) rfl ?_)
    refine xG (.int .i64 ((i + 1 : Nat) : Int)) rfl (ex_add rfl rfl rfl (by rw [i64_in (by omega)]; omega)) (xA (.int .i64 ((i + 1 : Nat) : Int)) rfl ?_)
    refine wL ?_
    simp only [zP, po]
    refine then_normal ?_
    go_roundw
    case rel => exact ⟨i + 1, _, _, M, rfl, ((hBC.trans hD).trans hE), by omega, hM.more (hD.trans hE), ((hv.front 1 rfl).sub (List.Sublist.cons_cons _ (List.Sublist.cons _ (List.Sublist.cons _ (List.Sublist.refl _)))))⟩
    case measure => show n - (((i + 1 : Nat) : Int)).toNat < n - ((i : Int)).toNat; omega
   refine xG (.bool false) rfl (ex_eql rfl rfl rfl (decide_eq_false hb35)) ?_
   simp only [zP, po]
   refine wK k34 (cF rfl ?_)
   refine kS (tK k33 ?_)
   refine sK fun _ k58 => rL (xM (.pointer (some ⟨t, 0, none⟩)) rfl ?_)
   refine xF (.pointer (some ⟨b25, 3, none⟩)) rfl (l18fa79_3 _ _ _) (xF (.pointer (some ⟨b25, 3, none⟩)) rfl (l18fa77_0 _ _ _) ?_)
   simp only [zP, po]
   refine xL _ rfl (run_load1 s9na9 (hv.load 0 3 rfl rfl)) (sl_rowOne (v := .string ⟨x.key.toArray⟩) tV (wn rfl) rfl rfl hv l18el29 rfl (fun b59 w60 hv => ?_))
   obtain ⟨hk3, hsm⟩ := hbl30 rfl
   obtain ⟨D, hD, hv, hrk, -, -⟩ := (hv.cellRow (n := 1) (c := 1) (size := 1) rfl (by decide) (by decide)).rowBy
   replace hv := hv.front 1 rfl
   simp only [List.eraseIdx_cons_succ, List.eraseIdx_cons_zero] at hv
   refine xC l18callable27 rfl ((txnDel D _ _ t m s p wb va vc sv 0 es M _ 1 [x.key] hrk (by simp) (hM.more hD) hv).mono ?_) rfl
   rintro e w61 ⟨es2, ec, rfl, hdel, hv⟩
   refine ⟨_, rfl, ?_⟩
   rcases hdel with ⟨rfl, -, hM2⟩ | ⟨rfl, -, he9⟩
   ·simp only [zP, po]
    refine xG (.bool true) rfl (ex_eql rfl rfl rfl (by decide)) ?_
    simp only [zP, po]
    refine wK k58 (cT rfl ?_)
    refine sK fun _ k62 => rL (xM (.pointer (some ⟨t, 0, none⟩)) rfl ?_)
    refine xF (.pointer (some ⟨b25, 3, none⟩)) rfl (l18fa79_3 _ _ _) (xF (.pointer (some ⟨b25, 3, none⟩)) rfl (l18fa77_0 _ _ _) ?_)
    simp only [zP, po]
    refine xL _ rfl (run_load1 s9na9 (hv.load 1 3 rfl rfl)) (xC l18callable26 rfl ((txnGet D _ _ t m s p wb va vc sv 0 es2 (updA M x.key gver) x.key (hM2.more (Base.Le.refl _)) hv).mono ?_) rfl)
    rintro e w63 ⟨E, y, yp, yt, yz, ok, hE, rfl, hget, hyv, hv⟩
    refine ⟨_, rfl, ?_⟩
    obtain rfl : ok = false := by
     rcases hget with ⟨-, h1, h2⟩ | ⟨h1, -, -⟩
     ·rw [look_upd, if_pos rfl] at h1
      cases h1; cases h2
     exact h1
    refine xM (.tuple #[.agg #[.int .i64 y.stamp, .bool y.gone, .int .i64 y.expire, .int .i64 y.val.kind, .string ⟨y.val.text.toArray⟩, yp, yt, yz], .bool false]) rfl ?_
    simp only [zP, po]
    refine xG (.agg #[.int .i64 y.stamp, .bool y.gone, .int .i64 y.expire, .int .i64 y.val.kind, .string ⟨y.val.text.toArray⟩, yp, yt, yz]) rfl (ex_extract rfl rfl rfl) (xG (.bool false) rfl (ex_extract rfl rfl rfl) ?_)
    refine sl_alloc tV (wn rfl) rfl hv l18al45 (fun b64 w65 hv => ?_)
    simp only [zP, po]
    refine xS 0 rfl hv x0sz45 rfl (by exact ⟨rfl, rfl, rfl, rfl, rfl, hyv.p.one, hyv.t.one, hyv.z.one, trivial⟩) (fun w66 hv => ?_)
    simp only [zO, sp] at hv
    refine xA (.bool false) rfl ?_
    simp only [zP, po]
    refine wK k62 (sK fun _ k67 => ?_)
    refine rL (xM (.bool false) rfl ?_)
    simp only [zP, po]
    refine wK k67 (cF rfl ?_)
    refine kS (bN ?_)
    refine tK k23 (rL ?_)
    refine xM (.int .i64 (i : Int)) rfl (xG (.int .i64 ((i + 1 : Nat) : Int)) rfl (ex_add rfl rfl rfl (by rw [i64_in (by omega)]; omega)) ?_)
    refine xA (.int .i64 ((i + 1 : Nat) : Int)) rfl (wL ?_)
    simp only [zP, po]
    refine then_normal ?_
    go_roundw
    case rel => exact ⟨i + 1, _, _, (updA M x.key gver), rfl, ((hBC.trans hD).trans hE), by omega, hM2.more hE, ((hv.front 1 rfl).sub (List.Sublist.cons_cons _ (List.Sublist.cons _ (List.Sublist.cons _ (List.Sublist.refl _)))))⟩
    case measure => show n - (((i + 1 : Nat) : Int)).toNat < n - ((i : Int)).toNat; omega
   rw [he9] at hv
   simp only [zP, po]
   refine xG (.bool false) rfl (ex_eql rfl rfl rfl (by decide)) ?_
   simp only [zP, po]
   refine wK k58 (cF rfl ?_)
   refine kS (bN ?_)
   refine tK k23 (rL ?_)
   refine xM (.int .i64 (i : Int)) rfl (xG (.int .i64 ((i + 1 : Nat) : Int)) rfl (ex_add rfl rfl rfl (by rw [i64_in (by omega)]; omega)) ?_)
   refine xA (.int .i64 ((i + 1 : Nat) : Int)) rfl (wL ?_)
   simp only [zP, po]
   refine then_normal ?_
   go_roundw
   case rel => exact ⟨i + 1, _, _, M, rfl, (hBC.trans hD), by omega, hM.more hD, (hv.sub (List.Sublist.cons_cons _ (List.Sublist.cons _ (List.Sublist.refl _))))⟩
   case measure => show n - (((i + 1 : Nat) : Int)).toNat < n - ((i : Int)).toNat; omega
  refine xG (.bool false) rfl (ex_lss rfl rfl rfl (decide_eq_false hb22)) ?_
  simp only [zP, po]
  refine wK k21 (cF rfl ?_)
  refine xE (tX ?_)
  refine tX (bH ?_)
  refine tK k17 (sK fun _ k68 => ?_)
  replace hv := Inv.unstar hv
  simp only [txL, List.cons_append, List.nil_append] at hv
  refine rL (xM (.pointer (some ⟨m, 0, none⟩)) rfl ?_)
  refine xM (.pointer (some ⟨t, 0, none⟩)) rfl ?_
  replace hv := hv.front 2 rfl
  simp only [List.eraseIdx_cons_succ, List.eraseIdx_cons_zero] at hv
  replace hv := hv.front 2 rfl
  simp only [List.eraseIdx_cons_succ, List.eraseIdx_cons_zero] at hv
  refine xC l18callable28 rfl ((txnRollback C _ _ t m s va vc sv 0 hv).mono ?_) rfl
  rintro e w69 ⟨va2, vc2, rfl, hv⟩
  refine ⟨_, rfl, ?_⟩
  simp only [zP, po]
  refine xG (.bool true) rfl (ex_eql rfl rfl rfl (by decide)) (xM (.bool true) rfl ?_)
  refine xM (.pointer (some ⟨m, 0, none⟩)) rfl ?_
  simp only [zP, po]
  refine xC l18callable29 rfl ((txnActive0 C _ _ m s va2 vc2 sv 0 hv).mono ?_) rfl
  rintro e w70 ⟨rfl, hv⟩
  refine ⟨_, rfl, ?_⟩
  refine xG (.bool true) rfl (ex_eql rfl rfl rfl (by decide)) (xK true (.bool true) rfl ?_)
  simp only [zP, po]
  refine xM (.bool true) rfl (xM (.pointer (some ⟨m, 0, none⟩)) rfl ?_)
  refine xG (.pointer (some ⟨m, 0, none⟩)) rfl (ex_nil rfl rfl) ?_
  simp only [zP, po]
  refine xF (.pointer (some ⟨m, 0, none⟩)) rfl (x2fa88_0 _ _ _) (xL _ rfl (run_load1 x0na68 (hv.load 0 0 rfl rfl)) ?_)
  replace hv := hv.front 3 rfl
  simp only [List.eraseIdx_cons_succ, List.eraseIdx_cons_zero] at hv
  refine xC x3callable30 rfl ((storeLast0 C _ _ s p hv).mono ?_) rfl
  rintro e w71 ⟨rfl, hv⟩
  refine ⟨_, rfl, ?_⟩
  simp only [zP, po]
  refine xG (.bool true) rfl (ex_eql rfl rfl rfl (by decide)) (xK true (.bool true) rfl ?_)
  refine xM (.bool true) rfl ?_
  simp only [zP, po]
  refine xM (.pointer (some ⟨m, 0, none⟩)) rfl (xG (.pointer (some ⟨m, 0, none⟩)) rfl (ex_nil rfl rfl) ?_)
  refine xF (.pointer (some ⟨m, 0, none⟩)) rfl (x2fa88_0 _ _ _) ?_
  simp only [zP, po]
  refine xL _ rfl (run_load1 x0na68 (hv.load 1 0 rfl rfl)) ?_
  replace hv := hv.front 4 rfl
  simp only [List.eraseIdx_cons_succ, List.eraseIdx_cons_zero] at hv
  replace hv := hv.front 1 rfl
  simp only [List.eraseIdx_cons_succ, List.eraseIdx_cons_zero] at hv
  refine xC l18callable31 rfl ((storeNames0 C _ _ s p 0 0 hv).mono ?_) rfl
  rintro e w72 ⟨rfl, hv⟩
  refine ⟨_, rfl, ?_⟩
  refine xG (.int .i64 0) rfl (ex_len0 Tryz.underlying29 rfl rfl) ?_
  simp only [zP, po]
  refine xG (.bool true) rfl (ex_eql rfl rfl rfl (by decide)) (xK true (.bool true) rfl ?_)
  refine xA (.bool true) rfl ?_
  simp only [zP, po]
  refine wK k68 (rR ?_)
  refine bR rfl rfl (⟨rfl, ((hv.sub (List.Sublist.cons _ (List.Sublist.cons _ (List.Sublist.cons _ (List.Sublist.cons _ (List.Sublist.cons _ (List.Sublist.refl _)))))))).weak hBC⟩)
end Go.Proofs.YtkoghbmjbobfjaaGreat
