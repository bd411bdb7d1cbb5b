/- The evaluator once more, its branches as small functions: quicker for the kernel; and that it is the same. -/
import Derived.Test.YtkhggadoagdhfaaGreatDoorEngE
import Derived.Test.YtkhggadoagdhfaaGreatDoorMem
namespace Go.Eng
open Go
noncomputable section
def o_move (fr : Fr) (σ : St) (x : Operand) : Res (St × V) := (opnd fr x).bind fun v => .ok (σ, v)
def o_pick (fr : Fr) (σ : St) (c : Operand) (a : Operand) (b : Operand) : Res (St × V) := (opnd fr c).bind fun
    | .b t => (opnd fr (cond t a b)).bind fun v => .ok (σ, v)
    | _ => .no "pick"
def o_alloc (P : Pr) (σ : St) (t : TypeId) : Res (St × V) := (ti P t).bind fun i => (zc i).bind fun z => let (σ, k) := new σ (.cells z t false false); .ok (σ, .p (some (k, 0)))
def o_box (fr : Fr) (σ : St) (t : TypeId) (x : Operand) : Res (St × V) := (opnd fr x).bind fun v => cond (allLeaf (cellsOf v)) (let (σ, k) := new σ (.cells (cellsOf v) t false false); .ok (σ, .p (some (k, 0)))) (.no "box")
def o_build (P : Pr) (fr : Fr) (σ : St) (t : TypeId) (ps : Array (Nat × Operand)) : Res (St × V) := (parts fr ps.toList).bind fun l => (build P t l).bind fun v => .ok (σ, v)
def o_buildSlice (P : Pr) (fr : Fr) (σ : St) (t : TypeId) (n : Nat) (ps : Array (Nat × Operand)) : Res (St × V) := (parts fr ps.toList).bind fun l => buildSlice P σ t n l
def o_load (P : Pr) (fr : Fr) (σ : St) (t : TypeId) (x : Operand) : Res (St × V) := (opnd fr x).bind fun
    | .p (some (k, o)) => loadT P σ t k o
    | .wp r j => (ti P t).bind fun i => cond (Nat.beq i.sz 1 && !i.agg) (match P.win r with
      | some (_, cs) => match cs[j]? with
        | some v => .ok (σ, v)
        | none => .no "load"
      | none => .no "load") (.no "load: size")
    | .gl g j => (ti P t).bind fun i => cond (Nat.beq i.sz 1 && !i.agg) (match P.win (g + 1) with
      | some (_, cs) => match cs[j]? with
        | some v => .ok (σ, v)
        | none => .no "load"
      | none => .no "load of a global") (.no "load: size")
    | _ => .no "load"
def o_store (P : Pr) (fr : Fr) (σ : St) (t : TypeId) (x : Operand) (y : Operand) : Res (St × V) := (opnd fr x).bind fun a => (opnd fr y).bind fun v => match a with
    | .p (some (k, o)) => (ti P t).bind fun i => cond (Nat.beq (cellsOf v).length i.sz) ((storeN σ k o (cellsOf v)).bind fun σ => .ok (σ, und)) (.no "store: size")
    | _ => .no "store"
def o_nilCheck (fr : Fr) (σ : St) (x : Operand) : Res (St × V) := (opnd fr x).bind fun
    | .p (some a) => .ok (σ, .p (some a))
    | .f fn a b => (match fn with | .method _ => .no "nilCheck of a method" | _ => .ok (σ, .f fn a b))
    | .t ty v => .ok (σ, .t ty v)
    | _ => .no "nilCheck"
def o_binOp (P : Pr) (fr : Fr) (σ : St) (op : BinOp) (t : TypeId) (x : Operand) (y : Operand) : Res (St × V) := (opnd fr x).bind fun a => (opnd fr y).bind fun b => binOp P σ op t x y a b
def o_unOp (fr : Fr) (σ : St) (op : UnOp) (x : Operand) : Res (St × V) := (opnd fr x).bind fun a => (unOp op a).bind fun v => .ok (σ, v)
def o_convert (P : Pr) (fr : Fr) (σ : St) (s : TypeId) (d : TypeId) (x : Operand) : Res (St × V) := (opnd fr x).bind fun a => convert P σ s d a
def o_makeInterface (P : Pr) (fr : Fr) (σ : St) (t : TypeId) (x : Operand) : Res (St × V) := (opnd fr x).bind fun v => (ti P t).bind fun i => match i.d with
    | .interface _ => .no "makeInterface"
    | _ => .ok (σ, .t t v)
def o_makeFunc (fr : Fr) (σ : St) (fn : Fn) (a : Array Operand) (b : Array Operand) : Res (St × V) := cond (isYield fn) (.no "makeFunc") ((opnds fr a.toList).bind fun a => (opnds fr b.toList).bind fun b => .ok (σ, .f fn a b))
def o_makeSlice (P : Pr) (fr : Fr) (σ : St) (t : TypeId) (l : Operand) (c : Operand) : Res (St × V) := (opnd fr l).bind fun l => (opnd fr c).bind fun c => makeSlice P σ t l c
def o_slice (P : Pr) (fr : Fr) (σ : St) (t : TypeId) (x : Operand) (l : Option Operand) (h : Option Operand) (m : Option Operand) : Res (St × V) := (opnd fr x).bind fun x => (optO fr l).bind fun l => (optO fr h).bind fun h => (optO fr m).bind fun m => slice P σ t x l h m
def o_fieldAddr (P : Pr) (fr : Fr) (σ : St) (t : TypeId) (x : Operand) (f : Nat) : Res (St × V) := (opnd fr x).bind fun x => (fieldAt P t x f).bind fun v => .ok (σ, v)
def o_field (P : Pr) (fr : Fr) (σ : St) (t : TypeId) (x : Operand) (f : Nat) : Res (St × V) := (opnd fr x).bind fun x => (fieldOf P t x f).bind fun v => .ok (σ, v)
def o_indexAddr (P : Pr) (fr : Fr) (σ : St) (t : TypeId) (x : Operand) (i : Operand) : Res (St × V) := (opnd fr x).bind fun x => (opnd fr i).bind fun i => (indexAt P t x i).bind fun v => .ok (σ, v)
def o_index (P : Pr) (fr : Fr) (σ : St) (t : TypeId) (x : Operand) (i : Operand) : Res (St × V) := (opnd fr x).bind fun x => (opnd fr i).bind fun i => (index P t x i).bind fun v => .ok (σ, v)
def o_lookup (P : Pr) (fr : Fr) (σ : St) (t : TypeId) (x : Operand) (i : Operand) (ok : Bool) : Res (St × V) := (opnd fr x).bind fun x => (opnd fr i).bind fun i => lookup P σ t x i ok
def o_mapUpdate (P : Pr) (fr : Fr) (σ : St) (t : TypeId) (m : Operand) (k : Operand) (v : Operand) : Res (St × V) := (opnd fr m).bind fun m => (opnd fr k).bind fun k => (opnd fr v).bind fun v => (mapUp P σ t m k v).bind fun σ => .ok (σ, und)
def o_extract (fr : Fr) (σ : St) (x : Operand) (i : Nat) : Res (St × V) := (opnd fr x).bind fun
    | .u vs => match vs[i]? with | some v => .ok (σ, v) | none => .no "extract"
    | _ => .no "extract"
def o_range (P : Pr) (fr : Fr) (σ : St) (t : TypeId) (x : Operand) : Res (St × V) := (opnd fr x).bind fun x => (ti P t).bind fun i => match i.d, x with
    | .map _ _, .m none => let (σ, k) := new σ (.miter none 0 [] 0); .ok (σ, .p (some (k, 0)))
    | .map _ _, .m (some r) => match obj σ r with
      | .map _ clock => let (σ, k) := new (rd σ r) (.miter (some r) clock [] clock); .ok (σ, .p (some (k, 0)))
      | _ => .no "range"
    | _, _ => .no "range"
def o_call (P : Pr) (ih : Ih) (fr : Fr) (σ : St) (c : Call) : Res (St × V) := (opnds fr c.args.toList).bind fun args => match c.callee with
    | .builtin b => builtin P σ b c.argTypes.toList args
    | .value f => (opnd fr f).bind fun f => callV P ih σ f args
    | .invoke x name => (opnd fr x).bind fun
      | .t t v => (methodOf P t v name).bind fun (f, x) => callF P ih σ f (x :: args)
      | _ => .no "invoke"
def o_entry (fr : Fr) (σ : St) (x : Operand) : Res (St × V) := (opnd fr x).bind fun
    | .p (some (k, 0)) => match obj σ k with
      | .miter (some r) _ seen stepped => match obj σ r, seen.getLast? with
        | .map es clock, some st => cond (Nat.beq clock stepped) (match es.find? (fun e => Nat.beq e.2.2 st) with
          | some e => .ok (rd (rd σ k) r, .u [e.1, e.2.1])
          | none => .no "entry: gone") (.no "entry: an insertion")
        | _, _ => .no "entry"
      | _ => .no "entry"
    | _ => .no "entry"
def operF (P : Pr) (ih : Ih) (fr : Fr) (σ : St) (o : Op) : Res (St × V) := match o with
  | .move x | .assign x => o_move fr σ x
  | .pick c a b => o_pick fr σ c a b
  | .alloc t => o_alloc P σ t
  | .box t x => o_box fr σ t x
  | .build t ps => o_build P fr σ t ps
  | .buildSlice t n ps => o_buildSlice P fr σ t n ps
  | .load t x => o_load P fr σ t x
  | .store t x y => o_store P fr σ t x y
  | .nilCheck x => o_nilCheck fr σ x
  | .binOp op t x y _ => o_binOp P fr σ op t x y
  | .unOp op _ x => o_unOp fr σ op x
  | .convert s d x => o_convert P fr σ s d x
  | .makeInterface t x => o_makeInterface P fr σ t x
  | .makeFunc fn a b => o_makeFunc fr σ fn a b
  | .makeMap _ none => let (σ, k) := new σ (.map [] 0); .ok (σ, .m (some k))
  | .makeMap t (some x) => (ti P t).bind fun i => match i.d with
    | .map _ _ => (opnd fr x).bind fun
      | .i _ _ => let (σ, k) := new σ (.map [] 0); .ok (σ, .m (some k))
      | _ => .no "makeMap: room"
    | _ => .no "makeMap"
  | .makeSlice t l c => o_makeSlice P fr σ t l c
  | .slice t x l h m => o_slice P fr σ t x l h m
  | .fieldAddr t x f => o_fieldAddr P fr σ t x f
  | .field t x f => o_field P fr σ t x f
  | .indexAddr t x i => o_indexAddr P fr σ t x i
  | .index t x i => o_index P fr σ t x i
  | .lookup t x i ok => o_lookup P fr σ t x i ok
  | .mapUpdate t m k v | .insert t m k v => o_mapUpdate P fr σ t m k v
  | .extract x i => o_extract fr σ x i
  | .range t x => o_range P fr σ t x
  | .next x false => (opnd fr x).bind fun
    | .p (some (k, 0)) => match obj σ k with
      | .miter none _ _ _ => .ok (rd σ k, .u [.b false])
      | .miter (some r) since seen last => match obj σ r with
        | .map es clock => nextV σ k r since seen last es clock
        | _ => .no "next: map"
      | _ => .no "next"
    | _ => .no "next"
  | .call c => o_call P ih fr σ c
  | .defer _ => .no "op defer"
  | .entry x => o_entry fr σ x
  | .sliceToArrayPointer _ _ => .no "op sliceToArrayPointer"
  | .next _ true => .no "op next string"
  | .panic _ => .no "op panic"
  | .ready _ => .no "op ready"
  | .waits _ => .no "op waits"
  | _ => .no "op other"
theorem operF_eq (P : Pr) (ih : Ih) (fr : Fr) (σ : St) (o : Oper) : operF P ih fr σ o.op = oper P ih fr σ o := by
  unfold operF oper
  cases o.op <;> rfl
def deferC : Op → Option Call
  | .defer c => some c
  | _ => none
def goF (P : Pr) (ih : Ih) (rnd : Option Nat) (o : Oper) (k : Fr → St → Res (St × Fr)) (fr : Fr) (σ : St) : Res (St × Fr) := match deferC o.op with
  | some c => match rnd with
    | none => (deferV fr c).bind fun d => ({ fr with ds := d :: fr.ds }.put o.dst und).bind fun fr => k fr σ
    | some _ => .no "defer in a round"
  | none => (operF P ih fr σ o.op).bind fun x => (fr.put o.dst x.2).bind fun fr => k fr x.1
def runOpsF (P : Pr) (ih : Ih) (rnd : Option Nat) (ops : List Oper) (l : List Oper) : Fr → St → Res (St × Fr) := List.rec (motive := fun _ => Fr → St → Res (St × Fr))
  (fun fr σ => .ok (σ, fr))
  (fun o _ k fr σ => Bool.rec ((fr.put o.dst und).bind fun fr => k fr σ) (goF P ih rnd o k fr σ) (wantedV ops fr o)) l
def drF (P : Pr) (ih : Ih) (o : Oper) (ms : List Nat) (fps : List (Nat × Nat)) (k : List Nat → List (Nat × Nat) → Fr → St → Res (St × Fr)) (fr : Fr) (σ : St) : Res (St × Fr) :=
  (operF P ih fr { σ with r := 0, w := 0 } o.op).bind fun x => Bool.rec (.no "drawn: not apart")
    ((fr.put o.dst x.2).bind fun fr => k ms.tail (fps ++ [(x.1.r, x.1.w)]) fr { x.1 with r := Nat.lor σ.r x.1.r, w := Nat.lor σ.w x.1.w }) (apart (ms.headD 0) fps 0 x.1.r x.1.w)
def runDrawnF (P : Pr) (ih : Ih) (ops : List Oper) (l : List Oper) : List Nat → List (Nat × Nat) → Fr → St → Res (St × Fr) := List.rec (motive := fun _ => List Nat → List (Nat × Nat) → Fr → St → Res (St × Fr))
  (fun _ _ fr σ => .ok (σ, fr))
  (fun o _ k ms fps fr σ => Bool.rec ((fr.put o.dst und).bind fun fr => k ms.tail (fps ++ [(0, 0)]) fr σ) (drF P ih o ms fps k fr σ) (wantedV ops fr o)) l
theorem runOpsF_eq (P : Pr) (ih : Ih) (rnd : Option Nat) (ops : List Oper) : ∀ (l : List Oper) (fr : Fr) (σ : St), runOpsF P ih rnd ops l fr σ = runOps P ih rnd ops l fr σ
  | [], _, _ => rfl
  | o :: l, fr, σ => by
    have hk : (fun fr σ => runOpsF P ih rnd ops l fr σ) = fun fr σ => runOps P ih rnd ops l fr σ := funext fun fr => funext fun σ => runOpsF_eq P ih rnd ops l fr σ
    show Bool.rec (motive := fun _ => Res (St × Fr)) ((fr.put o.dst und).bind fun fr => runOpsF P ih rnd ops l fr σ) (goF P ih rnd o (fun fr σ => runOpsF P ih rnd ops l fr σ) fr σ) (wantedV ops fr o) = _
    simp only [runOps]
    cases wantedV ops fr o with
    | false =>
      show (fr.put o.dst und).bind (fun fr => runOpsF P ih rnd ops l fr σ) = (fr.put o.dst und).bind (fun fr => runOps P ih rnd ops l fr σ)
      congr 1
      funext fr
      exact runOpsF_eq P ih rnd ops l fr σ
    | true =>
      show goF P ih rnd o (fun fr σ => runOpsF P ih rnd ops l fr σ) fr σ = _
      rw [hk]
      unfold goF
      rw [operF_eq]
      simp only [cond_true]
      cases o.op <;> rfl
theorem runDrawnF_eq (P : Pr) (ih : Ih) (ops : List Oper) : ∀ (l : List Oper) (ms : List Nat) (fps : List (Nat × Nat)) (fr : Fr) (σ : St), runDrawnF P ih ops l ms fps fr σ = runDrawn P ih ops l ms fps fr σ
  | [], _, _, _, _ => rfl
  | o :: l, ms, fps, fr, σ => by
    have hk : (fun ms fps fr σ => runDrawnF P ih ops l ms fps fr σ) = fun ms fps fr σ => runDrawn P ih ops l ms fps fr σ := funext fun ms => funext fun fps => funext fun fr => funext fun σ => runDrawnF_eq P ih ops l ms fps fr σ
    show Bool.rec (motive := fun _ => Res (St × Fr)) ((fr.put o.dst und).bind fun fr => runDrawnF P ih ops l ms.tail (fps ++ [(0, 0)]) fr σ) (drF P ih o ms fps (fun ms fps fr σ => runDrawnF P ih ops l ms fps fr σ) fr σ) (wantedV ops fr o) = _
    simp only [runDrawn]
    cases wantedV ops fr o with
    | false =>
      show (fr.put o.dst und).bind (fun fr => runDrawnF P ih ops l ms.tail (fps ++ [(0, 0)]) fr σ) = (fr.put o.dst und).bind (fun fr => runDrawn P ih ops l ms.tail (fps ++ [(0, 0)]) fr σ)
      congr 1
      funext fr
      exact runDrawnF_eq P ih ops l _ _ fr σ
    | true =>
      show drF P ih o ms fps (fun ms fps fr σ => runDrawnF P ih ops l ms fps fr σ) fr σ = _
      rw [hk]
      unfold drF
      rw [operF_eq]
      simp only [cond_true]
      congr 1
      funext x
      cases apart (ms.headD 0) fps 0 x.1.r x.1.w <;> rfl
def r_region (P : Pr) (ih : Ih) (rnd : Option Nat) (ops : Array Oper) (d : Bool) (fr : Fr) (σ : St) : Res (St × Fr × Exit) := Bool.rec
  ((runOpsF P ih rnd ops.toList ops.toList fr σ).bind fun x => .ok (x.1, x.2, .normal))
  (Bool.rec (.no "drawn: slots") ((runDrawnF P ih ops.toList ops.toList (Pm.masks ops) [] fr σ).bind fun x => .ok (x.1, x.2, .normal)) (drawOk ops)) d
def r_then (ih : Ih) (rnd : Option Nat) (f : FuncId) (b : Code) (x : St × Fr × Exit) : Res (St × Fr × Exit) := match x.2.2 with
  | .normal => ih.exec rnd f b x.2.1 x.1
  | _ => .ok x
def r_cond (ih : Ih) (rnd : Option Nat) (f : FuncId) (x : Operand) (a b : Code) (fr : Fr) (σ : St) : Res (St × Fr × Exit) := (opnd fr x).bind fun
    | .b t => ih.exec rnd f (cond t a b) fr σ
    | _ => .no "cond"
def r_out (id : Nat) (x : St × Fr × Exit) : Res (St × Fr × Exit) := match x.2.2 with
  | .exit j => .ok (x.1, x.2.1, cond (Nat.beq j id) .normal (.exit j))
  | _ => .ok x
def runF (P : Pr) (ih : Ih) (rnd : Option Nat) (f : FuncId) (c : Code) (fr : Fr) (σ : St) : Res (St × Fr × Exit) := match c with
  | .skip | .label _ => .ok (σ, fr, .normal)
  | .region _ ops d => r_region P ih rnd ops d fr σ
  | .seq a b => (ih.exec rnd f a fr σ).bind (r_then ih rnd f b)
  | .cond x a b => r_cond ih rnd f x a b fr σ
  | .block id a => (ih.exec rnd f a fr σ).bind (r_out id)
  | .loop a => (ih.exec rnd f a fr σ).bind (r_then ih rnd f (.loop a))
  | .exit id => .ok (σ, fr, .exit id)
  | .ret => .ok (σ, fr, .ret)
  | .scope b => ih.scope rnd f b b fr σ
  | .goto l => .ok (σ, fr, .goto l)
  | c => run P ih rnd f c fr σ
theorem runF_eq (P : Pr) (ih : Ih) (rnd : Option Nat) (f : FuncId) (c : Code) (fr : Fr) (σ : St) : runF P ih rnd f c fr σ = run P ih rnd f c fr σ := by
  cases c with
  | region id ops d =>
    show r_region P ih rnd ops d fr σ = _
    simp only [run, r_region, runOpsF_eq, runDrawnF_eq]
    cases d with
    | false => rfl
    | true => cases drawOk ops <;> rfl
  | seq a b =>
    show (ih.exec rnd f a fr σ).bind (r_then ih rnd f b) = _
    simp only [run]
    congr 1
    funext x
    obtain ⟨σ', fr', e⟩ := x
    cases e <;> rfl
  | loop a =>
    show (ih.exec rnd f a fr σ).bind (r_then ih rnd f (.loop a)) = _
    simp only [run]
    congr 1
    funext x
    obtain ⟨σ', fr', e⟩ := x
    cases e <;> rfl
  | block id a =>
    show (ih.exec rnd f a fr σ).bind (r_out id) = _
    simp only [run]
    congr 1
    funext x
    obtain ⟨σ', fr', e⟩ := x
    cases e <;> rfl
  | _ => rfl
def stepF (P : Pr) (ih : Ih) : Ih := ⟨fun f args σ => match P.orc f args with
  | some v => .ok (σ, v)
  | none => runCall P ih f args σ, runF P ih, runScope ih⟩
def evF (P : Pr) (n : Nat) : Ih := Nat.rec ⟨fun _ _ _ => .no "fuel", fun _ _ _ _ _ => .no "fuel", fun _ _ _ _ _ _ => .no "fuel"⟩ (fun _ ih => stepF P ih) n
theorem evF_eq (P : Pr) : ∀ n, evF P n = ev P n
  | 0 => rfl
  | n + 1 => by
    show stepF P (evF P n) = step P (ev P n)
    rw [evF_eq P n]
    unfold stepF step
    congr 1
    funext rnd f c fr σ
    exact runF_eq P _ rnd f c fr σ

end
end Go.Eng
/- Laws of a slice of texts, run by the evaluator: so many texts, each short; or the first long one. -/
namespace Go.Eng
open Go Go.RowKit Go.Pm
def strV (s : List UInt8) : Value := .string ⟨s.toArray⟩
theorem rep_strs {w : World} {S : Nat → Prop} {cs : List Value} {l : List (List UInt8)} (h : Rep w S (.slice .str) cs l) :
    ∃ a cap, cs = [.slice a l.length cap] ∧ SliceOk a l.length cap ∧ Src w a (l.map strV) ∧ ∀ s ∈ l, s.length ≤ maxLen := by
  obtain ⟨a, cap, h1, h2, h4⟩ := h
  refine ⟨a, cap, h1, h2, fun i hi => ?_, fun k hk => ?_⟩
  · obtain ⟨b, off, xs, e1, e2, e3, e4, e5⟩ := h4 i (by simpa using hi)
    refine ⟨b, off, e1, ?_⟩
    obtain ⟨e5, -⟩ := e5
    have := e4 0 (by rw [e3]; decide)
    simp only [e5, List.getElem_cons_zero, Ty.size, Nat.mul_one, Nat.add_zero] at this
    rw [this]
    simp [strV]
  · obtain ⟨i, hi, rfl⟩ := List.getElem_of_mem hk
    obtain ⟨b, off, xs, e1, e2, e3, e4, e5⟩ := h4 i hi
    exact e5.2
noncomputable section
def rowBnd (hi long short : Nat) (j : Nat) : Nat × Nat := cond (Nat.beq j 100) (0, hi) (cond (Nat.beq j long) (short + 1, 9223372036854775808) (0, short))
def rowCells : Nat → Nat → List V
  | 0, _ => []
  | k + 1, j => .s [.a j] :: rowCells k (j + 1)
/-- that 'awake' says true is known -/
def orcAw (aw : FuncId) (f : FuncId) (args : List V) : Option V := match args with
  | [] => cond (Nat.beq f aw) (some (.b true)) none
  | _ => none
def freePr (P : Program) : Pr := prOf P (fun _ => (0, 9223372036854775808)) (fun _ => none) (fun _ _ => none)
theorem orcAw_ok {P : Program} (hfol : P.follows .rangeFuncRecover = true) (hmix : P.follows .mixedOrders = true) {aw : FuncId} {fuel : Nat} (h : saysTrue ((evF (freePr P) fuel).call aw [] st0) = true) {α : At} (hα : ∀ j, (α j).length ≤ 9223372036854775808) (f : FuncId) (args : List V) (σ : St) (v : V) (ho : orcAw aw f args = some v) : CallRun P α f args σ σ v := by
  obtain ⟨σ', h⟩ := saysTrue_ok h
  rw [evF_eq] at h
  have hI := (ev_ok (pr := freePr P) (α := α) ⟨fun j => ⟨Nat.zero_le _, hα j⟩, fun j n cs hw => (by cases hw), fun g n cs hw => (by cases hw), fun op a b r h => (by cases h)⟩ (prOk P _ _ _) (fun _ _ _ _ e => by cases e) (fun _ _ _ _ e => by cases e) hfol hmix fuel).call aw [] st0 σ' _ h
  unfold orcAw at ho
  split at ho
  · rw [beq_of] at ho
    by_cases e : f = aw
    · subst e
      simp only [decide_true, cond_true, Option.some.injEq] at ho
      subst ho
      exact pure_call hI rfl rfl
    · simp [e] at ho
  · cases ho
def rowPr (P : Program) (aw : FuncId) (lenV : V) (k hi long short : Nat) : Pr := prOf P (rowBnd hi long short) (fun j => cond (Nat.beq j 0) (some (lenV, rowCells k 0)) none) (orcAw aw)
theorem rowCells_get : ∀ (k j i : Nat), (rowCells k j)[i]? = if i < k then some (V.s [.a (j + i)]) else none
  | 0, j, i => by simp [rowCells]
  | k + 1, j, 0 => by simp [rowCells]
  | k + 1, j, i + 1 => by
    simp only [rowCells, List.getElem?_cons_succ, rowCells_get k (j + 1) i]
    by_cases h : i < k
    · rw [if_pos h, if_pos (by omega), show j + 1 + i = j + (i + 1) by omega]
    · rw [if_neg h, if_neg (by omega)]
theorem rowCells_len : ∀ (k j : Nat), (rowCells k j).length = k
  | 0, _ => rfl
  | k + 1, j => by simp [rowCells, rowCells_len k (j + 1)]
def rowAt (l : List (List UInt8)) (k c b off cap : Nat) (sp : Option Nat) : At where
  txt j := if j = 100 then List.replicate (l.length - c) 0 else if j < k then l.getD j [] else []
  win _ := (b, off, l.length, cap)
  wc j := if j = 0 then rowCells k 0 else []
  spot _ := sp
theorem row_calls {P : Program} {f aw : FuncId} {fuel fuel2 : Nat} (hfol : P.follows .rangeFuncRecover = true) (hmix : P.follows .mixedOrders = true) (haw : saysTrue ((evF (freePr P) fuel2).call aw [] st0) = true) {l : List (List UInt8)} {b off cap : Nat} {W : World}
    {sp : Option Nat} (hsrc : Src W (some ⟨b, off, sp⟩) (l.map strV)) (hmax : ∀ s ∈ l, s.length ≤ 9223372036854775808) (hlen63 : l.length ≤ 9223372036854775808) {k c hi long short : Nat} {lenV : V}
    (hlen : (lenV = .i .i64 l.length ∧ c = l.length) ∨ (lenV = .q .i64 c [100] ∧ c ≤ l.length ∧ l.length - c ≤ hi)) (hk : k ≤ l.length) (hk2 : k ≤ 100)
    (hshort : ∀ j, j < k → j ≠ long → (l.getD j []).length ≤ short) (hlong : long = 100 ∨ (long < k ∧ short < (l.getD long []).length))
    {rest : List V} {restVals : List Value} (hrest : ∀ α, concL α (fun _ => none) rest = some restVals)
    (h : saysTrue ((evF (rowPr P aw lenV k hi long short) fuel).call f (.wl 0 :: rest) st0) = true) :
    Calls P f (Value.slice (some ⟨b, off, sp⟩) l.length cap :: restVals).toArray W fun e W' => e = .returned (.bool true) ∧ Ext W W' := by
  obtain ⟨σ', h⟩ := saysTrue_ok h
  rw [evF_eq] at h
  have hα : AtOk (rowPr P aw lenV k hi long short) (rowAt l k c b off cap sp) := by
    refine ⟨fun j => ?_, fun j n cs hw => ?_, fun g n cs hw => ?_, fun op a b r h => (by cases h)⟩
    · show (rowBnd hi long short j).1 ≤ (rowAt l k c b off cap sp j).length ∧ (rowAt l k c b off cap sp j).length ≤ (rowBnd hi long short j).2
      unfold rowBnd
      rw [beq_of, beq_of]
      by_cases hj : j = 100
      · subst hj
        simp only [rowAt, if_pos, decide_true, cond_true, List.length_replicate]
        rcases hlen with ⟨-, h2⟩ | ⟨-, -, h2⟩ <;> omega
      · by_cases hjl : j = long
        · subst hjl
          rcases hlong with h1 | ⟨h1, h2⟩
          · exact absurd h1 hj
          · simp only [rowAt, hj, h1, if_false, if_true, decide_false, decide_true, cond_false, cond_true]
            have hjl : j < l.length := by omega
            have := hmax (l.getD j []) (by rw [List.getD_eq_getElem?_getD, List.getElem?_eq_getElem hjl]; simp)
            omega
        · simp only [rowAt, hj, hjl, if_false, decide_false, cond_false]
          by_cases hjk : j < k
          · rw [if_pos hjk]
            exact ⟨Nat.zero_le _, hshort j hjk hjl⟩
          · rw [if_neg hjk]; simp
    · have hw : (cond (Nat.beq j 0) (some (lenV, rowCells k 0)) none) = some (n, cs) := hw
      rw [beq_of] at hw
      by_cases hj : j = 0
      · subst hj
        simp only [decide_true, cond_true, Option.some.injEq, Prod.mk.injEq] at hw
        obtain ⟨rfl, rfl⟩ := hw
        refine ⟨by simp [rowAt], by rw [rowCells_len]; exact hk, fun hne => ?_, fun μ => ?_⟩
        · have hk0 : 0 < k := by
            cases k with
            | zero => exact absurd rfl hne
            | succ k => omega
          obtain ⟨b', off', e1, -⟩ := hsrc 0 (by simp; omega)
          cases e1; rfl
        rcases hlen with ⟨rfl, -⟩ | ⟨rfl, h1, -⟩
        · simp only [conc, rowAt]
        · simp only [conc, lenP, rowAt, if_pos, List.length_replicate]
          congr 2
          omega
      · simp [hj] at hw
    · have hw : (cond (Nat.beq (g + 1) 0) (some (lenV, rowCells k 0)) none) = some (n, cs) := hw
      simp [beq_of] at hw
  have h64 : ∀ j, (rowAt l k c b off cap sp j).length ≤ 9223372036854775808 := fun j => by
    simp only [rowAt]
    by_cases hj : j = 100
    · have := hlen63
      rw [if_pos hj, List.length_replicate]; omega
    · rw [if_neg hj]
      by_cases hjk : j < k
      · have hjl : j < l.length := by omega
        rw [if_pos hjk, List.getD_eq_getElem?_getD, List.getElem?_eq_getElem hjl]
        exact hmax _ (by simp)
      · rw [if_neg hjk]; simp
  have hI := (ev_ok hα (prOk P _ _ _) (fun f args σ v ho => orcAw_ok hfol hmix haw h64 f args σ v ho) (fun _ _ _ _ e => by cases e) hfol hmix fuel).call f _ st0 σ' _ h
  have hx : concL (rowAt l k c b off cap sp) (fun _ => none) (.wl 0 :: rest) = some (.slice (some ⟨b, off, sp⟩) l.length cap :: restVals) := concL_mk (by simp only [conc, rowAt]) (hrest _)
  refine (ev_calls hI hx (fun j i v hv => ?_)).mono ?_
  · simp only [rowAt] at hv
    by_cases hj : j = 0
    · subst hj
      rw [if_pos rfl, rowCells_get] at hv
      by_cases hi : i < k
      · rw [if_pos hi] at hv
        cases hv
        obtain ⟨b', off', e1, e2⟩ := hsrc i (by simp; omega)
        cases e1
        refine ⟨_, ?_, e2⟩
        have h100 : i ≠ 100 := by omega
        have hil : i < l.length := by omega
        simp only [conc, bytesP, rowAt, Nat.zero_add, h100, hi, if_false, if_true, List.append_nil]
        simp [strV, List.getD_eq_getElem?_getD, List.getElem?_eq_getElem hil]
      · rw [if_neg hi] at hv; cases hv
    · rw [if_neg hj] at hv; simp at hv
  · rintro e W' ⟨x, μ', rfl, h1, h2⟩
    simp only [conc, Option.some.injEq] at h1
    subst h1
    exact ⟨rfl, h2⟩
end
/-- no texts at all, and no row -/
theorem nil_calls {P : Program} {f : FuncId} {fuel : Nat} (hfol : P.follows .rangeFuncRecover = true) (hmix : P.follows .mixedOrders = true) {W : World} {args : List V} {vals : List Value} (hx : concL plainAt (fun _ => none) args = some vals)
    (h : saysTrue ((evF (plainPr P) fuel).call f args st0) = true) : Calls P f vals.toArray W fun e W' => e = .returned (.bool true) ∧ Ext W W' := by
  obtain ⟨σ', h⟩ := saysTrue_ok h
  rw [evF_eq] at h
  have hI := (ev_ok (plain_ok P) (prOk P _ _ _) (fun _ _ _ _ e => by cases e) (fun _ _ _ _ e => by cases e) hfol hmix fuel).call f args st0 σ' _ h
  refine (ev_calls hI hx (fun j i v hv => by simp [plainAt] at hv)).mono ?_
  rintro e W' ⟨x, μ', rfl, h1, h2⟩
  simp only [conc, Option.some.injEq] at h1
  subst h1
  exact ⟨rfl, h2⟩
/-- the first long one, if there is one -/
theorem first_long (l : List (List UInt8)) (m : Nat) : (∀ j, j < l.length → (l.getD j []).length ≤ m) ∨ ∃ i, i < l.length ∧ m < (l.getD i []).length ∧ ∀ j, j < i → (l.getD j []).length ≤ m := by
  by_cases h : ∃ i, i < l.length ∧ m < (l.getD i []).length
  · obtain ⟨i, h1, h2⟩ := h
    refine .inr ?_
    induction i using Nat.strongRecOn with
    | _ i ih =>
      by_cases h3 : ∃ j, j < i ∧ m < (l.getD j []).length
      · obtain ⟨j, h4, h5⟩ := h3
        exact ih j h4 (by omega) h5
      · exact ⟨i, h1, h2, fun j hj => by
          apply Nat.le_of_not_lt
          intro hh
          exact h3 ⟨j, hj, hh⟩⟩
  · refine .inl fun j hj => ?_
    apply Nat.le_of_not_lt
    intro hh
    exact h ⟨j, hj, hh⟩
end Go.Eng
/- Contracts as known calls; what is known of numbers. -/
namespace Go.Eng
open Go Go.RowKit Go.Pm
section
variable {P : Program} {α : At} {pr : Pr} {f : FuncId} {args : List V} {v : V} {σ : St}
/-- a contract: the call gives a value and adds to memory only -/
theorem callN_of (h : ∀ μ C w M N vals, Pre P α μ C σ w M N → concL α μ args = some vals → ∃ x, conc α μ v = some x ∧ Calls P f vals.toArray w fun e w' => e = .returned x ∧ Ext w w') : CallN P α f args σ σ v := by
  refine ⟨Tr.refl σ, fun μ C w M N vals cs hpre wf hs hN hx => ?_⟩
  obtain ⟨x, h1, h2⟩ := h μ C w M N vals hpre hx
  obtain ⟨e, w', fr, ⟨rfl, he⟩, hc, hfn, l1, l2, l3, fn, l4, l5⟩ := h2 cs
  refine ⟨x, w', μ, C, fr, ⟨⟨⟨fun k hk => ?_, hpre.sim.inj, fun j i v hv => (hpre.sim.win j i v hv).imp fun x hx => ⟨hx.1, by rw [cell_other (he.block _ (cell_lt hx.2))]; exact hx.2⟩, fun j o ho hj => by rw [he.block _ (hpre.sim.winLt hj)]; exact hpre.sim.full j o ho hj, hpre.sim.sep⟩, hpre.ag, hpre.fresh⟩, fun _ _ => rfl, fun _ _ => rfl, fun k b x h1 h2 _ => by omega, fun k hk _ => he.block k hk, he.size, he.os, he.tape, he.output⟩, h1, hc, l1, l2, l3, hfn, fn, by rw [← hfn]; exact l4, l5⟩
  obtain ⟨b, cap, o, h1, h2, h3⟩ := hpre.sim.live k hk
  exact ⟨b, cap, o, h1, by rw [he.block _ (Array.getElem?_eq_some_iff.1 h2).1]; exact h2, h3⟩
end
-- facts of unknown numbers, in a list
def eqNL : List Nat → List Nat → Bool
  | [], [] => true
  | a :: x, b :: y => Nat.beq a b && eqNL x y
  | _, _ => false
theorem eqNL_eq : ∀ {x y : List Nat}, eqNL x y = true → x = y
  | [], [], _ => rfl
  | a :: x, b :: y, h => by
    simp only [eqNL, Bool.and_eq_true] at h
    rw [Nat.eq_of_beq_eq_true h.1, eqNL_eq h.2]
  | [], _ :: _, h => by cases h
  | _ :: _, [], h => by cases h
def vEq : V → V → Bool
  | .q k c us, .q k' c' us' => beqK k k' && ieq c c' && eqNL us us'
  | .i k n, .i k' n' => beqK k k' && ieq n n'
  | _, _ => false
theorem ieq_of {a b : Int} (h : ieq a b = true) : a = b := by
  cases a <;> cases b <;> simp only [ieq] at h <;> first | (rw [Nat.eq_of_beq_eq_true h]) | cases h
theorem vEq_eq {a b : V} (h : vEq a b = true) : a = b := by
  unfold vEq at h
  split at h
  · simp only [Bool.and_eq_true] at h
    rw [beqK_eq h.1.1, ieq_of h.1.2, eqNL_eq h.2]
  · simp only [Bool.and_eq_true] at h
    rw [beqK_eq h.1, ieq_of h.2]
  · cases h
def opNum : BinOp → Nat
  | .add => 1 | .sub => 2 | .mul => 3 | .quo => 4 | .rem => 5 | .eql => 6 | .neq => 7 | .lss => 8 | .leq => 9 | .gtr => 10 | .geq => 11 | _ => 0
theorem opNum_eq {a b : BinOp} (h : opNum a = opNum b) (hb : opNum b ≠ 0) : a = b := by
  cases a <;> cases b <;> simp_all [opNum]
abbrev Facts := List (BinOp × V × V × V)
def findF : Facts → BinOp → V → V → Option V
  | [], _, _, _ => none
  | e :: l, op, x, y => cond (Nat.beq (opNum e.1) (opNum op) && vEq e.2.1 x && vEq e.2.2.1 y) (some e.2.2.2) (findF l op x y)
theorem findF_mem : ∀ {l : Facts} {op : BinOp} {x y r : V}, (∀ e ∈ l, opNum e.1 ≠ 0) → findF l op x y = some r → (op, x, y, r) ∈ l
  | [], _, _, _, _, _, h => by cases h
  | e :: l, op, x, y, r, hn, h => by
    simp only [findF] at h
    cases hc : (Nat.beq (opNum e.1) (opNum op) && vEq e.2.1 x && vEq e.2.2.1 y) with
    | true =>
      rw [hc] at h
      simp only [cond_true, Option.some.injEq] at h
      simp only [Bool.and_eq_true] at hc
      have h1 := opNum_eq (Nat.eq_of_beq_eq_true hc.1.1).symm (hn e (by simp))
      have h2 := vEq_eq hc.1.2
      have h3 := vEq_eq hc.2
      obtain ⟨o, a, b, c⟩ := e
      simp only at h h1 h2 h3
      subst h h1 h2 h3
      simp
    | false =>
      rw [hc] at h
      simp only [cond_false] at h
      exact List.mem_cons_of_mem _ (findF_mem (fun e he => hn e (by simp [he])) h)
/-- what a number is -/
def numOfV (α : At) : V → Option Int
  | .q .i64 c us => some (c + lenP α us)
  | .i .i64 n => some n
  | _ => none
theorem numOfV_conc {α : At} {μ : Mu} {v : V} {n : Int} (h : numOfV α v = some n) : conc α μ v = some (.int .i64 n) := by
  unfold numOfV at h
  split at h
  · cases h; simp only [conc]
  · cases h; simp only [conc]
  · cases h
/-- an entry that holds -/
def FactOk (α : At) (e : BinOp × V × V × V) : Prop := ∃ m n, numOfV α e.2.1 = some m ∧ numOfV α e.2.2.1 = some n ∧ match e.1 with
  | .add => ∃ z, numOfV α e.2.2.2 = some z ∧ z = m + n ∧ -9223372036854775808 ≤ z ∧ z ≤ 9223372036854775807
  | .sub => ∃ z, numOfV α e.2.2.2 = some z ∧ z = m - n ∧ -9223372036854775808 ≤ z ∧ z ≤ 9223372036854775807
  | .rem => ∃ z, numOfV α e.2.2.2 = some z ∧ z = m.tmod n ∧ n ≠ 0
  | .eql => e.2.2.2 = .b (decide (m = n))
  | .neq => e.2.2.2 = .b (!decide (m = n))
  | .lss => e.2.2.2 = .b (decide (m < n))
  | .leq => e.2.2.2 = .b (decide (m ≤ n))
  | .gtr => e.2.2.2 = .b (decide (m > n))
  | .geq => e.2.2.2 = .b (decide (m ≥ n))
  | _ => False
theorem facts_ok {α : At} {l : Facts} (hl : ∀ e ∈ l, FactOk α e) {op : BinOp} {a b r : V} (h : findF l op a b = some r) (P : Program) (o : Oper) (A : Act) (w : World) (t : TypeId) (x y : Operand) (u : TypeId) (μ : Mu) (X Y : Value) (ho : o.op = .binOp op t x y u) (ha : conc α μ a = some X) (hb : conc α μ b = some Y) (hx : A.eval x = X) (hy : A.eval y = Y) :
    ∃ Z, conc α μ r = some Z ∧ Ex P A o w Z w := by
  have hm := findF_mem (fun e he => by
    obtain ⟨m, n, -, -, h3⟩ := hl e he
    obtain ⟨o, a, b, c⟩ := e
    cases o <;> first | (simp [opNum]; done) | exact h3.elim) h
  obtain ⟨m, n, h1, h2, h3⟩ := hl _ hm
  simp only at h1 h2 h3
  rw [numOfV_conc h1] at ha; cases ha
  rw [numOfV_conc h2] at hb; cases hb
  cases op with
  | add => obtain ⟨z, z1, z2, z3, z4⟩ := h3; exact ⟨_, numOfV_conc z1, ex_add ho hx hy (by rw [z2]; exact i64_in (by omega))⟩
  | sub => obtain ⟨z, z1, z2, z3, z4⟩ := h3; exact ⟨_, numOfV_conc z1, ex_sub ho hx hy (by rw [z2]; exact i64_in (by omega))⟩
  | rem => obtain ⟨z, z1, z2, z3⟩ := h3; exact ⟨_, numOfV_conc z1, ex_rem ho hx hy z3 z2.symm⟩
  | eql => subst h3; exact ⟨_, mk_b _, ex_eql ho hx hy rfl⟩
  | neq => subst h3; exact ⟨_, mk_b _, ex_neq ho hx hy (by simp)⟩
  | lss => subst h3; exact ⟨_, mk_b _, ex_lss ho hx hy rfl⟩
  | leq => subst h3; exact ⟨_, mk_b _, ex_leq ho hx hy rfl⟩
  | gtr => subst h3; exact ⟨_, mk_b _, ex_gtr ho hx hy rfl⟩
  | geq => subst h3; exact ⟨_, mk_b _, ex_geq ho hx hy rfl⟩
  | _ => exact h3.elim
-- facts of unknown texts: which are equal
abbrev TFacts := List (List Pc × List Pc × Bool)
def findT : TFacts → BinOp → V → V → Option V
  | [], _, _, _ => none
  | e :: l, op, .s a, .s b => cond (samePs e.1 a && samePs e.2.1 b) (match op with
    | .eql => some (.b e.2.2)
    | .neq => some (.b (!e.2.2))
    | _ => none) (findT l op (.s a) (.s b))
  | _ :: _, _, _, _ => none
def TFactOk (α : At) (e : List Pc × List Pc × Bool) : Prop := decide (bytesP α e.1 = bytesP α e.2.1) = e.2.2
theorem findT_ok {α : At} : ∀ {l : TFacts} {op : BinOp} {x y r : V}, (∀ e ∈ l, TFactOk α e) → findT l op x y = some r → ∃ a b c, x = .s a ∧ y = .s b ∧ decide (bytesP α a = bytesP α b) = c ∧ ((op = .eql ∧ r = .b c) ∨ (op = .neq ∧ r = .b (!c)))
  | [], _, _, _, _, _, h => by cases h
  | e :: l, op, x, y, r, hl, h => by
    cases x with
    | s a =>
      cases y with
      | s b =>
        simp only [findT] at h
        cases hc : (samePs e.1 a && samePs e.2.1 b) with
        | true =>
          rw [hc] at h
          simp only [cond_true] at h
          simp only [Bool.and_eq_true] at hc
          have h1 := samePs_ok (α := α) hc.1
          have h2 := samePs_ok (α := α) hc.2
          have h3 := hl e (by simp)
          unfold TFactOk at h3
          rw [h1, h2] at h3
          split at h
          · cases h; exact ⟨a, b, _, rfl, rfl, h3, .inl ⟨rfl, rfl⟩⟩
          · cases h; exact ⟨a, b, _, rfl, rfl, h3, .inr ⟨rfl, rfl⟩⟩
          · cases h
        | false =>
          rw [hc] at h
          exact findT_ok (fun e he => hl e (by simp [he])) h
      | _ => cases h
    | _ => cases h
theorem tfacts_ok {α : At} {l : TFacts} (hl : ∀ e ∈ l, TFactOk α e) {op : BinOp} {a b r : V} (h : findT l op a b = some r) (P : Program) (o : Oper) (A : Act) (w : World) (t : TypeId) (x y : Operand) (u : TypeId) (μ : Mu) (X Y : Value) (ho : o.op = .binOp op t x y u) (ha : conc α μ a = some X) (hb : conc α μ b = some Y) (hx : A.eval x = X) (hy : A.eval y = Y) :
    ∃ Z, conc α μ r = some Z ∧ Ex P A o w Z w := by
  obtain ⟨p, q, c, rfl, rfl, hd, hr⟩ := findT_ok hl h
  have hX : X = .string ⟨(bytesP α p).toArray⟩ := by simp only [conc, Option.some.injEq] at ha; exact ha.symm
  have hY : Y = .string ⟨(bytesP α q).toArray⟩ := by simp only [conc, Option.some.injEq] at hb; exact hb.symm
  subst hX hY
  have hg : (eqGuard op t x y (.string ⟨(bytesP α p).toArray⟩) (.string ⟨(bytesP α q).toArray⟩)).run P w = .ok () w := by
    unfold eqGuard; cases op <;> simp
  have hq : ∀ w : World, (Op.stringOp .eql ⟨(bytesP α p).toArray⟩ ⟨(bytesP α q).toArray⟩).run P w = .ok (.bool c) w ∧ (Op.stringOp .neq ⟨(bytesP α p).toArray⟩ ⟨(bytesP α q).toArray⟩).run P w = .ok (.bool !c) w := by
    intro w
    rw [← hd]
    refine ⟨?_, ?_⟩ <;> (simp only [Op.stringOp, ba_list, beq_dec]; rfl)
  rcases hr with ⟨rfl, rfl⟩ | ⟨rfl, rfl⟩
  · refine ⟨_, mk_b _, ?_⟩
    unfold Ex
    have hb : Go.binOp .eql t (.string ⟨(bytesP α p).toArray⟩) (.string ⟨(bytesP α q).toArray⟩) = Op.stringOp .eql ⟨(bytesP α p).toArray⟩ ⟨(bytesP α q).toArray⟩ := rfl
    simp [execOp, ho, hx, hy, hg, hb, (hq w).1]
  · refine ⟨_, mk_b _, ?_⟩
    unfold Ex
    have hb : Go.binOp .neq t (.string ⟨(bytesP α p).toArray⟩) (.string ⟨(bytesP α q).toArray⟩) = Op.stringOp .neq ⟨(bytesP α p).toArray⟩ ⟨(bytesP α q).toArray⟩ := rfl
    simp [execOp, ho, hx, hy, hg, hb, (hq w).2]
/-- numbers' facts ahead of texts' -/
def findFT (F : Facts) (T : TFacts) (op : BinOp) (x y : V) : Option V := match findF F op x y with
  | some v => some v
  | none => findT T op x y
theorem ftacts_ok {α : At} {F : Facts} {T : TFacts} (hF : ∀ e ∈ F, FactOk α e) (hT : ∀ e ∈ T, TFactOk α e) {op : BinOp} {a b r : V} (h : findFT F T op a b = some r) (P : Program) (o : Oper) (A : Act) (w : World) (t : TypeId) (x y : Operand) (u : TypeId) (μ : Mu) (X Y : Value) (ho : o.op = .binOp op t x y u) (ha : conc α μ a = some X) (hb : conc α μ b = some Y) (hx : A.eval x = X) (hy : A.eval y = Y) :
    ∃ Z, conc α μ r = some Z ∧ Ex P A o w Z w := by
  unfold findFT at h
  split at h
  · rename_i v hv
    cases h
    exact facts_ok hF hv P o A w t x y u μ X Y ho ha hb hx hy
  · exact tfacts_ok hT h P o A w t x y u μ X Y ho ha hb hx hy
end Go.Eng
