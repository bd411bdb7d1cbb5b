/- The evaluator once more, its branches as small functions: quicker for the kernel; and that it is the same. -/
import Derived.Test.YtffmbdagjpdieaaGreatDoorEngE
import Derived.Test.YtffmbdagjpdieaaGreatDoorMem
namespace Go.Eng
open Go
noncomputable section
def o_move (fr : Fr) (σ : St) (x : Operand) : Res (St × V) := (opnd fr x).bind fun v => .ok (σ, v)
def o_pick (fr : Fr) (σ : St) (c : Operand) (a : Operand) (b : Operand) : Res (St × V) := (opnd fr c).bind fun
    | .b t => (opnd fr (cond t a b)).bind fun v => .ok (σ, v)
    | _ => .no "pick"
def o_alloc (P : Pr) (σ : St) (t : TypeId) : Res (St × V) := (ti P t).bind fun i => (zc i).bind fun z => let (σ, k) := new σ (.cells z t false false); .ok (σ, .p (some (k, 0)))
def o_box (fr : Fr) (σ : St) (t : TypeId) (x : Operand) : Res (St × V) := (opnd fr x).bind fun v => cond (allLeaf (cellsOf v)) (let (σ, k) := new σ (.cells (cellsOf v) t false false); .ok (σ, .p (some (k, 0)))) (.no "box")
def o_build (P : Pr) (fr : Fr) (σ : St) (t : TypeId) (ps : Array (Nat × Operand)) : Res (St × V) := (parts fr ps.toList).bind fun l => (build P t l).bind fun v => .ok (σ, v)
def o_buildSlice (P : Pr) (fr : Fr) (σ : St) (t : TypeId) (n : Nat) (ps : Array (Nat × Operand)) : Res (St × V) := (parts fr ps.toList).bind fun l => buildSlice P σ t n l
def o_load (P : Pr) (fr : Fr) (σ : St) (t : TypeId) (x : Operand) : Res (St × V) := (opnd fr x).bind fun
    | .p (some (k, o)) => loadT P σ t k o
    | .wp r j => (ti P t).bind fun i => cond (Nat.beq i.sz 1 && !i.agg) (match P.win r with
      | some (_, cs) => match cs[j]? with
        | some v => .ok (σ, v)
        | none => .no "load"
      | none => .no "load") (.no "load: size")
    | .gl g j => (ti P t).bind fun i => cond (Nat.beq i.sz 1 && !i.agg) (match P.win (g + 1) with
      | some (_, cs) => match cs[j]? with
        | some v => .ok (σ, v)
        | none => .no "load"
      | none => .no "load of a global") (.no "load: size")
    | _ => .no "load"
def o_store (P : Pr) (fr : Fr) (σ : St) (t : TypeId) (x : Operand) (y : Operand) : Res (St × V) := (opnd fr x).bind fun a => (opnd fr y).bind fun v => match a with
    | .p (some (k, o)) => (ti P t).bind fun i => cond (Nat.beq (cellsOf v).length i.sz) ((storeN σ k o (cellsOf v)).bind fun σ => .ok (σ, und)) (.no "store: size")
    | _ => .no "store"
def o_nilCheck (fr : Fr) (σ : St) (x : Operand) : Res (St × V) := (opnd fr x).bind fun
    | .p (some a) => .ok (σ, .p (some a))
    | .f fn a b => (match fn with | .method _ => .no "nilCheck of a method" | _ => .ok (σ, .f fn a b))
    | .t ty v => .ok (σ, .t ty v)
    | _ => .no "nilCheck"
def o_binOp (P : Pr) (fr : Fr) (σ : St) (op : BinOp) (t : TypeId) (x : Operand) (y : Operand) : Res (St × V) := (opnd fr x).bind fun a => (opnd fr y).bind fun b => binOp P σ op t x y a b
def o_unOp (fr : Fr) (σ : St) (op : UnOp) (x : Operand) : Res (St × V) := (opnd fr x).bind fun a => (unOp op a).bind fun v => .ok (σ, v)
def o_convert (P : Pr) (fr : Fr) (σ : St) (s : TypeId) (d : TypeId) (x : Operand) : Res (St × V) := (opnd fr x).bind fun a => convert P σ s d a
def o_makeInterface (P : Pr) (fr : Fr) (σ : St) (t : TypeId) (x : Operand) : Res (St × V) := (opnd fr x).bind fun v => (ti P t).bind fun i => match i.d with
    | .interface _ => .no "makeInterface"
    | _ => .ok (σ, .t t v)
def o_makeFunc (fr : Fr) (σ : St) (fn : Fn) (a : Array Operand) (b : Array Operand) : Res (St × V) := cond (isYield fn) (.no "makeFunc") ((opnds fr a.toList).bind fun a => (opnds fr b.toList).bind fun b => .ok (σ, .f fn a b))
def o_makeSlice (P : Pr) (fr : Fr) (σ : St) (t : TypeId) (l : Operand) (c : Operand) : Res (St × V) := (opnd fr l).bind fun l => (opnd fr c).bind fun c => makeSlice P σ t l c
def o_slice (P : Pr) (fr : Fr) (σ : St) (t : TypeId) (x : Operand) (l : Option Operand) (h : Option Operand) (m : Option Operand) : Res (St × V) := (opnd fr x).bind fun x => (optO fr l).bind fun l => (optO fr h).bind fun h => (optO fr m).bind fun m => slice P σ t x l h m
def o_fieldAddr (P : Pr) (fr : Fr) (σ : St) (t : TypeId) (x : Operand) (f : Nat) : Res (St × V) := (opnd fr x).bind fun x => (fieldAt P t x f).bind fun v => .ok (σ, v)
def o_field (P : Pr) (fr : Fr) (σ : St) (t : TypeId) (x : Operand) (f : Nat) : Res (St × V) := (opnd fr x).bind fun x => (fieldOf P t x f).bind fun v => .ok (σ, v)
def o_indexAddr (P : Pr) (fr : Fr) (σ : St) (t : TypeId) (x : Operand) (i : Operand) : Res (St × V) := (opnd fr x).bind fun x => (opnd fr i).bind fun i => (indexAt P t x i).bind fun v => .ok (σ, v)
def o_index (P : Pr) (fr : Fr) (σ : St) (t : TypeId) (x : Operand) (i : Operand) : Res (St × V) := (opnd fr x).bind fun x => (opnd fr i).bind fun i => (index P t x i).bind fun v => .ok (σ, v)
def o_lookup (P : Pr) (fr : Fr) (σ : St) (t : TypeId) (x : Operand) (i : Operand) (ok : Bool) : Res (St × V) := (opnd fr x).bind fun x => (opnd fr i).bind fun i => lookup P σ t x i ok
def o_mapUpdate (P : Pr) (fr : Fr) (σ : St) (t : TypeId) (m : Operand) (k : Operand) (v : Operand) : Res (St × V) := (opnd fr m).bind fun m => (opnd fr k).bind fun k => (opnd fr v).bind fun v => (mapUp P σ t m k v).bind fun σ => .ok (σ, und)
def o_extract (fr : Fr) (σ : St) (x : Operand) (i : Nat) : Res (St × V) := (opnd fr x).bind fun
    | .u vs => match vs[i]? with | some v => .ok (σ, v) | none => .no "extract"
    | _ => .no "extract"
def o_range (P : Pr) (fr : Fr) (σ : St) (t : TypeId) (x : Operand) : Res (St × V) := (opnd fr x).bind fun x => (ti P t).bind fun i => match i.d, x with
    | .map _ _, .m none => let (σ, k) := new σ (.miter none 0 [] 0); .ok (σ, .p (some (k, 0)))
    | .map _ _, .m (some r) => match obj σ r with
      | .map _ clock => let (σ, k) := new (rd σ r) (.miter (some r) clock [] clock); .ok (σ, .p (some (k, 0)))
      | _ => .no "range"
    | _, _ => .no "range"
def o_call (P : Pr) (ih : Ih) (fr : Fr) (σ : St) (c : Call) : Res (St × V) := (opnds fr c.args.toList).bind fun args => match c.callee with
    | .builtin b => builtin P σ b c.argTypes.toList args
    | .value f => (opnd fr f).bind fun f => callV P ih σ f args
    | .invoke x name => (opnd fr x).bind fun
      | .t t v => (methodOf P t v name).bind fun (f, x) => callF P ih σ f (x :: args)
      | _ => .no "invoke"
def o_entry (fr : Fr) (σ : St) (x : Operand) : Res (St × V) := (opnd fr x).bind fun
    | .p (some (k, 0)) => match obj σ k with
      | .miter (some r) _ seen stepped => match obj σ r, seen.getLast? with
        | .map es clock, some st => cond (Nat.beq clock stepped) (match es.find? (fun e => Nat.beq e.2.2 st) with
          | some e => .ok (rd (rd σ k) r, .u [e.1, e.2.1])
          | none => .no "entry: gone") (.no "entry: an insertion")
        | _, _ => .no "entry"
      | _ => .no "entry"
    | _ => .no "entry"
def operF (P : Pr) (ih : Ih) (fr : Fr) (σ : St) (o : Op) : Res (St × V) := match o with
  | .move x | .assign x => o_move fr σ x
  | .pick c a b => o_pick fr σ c a b
  | .alloc t => o_alloc P σ t
  | .box t x => o_box fr σ t x
  | .build t ps => o_build P fr σ t ps
  | .buildSlice t n ps => o_buildSlice P fr σ t n ps
  | .load t x => o_load P fr σ t x
  | .store t x y => o_store P fr σ t x y
  | .nilCheck x => o_nilCheck fr σ x
  | .binOp op t x y _ => o_binOp P fr σ op t x y
  | .unOp op _ x => o_unOp fr σ op x
  | .convert s d x => o_convert P fr σ s d x
  | .makeInterface t x => o_makeInterface P fr σ t x
  | .makeFunc fn a b => o_makeFunc fr σ fn a b
  | .makeMap _ none => let (σ, k) := new σ (.map [] 0); .ok (σ, .m (some k))
  | .makeMap t (some x) => (ti P t).bind fun i => match i.d with
    | .map _ _ => (opnd fr x).bind fun
      | .i _ _ => let (σ, k) := new σ (.map [] 0); .ok (σ, .m (some k))
      | _ => .no "makeMap: room"
    | _ => .no "makeMap"
  | .makeSlice t l c => o_makeSlice P fr σ t l c
  | .slice t x l h m => o_slice P fr σ t x l h m
  | .fieldAddr t x f => o_fieldAddr P fr σ t x f
  | .field t x f => o_field P fr σ t x f
  | .indexAddr t x i => o_indexAddr P fr σ t x i
  | .index t x i => o_index P fr σ t x i
  | .lookup t x i ok => o_lookup P fr σ t x i ok
  | .mapUpdate t m k v | .insert t m k v => o_mapUpdate P fr σ t m k v
  | .extract x i => o_extract fr σ x i
  | .range t x => o_range P fr σ t x
  | .next x false => (opnd fr x).bind fun
    | .p (some (k, 0)) => match obj σ k with
      | .miter none _ _ _ => .ok (rd σ k, .u [.b false])
      | .miter (some r) since seen last => match obj σ r with
        | .map es clock => nextV σ k r since seen last es clock
        | _ => .no "next: map"
      | _ => .no "next"
    | _ => .no "next"
  | .call c => o_call P ih fr σ c
  | .defer _ => .no "op defer"
  | .entry x => o_entry fr σ x
  | .sliceToArrayPointer _ _ => .no "op sliceToArrayPointer"
  | .next _ true => .no "op next string"
  | .panic _ => .no "op panic"
  | .ready _ => .no "op ready"
  | .waits _ => .no "op waits"
  | _ => .no "op other"
theorem operF_eq (P : Pr) (ih : Ih) (fr : Fr) (σ : St) (o : Oper) : operF P ih fr σ o.op = oper P ih fr σ o := by
  unfold operF oper
  cases o.op <;> rfl
def deferC : Op → Option Call
  | .defer c => some c
  | _ => none
def goF (P : Pr) (ih : Ih) (rnd : Option Nat) (o : Oper) (k : Fr → St → Res (St × Fr)) (fr : Fr) (σ : St) : Res (St × Fr) := match deferC o.op with
  | some c => match rnd with
    | none => (deferV fr c).bind fun d => ({ fr with ds := d :: fr.ds }.put o.dst und).bind fun fr => k fr σ
    | some _ => .no "defer in a round"
  | none => (operF P ih fr σ o.op).bind fun x => (fr.put o.dst x.2).bind fun fr => k fr x.1
def runOpsF (P : Pr) (ih : Ih) (rnd : Option Nat) (ops : List Oper) (l : List Oper) : Fr → St → Res (St × Fr) := List.rec (motive := fun _ => Fr → St → Res (St × Fr))
  (fun fr σ => .ok (σ, fr))
  (fun o _ k fr σ => Bool.rec ((fr.put o.dst und).bind fun fr => k fr σ) (goF P ih rnd o k fr σ) (wantedV ops fr o)) l
def drF (P : Pr) (ih : Ih) (o : Oper) (ms : List Nat) (fps : List (Nat × Nat)) (k : List Nat → List (Nat × Nat) → Fr → St → Res (St × Fr)) (fr : Fr) (σ : St) : Res (St × Fr) :=
  (operF P ih fr { σ with r := 0, w := 0 } o.op).bind fun x => Bool.rec (.no "drawn: not apart")
    ((fr.put o.dst x.2).bind fun fr => k ms.tail (fps ++ [(x.1.r, x.1.w)]) fr { x.1 with r := Nat.lor σ.r x.1.r, w := Nat.lor σ.w x.1.w }) (apart (ms.headD 0) fps 0 x.1.r x.1.w)
def runDrawnF (P : Pr) (ih : Ih) (ops : List Oper) (l : List Oper) : List Nat → List (Nat × Nat) → Fr → St → Res (St × Fr) := List.rec (motive := fun _ => List Nat → List (Nat × Nat) → Fr → St → Res (St × Fr))
  (fun _ _ fr σ => .ok (σ, fr))
  (fun o _ k ms fps fr σ => Bool.rec ((fr.put o.dst und).bind fun fr => k ms.tail (fps ++ [(0, 0)]) fr σ) (drF P ih o ms fps k fr σ) (wantedV ops fr o)) l
theorem runOpsF_eq (P : Pr) (ih : Ih) (rnd : Option Nat) (ops : List Oper) : ∀ (l : List Oper) (fr : Fr) (σ : St), runOpsF P ih rnd ops l fr σ = runOps P ih rnd ops l fr σ
  | [], _, _ => rfl
  | o :: l, fr, σ => by
    have hk : (fun fr σ => runOpsF P ih rnd ops l fr σ) = fun fr σ => runOps P ih rnd ops l fr σ := funext fun fr => funext fun σ => runOpsF_eq P ih rnd ops l fr σ
    show Bool.rec (motive := fun _ => Res (St × Fr)) ((fr.put o.dst und).bind fun fr => runOpsF P ih rnd ops l fr σ) (goF P ih rnd o (fun fr σ => runOpsF P ih rnd ops l fr σ) fr σ) (wantedV ops fr o) = _
    simp only [runOps]
    cases wantedV ops fr o with
    | false =>
      show (fr.put o.dst und).bind (fun fr => runOpsF P ih rnd ops l fr σ) = (fr.put o.dst und).bind (fun fr => runOps P ih rnd ops l fr σ)
      congr 1
      funext fr
      exact runOpsF_eq P ih rnd ops l fr σ
    | true =>
      show goF P ih rnd o (fun fr σ => runOpsF P ih rnd ops l fr σ) fr σ = _
      rw [hk]
      unfold goF
      rw [operF_eq]
      simp only [cond_true]
      cases o.op <;> rfl
theorem runDrawnF_eq (P : Pr) (ih : Ih) (ops : List Oper) : ∀ (l : List Oper) (ms : List Nat) (fps : List (Nat × Nat)) (fr : Fr) (σ : St), runDrawnF P ih ops l ms fps fr σ = runDrawn P ih ops l ms fps fr σ
  | [], _, _, _, _ => rfl
  | o :: l, ms, fps, fr, σ => by
    have hk : (fun ms fps fr σ => runDrawnF P ih ops l ms fps fr σ) = fun ms fps fr σ => runDrawn P ih ops l ms fps fr σ := funext fun ms => funext fun fps => funext fun fr => funext fun σ => runDrawnF_eq P ih ops l ms fps fr σ
    show Bool.rec (motive := fun _ => Res (St × Fr)) ((fr.put o.dst und).bind fun fr => runDrawnF P ih ops l ms.tail (fps ++ [(0, 0)]) fr σ) (drF P ih o ms fps (fun ms fps fr σ => runDrawnF P ih ops l ms fps fr σ) fr σ) (wantedV ops fr o) = _
    simp only [runDrawn]
    cases wantedV ops fr o with
    | false =>
      show (fr.put o.dst und).bind (fun fr => runDrawnF P ih ops l ms.tail (fps ++ [(0, 0)]) fr σ) = (fr.put o.dst und).bind (fun fr => runDrawn P ih ops l ms.tail (fps ++ [(0, 0)]) fr σ)
      congr 1
      funext fr
      exact runDrawnF_eq P ih ops l _ _ fr σ
    | true =>
      show drF P ih o ms fps (fun ms fps fr σ => runDrawnF P ih ops l ms fps fr σ) fr σ = _
      rw [hk]
      unfold drF
      rw [operF_eq]
      simp only [cond_true]
      congr 1
      funext x
      cases apart (ms.headD 0) fps 0 x.1.r x.1.w <;> rfl
def r_region (P : Pr) (ih : Ih) (rnd : Option Nat) (ops : Array Oper) (d : Bool) (fr : Fr) (σ : St) : Res (St × Fr × Exit) := Bool.rec
  ((runOpsF P ih rnd ops.toList ops.toList fr σ).bind fun x => .ok (x.1, x.2, .normal))
  (Bool.rec (.no "drawn: slots") ((runDrawnF P ih ops.toList ops.toList (Pm.masks ops) [] fr σ).bind fun x => .ok (x.1, x.2, .normal)) (drawOk ops)) d
def r_then (ih : Ih) (rnd : Option Nat) (f : FuncId) (b : Code) (x : St × Fr × Exit) : Res (St × Fr × Exit) := match x.2.2 with
  | .normal => ih.exec rnd f b x.2.1 x.1
  | _ => .ok x
def r_cond (ih : Ih) (rnd : Option Nat) (f : FuncId) (x : Operand) (a b : Code) (fr : Fr) (σ : St) : Res (St × Fr × Exit) := (opnd fr x).bind fun
    | .b t => ih.exec rnd f (cond t a b) fr σ
    | _ => .no "cond"
def r_out (id : Nat) (x : St × Fr × Exit) : Res (St × Fr × Exit) := match x.2.2 with
  | .exit j => .ok (x.1, x.2.1, cond (Nat.beq j id) .normal (.exit j))
  | _ => .ok x
def runF (P : Pr) (ih : Ih) (rnd : Option Nat) (f : FuncId) (c : Code) (fr : Fr) (σ : St) : Res (St × Fr × Exit) := match c with
  | .skip | .label _ => .ok (σ, fr, .normal)
  | .region _ ops d => r_region P ih rnd ops d fr σ
  | .seq a b => (ih.exec rnd f a fr σ).bind (r_then ih rnd f b)
  | .cond x a b => r_cond ih rnd f x a b fr σ
  | .block id a => (ih.exec rnd f a fr σ).bind (r_out id)
  | .loop a => (ih.exec rnd f a fr σ).bind (r_then ih rnd f (.loop a))
  | .exit id => .ok (σ, fr, .exit id)
  | .ret => .ok (σ, fr, .ret)
  | .scope b => ih.scope rnd f b b fr σ
  | .goto l => .ok (σ, fr, .goto l)
  | c => run P ih rnd f c fr σ
theorem runF_eq (P : Pr) (ih : Ih) (rnd : Option Nat) (f : FuncId) (c : Code) (fr : Fr) (σ : St) : runF P ih rnd f c fr σ = run P ih rnd f c fr σ := by
  cases c with
  | region id ops d =>
    show r_region P ih rnd ops d fr σ = _
    simp only [run, r_region, runOpsF_eq, runDrawnF_eq]
    cases d with
    | false => rfl
    | true => cases drawOk ops <;> rfl
  | seq a b =>
    show (ih.exec rnd f a fr σ).bind (r_then ih rnd f b) = _
    simp only [run]
    congr 1
    funext x
    obtain ⟨σ', fr', e⟩ := x
    cases e <;> rfl
  | loop a =>
    show (ih.exec rnd f a fr σ).bind (r_then ih rnd f (.loop a)) = _
    simp only [run]
    congr 1
    funext x
    obtain ⟨σ', fr', e⟩ := x
    cases e <;> rfl
  | block id a =>
    show (ih.exec rnd f a fr σ).bind (r_out id) = _
    simp only [run]
    congr 1
    funext x
    obtain ⟨σ', fr', e⟩ := x
    cases e <;> rfl
  | _ => rfl
def stepF (P : Pr) (ih : Ih) : Ih := ⟨fun f args σ => match P.orc f args σ with
  | some x => .ok x
  | none => runCall P ih f args σ, runF P ih, runScope ih⟩
def evF (P : Pr) (n : Nat) : Ih := Nat.rec ⟨fun _ _ _ => .no "fuel", fun _ _ _ _ _ => .no "fuel", fun _ _ _ _ _ _ => .no "fuel"⟩ (fun _ ih => stepF P ih) n
theorem evF_eq (P : Pr) : ∀ n, evF P n = ev P n
  | 0 => rfl
  | n + 1 => by
    show stepF P (evF P n) = step P (ev P n)
    rw [evF_eq P n]
    unfold stepF step
    congr 1
    funext rnd f c fr σ
    exact runF_eq P _ rnd f c fr σ

end
end Go.Eng
/- Laws of a slice of texts, run by the evaluator: so many texts, each short; or the first long one. -/
namespace Go.Eng
open Go Go.RowKit Go.Pm
def strV (s : List UInt8) : Value := .string ⟨s.toArray⟩
theorem rep_strs {w : World} {S : Nat → Prop} {cs : List Value} {l : List (List UInt8)} (h : Rep w S (.slice .str) cs l) :
    ∃ a cap, cs = [.slice a l.length cap] ∧ SliceOk a l.length cap ∧ Src w a (l.map strV) ∧ ∀ s ∈ l, s.length ≤ maxLen := by
  obtain ⟨a, cap, h1, h2, h4⟩ := h
  refine ⟨a, cap, h1, h2, fun i hi => ?_, fun k hk => ?_⟩
  · obtain ⟨b, off, xs, e1, e2, e3, e4, e5⟩ := h4 i (by simpa using hi)
    refine ⟨b, off, e1, ?_⟩
    obtain ⟨e5, -⟩ := e5
    have := e4 0 (by rw [e3]; decide)
    simp only [e5, List.getElem_cons_zero, Ty.size, Nat.mul_one, Nat.add_zero] at this
    rw [this]
    simp [strV]
  · obtain ⟨i, hi, rfl⟩ := List.getElem_of_mem hk
    obtain ⟨b, off, xs, e1, e2, e3, e4, e5⟩ := h4 i hi
    exact e5.2
noncomputable section
def rowBnd (hi long short : Nat) (j : Nat) : Nat × Nat := cond (Nat.beq j 100) (0, hi) (cond (Nat.beq j long) (short + 1, 9223372036854775808) (0, short))
def rowCells : Nat → Nat → List V
  | 0, _ => []
  | k + 1, j => .s [.a j] :: rowCells k (j + 1)
/-- that 'awake' says true is known -/
def orcAw (aw : FuncId) (f : FuncId) (args : List V) : Option V := match args with
  | [] => cond (Nat.beq f aw) (some (.b true)) none
  | _ => none
def freePr (P : Program) : Pr := prOf P (fun _ => (0, 9223372036854775808)) (fun _ => none) (fun _ _ => none)
theorem orcAw_ok {P : Program} (hfol : P.follows .rangeFuncRecover = true) (hmix : P.follows .mixedOrders = true) {aw : FuncId} {fuel : Nat} (h : saysTrue ((evF (freePr P) fuel).call aw [] st0) = true) {α : At} (hα : ∀ j, (α j).length ≤ 9223372036854775808) (f : FuncId) (args : List V) (σ : St) (v : V) (ho : orcAw aw f args = some v) : CallRun P α f args σ σ v := by
  obtain ⟨σ', h⟩ := saysTrue_ok h
  rw [evF_eq] at h
  have hI := (ev_ok (pr := freePr P) (α := α) ⟨fun j => ⟨Nat.zero_le _, hα j⟩, fun j n cs hw => (by cases hw), fun g n cs hw => (by cases hw), fun op a b r h => (by cases h)⟩ (prOk P _ _ _) (fun _ _ _ _ _ e => (stay_no e).elim) (fun _ _ _ _ _ e => (stay_no e).elim) hfol hmix fuel).call aw [] st0 σ' _ h
  unfold orcAw at ho
  split at ho
  · rw [beq_of] at ho
    by_cases e : f = aw
    · subst e
      simp only [decide_true, cond_true, Option.some.injEq] at ho
      subst ho
      exact pure_call hI rfl rfl
    · simp [e] at ho
  · cases ho
def rowPr (P : Program) (aw : FuncId) (lenV : V) (k hi long short : Nat) : Pr := prOf P (rowBnd hi long short) (fun j => cond (Nat.beq j 0) (some (lenV, rowCells k 0)) none) (orcAw aw)
theorem rowCells_get : ∀ (k j i : Nat), (rowCells k j)[i]? = if i < k then some (V.s [.a (j + i)]) else none
  | 0, j, i => by simp [rowCells]
  | k + 1, j, 0 => by simp [rowCells]
  | k + 1, j, i + 1 => by
    simp only [rowCells, List.getElem?_cons_succ, rowCells_get k (j + 1) i]
    by_cases h : i < k
    · rw [if_pos h, if_pos (by omega), show j + 1 + i = j + (i + 1) by omega]
    · rw [if_neg h, if_neg (by omega)]
theorem rowCells_len : ∀ (k j : Nat), (rowCells k j).length = k
  | 0, _ => rfl
  | k + 1, j => by simp [rowCells, rowCells_len k (j + 1)]
def rowAt (l : List (List UInt8)) (k c b off cap : Nat) (sp : Option Nat) : At where
  txt j := if j = 100 then List.replicate (l.length - c) 0 else if j < k then l.getD j [] else []
  win _ := (b, off, l.length, cap)
  wc j := if j = 0 then rowCells k 0 else []
  spot _ := sp
theorem row_calls {P : Program} {f aw : FuncId} {fuel fuel2 : Nat} (hfol : P.follows .rangeFuncRecover = true) (hmix : P.follows .mixedOrders = true) (haw : saysTrue ((evF (freePr P) fuel2).call aw [] st0) = true) {l : List (List UInt8)} {b off cap : Nat} {W : World}
    {sp : Option Nat} (hsrc : Src W (some ⟨b, off, sp⟩) (l.map strV)) (hmax : ∀ s ∈ l, s.length ≤ 9223372036854775808) (hlen63 : l.length ≤ 9223372036854775808) {k c hi long short : Nat} {lenV : V}
    (hlen : (lenV = .i .i64 l.length ∧ c = l.length) ∨ (lenV = .q .i64 c [100] ∧ c ≤ l.length ∧ l.length - c ≤ hi)) (hk : k ≤ l.length) (hk2 : k ≤ 100)
    (hshort : ∀ j, j < k → j ≠ long → (l.getD j []).length ≤ short) (hlong : long = 100 ∨ (long < k ∧ short < (l.getD long []).length))
    {rest : List V} {restVals : List Value} (hrest : ∀ α, concL α (fun _ => none) rest = some restVals)
    (h : saysTrue ((evF (rowPr P aw lenV k hi long short) fuel).call f (.wl 0 :: rest) st0) = true) :
    Calls P f (Value.slice (some ⟨b, off, sp⟩) l.length cap :: restVals).toArray W fun e W' => e = .returned (.bool true) ∧ Ext W W' := by
  obtain ⟨σ', h⟩ := saysTrue_ok h
  rw [evF_eq] at h
  have hα : AtOk (rowPr P aw lenV k hi long short) (rowAt l k c b off cap sp) := by
    refine ⟨fun j => ?_, fun j n cs hw => ?_, fun g n cs hw => ?_, fun op a b r h => (by cases h)⟩
    · show (rowBnd hi long short j).1 ≤ (rowAt l k c b off cap sp j).length ∧ (rowAt l k c b off cap sp j).length ≤ (rowBnd hi long short j).2
      unfold rowBnd
      rw [beq_of, beq_of]
      by_cases hj : j = 100
      · subst hj
        simp only [rowAt, if_pos, decide_true, cond_true, List.length_replicate]
        rcases hlen with ⟨-, h2⟩ | ⟨-, -, h2⟩ <;> omega
      · by_cases hjl : j = long
        · subst hjl
          rcases hlong with h1 | ⟨h1, h2⟩
          · exact absurd h1 hj
          · simp only [rowAt, hj, h1, if_false, if_true, decide_false, decide_true, cond_false, cond_true]
            have hjl : j < l.length := by omega
            have := hmax (l.getD j []) (by rw [List.getD_eq_getElem?_getD, List.getElem?_eq_getElem hjl]; simp)
            omega
        · simp only [rowAt, hj, hjl, if_false, decide_false, cond_false]
          by_cases hjk : j < k
          · rw [if_pos hjk]
            exact ⟨Nat.zero_le _, hshort j hjk hjl⟩
          · rw [if_neg hjk]; simp
    · have hw : (cond (Nat.beq j 0) (some (lenV, rowCells k 0)) none) = some (n, cs) := hw
      rw [beq_of] at hw
      by_cases hj : j = 0
      · subst hj
        simp only [decide_true, cond_true, Option.some.injEq, Prod.mk.injEq] at hw
        obtain ⟨rfl, rfl⟩ := hw
        refine ⟨by simp [rowAt], by rw [rowCells_len]; exact hk, fun hne => ?_, fun μ => ?_⟩
        · have hk0 : 0 < k := by
            cases k with
            | zero => exact absurd rfl hne
            | succ k => omega
          obtain ⟨b', off', e1, -⟩ := hsrc 0 (by simp; omega)
          cases e1; rfl
        rcases hlen with ⟨rfl, -⟩ | ⟨rfl, h1, -⟩
        · simp only [conc, rowAt]
        · simp only [conc, lenP, rowAt, if_pos, List.length_replicate]
          congr 2
          omega
      · simp [hj] at hw
    · have hw : (cond (Nat.beq (g + 1) 0) (some (lenV, rowCells k 0)) none) = some (n, cs) := hw
      simp [beq_of] at hw
  have h64 : ∀ j, (rowAt l k c b off cap sp j).length ≤ 9223372036854775808 := fun j => by
    simp only [rowAt]
    by_cases hj : j = 100
    · have := hlen63
      rw [if_pos hj, List.length_replicate]; omega
    · rw [if_neg hj]
      by_cases hjk : j < k
      · have hjl : j < l.length := by omega
        rw [if_pos hjk, List.getD_eq_getElem?_getD, List.getElem?_eq_getElem hjl]
        exact hmax _ (by simp)
      · rw [if_neg hjk]; simp
  have hI := (ev_ok hα (prOk P _ _ _) (fun f args σ σ' v ho => by obtain ⟨h1, rfl⟩ := stay_some ho; exact orcAw_ok hfol hmix haw h64 f args _ v h1) (fun _ _ _ _ _ e => (stay_no e).elim) hfol hmix fuel).call f _ st0 σ' _ h
  have hx : concL (rowAt l k c b off cap sp) (fun _ => none) (.wl 0 :: rest) = some (.slice (some ⟨b, off, sp⟩) l.length cap :: restVals) := concL_mk (by simp only [conc, rowAt]) (hrest _)
  refine (ev_calls hI hx (fun j i v hv => ?_)).mono ?_
  · simp only [rowAt] at hv
    by_cases hj : j = 0
    · subst hj
      rw [if_pos rfl, rowCells_get] at hv
      by_cases hi : i < k
      · rw [if_pos hi] at hv
        cases hv
        obtain ⟨b', off', e1, e2⟩ := hsrc i (by simp; omega)
        cases e1
        refine ⟨_, ?_, e2⟩
        have h100 : i ≠ 100 := by omega
        have hil : i < l.length := by omega
        simp only [conc, bytesP, rowAt, Nat.zero_add, h100, hi, if_false, if_true, List.append_nil]
        simp [strV, List.getD_eq_getElem?_getD, List.getElem?_eq_getElem hil]
      · rw [if_neg hi] at hv; cases hv
    · rw [if_neg hj] at hv; simp at hv
  · rintro e W' ⟨x, μ', rfl, h1, h2⟩
    simp only [conc, Option.some.injEq] at h1
    subst h1
    exact ⟨rfl, h2⟩
end
/-- no texts at all, and no row -/
theorem nil_calls {P : Program} {f : FuncId} {fuel : Nat} (hfol : P.follows .rangeFuncRecover = true) (hmix : P.follows .mixedOrders = true) {W : World} {args : List V} {vals : List Value} (hx : concL plainAt (fun _ => none) args = some vals)
    (h : saysTrue ((evF (plainPr P) fuel).call f args st0) = true) : Calls P f vals.toArray W fun e W' => e = .returned (.bool true) ∧ Ext W W' := by
  obtain ⟨σ', h⟩ := saysTrue_ok h
  rw [evF_eq] at h
  have hI := (ev_ok (plain_ok P) (prOk P _ _ _) (fun _ _ _ _ _ e => (stay_no e).elim) (fun _ _ _ _ _ e => (stay_no e).elim) hfol hmix fuel).call f args st0 σ' _ h
  refine (ev_calls hI hx (fun j i v hv => by simp [plainAt] at hv)).mono ?_
  rintro e W' ⟨x, μ', rfl, h1, h2⟩
  simp only [conc, Option.some.injEq] at h1
  subst h1
  exact ⟨rfl, h2⟩
/-- the first long one, if there is one -/
theorem first_long (l : List (List UInt8)) (m : Nat) : (∀ j, j < l.length → (l.getD j []).length ≤ m) ∨ ∃ i, i < l.length ∧ m < (l.getD i []).length ∧ ∀ j, j < i → (l.getD j []).length ≤ m := by
  by_cases h : ∃ i, i < l.length ∧ m < (l.getD i []).length
  · obtain ⟨i, h1, h2⟩ := h
    refine .inr ?_
    induction i using Nat.strongRecOn with
    | _ i ih =>
      by_cases h3 : ∃ j, j < i ∧ m < (l.getD j []).length
      · obtain ⟨j, h4, h5⟩ := h3
        exact ih j h4 (by omega) h5
      · exact ⟨i, h1, h2, fun j hj => by
          apply Nat.le_of_not_lt
          intro hh
          exact h3 ⟨j, hj, hh⟩⟩
  · refine .inl fun j hj => ?_
    apply Nat.le_of_not_lt
    intro hh
    exact h ⟨j, hj, hh⟩
end Go.Eng
/- Contracts as known calls; what is known of numbers. -/
namespace Go.Eng
open Go Go.RowKit Go.Pm
section
variable {P : Program} {α : At} {pr : Pr} {f : FuncId} {args : List V} {v : V} {σ : St}
/-- a contract: the call gives a value and adds to memory only -/
theorem callN_of (h : ∀ μ C w M N vals, Pre P α μ C σ w M N → concL α μ args = some vals → ∃ x, conc α μ v = some x ∧ Calls P f vals.toArray w fun e w' => e = .returned x ∧ Ext w w') : CallN P α f args σ σ v := by
  refine ⟨Tr.refl σ, fun μ C w M N vals cs hpre wf hs hN hx => ?_⟩
  obtain ⟨x, h1, h2⟩ := h μ C w M N vals hpre hx
  obtain ⟨e, w', fr, ⟨rfl, he⟩, hc, hfn, l1, l2, l3, fn, l4, l5⟩ := h2 cs
  refine ⟨x, w', μ, C, fr, ⟨⟨⟨fun k hk => ?_, hpre.sim.inj, fun j i v hv => (hpre.sim.win j i v hv).imp fun x hx => ⟨hx.1, by rw [cell_other (he.block _ (cell_lt hx.2))]; exact hx.2⟩, fun j o ho hj => by rw [he.block _ (hpre.sim.winLt hj)]; exact hpre.sim.full j o ho hj, hpre.sim.sep⟩, hpre.ag, hpre.fresh⟩, fun _ _ => rfl, fun _ _ => rfl, fun k b x h1 h2 _ => by omega, fun k hk _ => he.block k hk, he.size, he.os, he.tape, he.output⟩, h1, hc, l1, l2, l3, hfn, fn, by rw [← hfn]; exact l4, l5⟩
  obtain ⟨b, cap, o, h1, h2, h3⟩ := hpre.sim.live k hk
  exact ⟨b, cap, o, h1, by rw [he.block _ (Array.getElem?_eq_some_iff.1 h2).1]; exact h2, h3⟩
end
-- facts of unknown numbers, in a list
def eqNL : List Nat → List Nat → Bool
  | [], [] => true
  | a :: x, b :: y => Nat.beq a b && eqNL x y
  | _, _ => false
theorem eqNL_eq : ∀ {x y : List Nat}, eqNL x y = true → x = y
  | [], [], _ => rfl
  | a :: x, b :: y, h => by
    simp only [eqNL, Bool.and_eq_true] at h
    rw [Nat.eq_of_beq_eq_true h.1, eqNL_eq h.2]
  | [], _ :: _, h => by cases h
  | _ :: _, [], h => by cases h
def vEq : V → V → Bool
  | .q k c us, .q k' c' us' => beqK k k' && ieq c c' && eqNL us us'
  | .i k n, .i k' n' => beqK k k' && ieq n n'
  | _, _ => false
theorem ieq_of {a b : Int} (h : ieq a b = true) : a = b := by
  cases a <;> cases b <;> simp only [ieq] at h <;> first | (rw [Nat.eq_of_beq_eq_true h]) | cases h
theorem vEq_eq {a b : V} (h : vEq a b = true) : a = b := by
  unfold vEq at h
  split at h
  · simp only [Bool.and_eq_true] at h
    rw [beqK_eq h.1.1, ieq_of h.1.2, eqNL_eq h.2]
  · simp only [Bool.and_eq_true] at h
    rw [beqK_eq h.1, ieq_of h.2]
  · cases h
def opNum : BinOp → Nat
  | .add => 1 | .sub => 2 | .mul => 3 | .quo => 4 | .rem => 5 | .eql => 6 | .neq => 7 | .lss => 8 | .leq => 9 | .gtr => 10 | .geq => 11 | _ => 0
theorem opNum_eq {a b : BinOp} (h : opNum a = opNum b) (hb : opNum b ≠ 0) : a = b := by
  cases a <;> cases b <;> simp_all [opNum]
abbrev Facts := List (BinOp × V × V × V)
def findF : Facts → BinOp → V → V → Option V
  | [], _, _, _ => none
  | e :: l, op, x, y => cond (Nat.beq (opNum e.1) (opNum op) && vEq e.2.1 x && vEq e.2.2.1 y) (some e.2.2.2) (findF l op x y)
theorem findF_mem : ∀ {l : Facts} {op : BinOp} {x y r : V}, (∀ e ∈ l, opNum e.1 ≠ 0) → findF l op x y = some r → (op, x, y, r) ∈ l
  | [], _, _, _, _, _, h => by cases h
  | e :: l, op, x, y, r, hn, h => by
    simp only [findF] at h
    cases hc : (Nat.beq (opNum e.1) (opNum op) && vEq e.2.1 x && vEq e.2.2.1 y) with
    | true =>
      rw [hc] at h
      simp only [cond_true, Option.some.injEq] at h
      simp only [Bool.and_eq_true] at hc
      have h1 := opNum_eq (Nat.eq_of_beq_eq_true hc.1.1).symm (hn e (by simp))
      have h2 := vEq_eq hc.1.2
      have h3 := vEq_eq hc.2
      obtain ⟨o, a, b, c⟩ := e
      simp only at h h1 h2 h3
      subst h h1 h2 h3
      simp
    | false =>
      rw [hc] at h
      simp only [cond_false] at h
      exact List.mem_cons_of_mem _ (findF_mem (fun e he => hn e (by simp [he])) h)
/-- what a number is -/
def numOfV (α : At) : V → Option Int
  | .q .i64 c us => some (c + lenP α us)
  | .i .i64 n => some n
  | _ => none
theorem numOfV_conc {α : At} {μ : Mu} {v : V} {n : Int} (h : numOfV α v = some n) : conc α μ v = some (.int .i64 n) := by
  unfold numOfV at h
  split at h
  · cases h; simp only [conc]
  · cases h; simp only [conc]
  · cases h
/-- an entry that holds -/
def FactOk (α : At) (e : BinOp × V × V × V) : Prop := ∃ m n, numOfV α e.2.1 = some m ∧ numOfV α e.2.2.1 = some n ∧ match e.1 with
  | .add => ∃ z, numOfV α e.2.2.2 = some z ∧ z = m + n ∧ -9223372036854775808 ≤ z ∧ z ≤ 9223372036854775807
  | .sub => ∃ z, numOfV α e.2.2.2 = some z ∧ z = m - n ∧ -9223372036854775808 ≤ z ∧ z ≤ 9223372036854775807
  | .rem => ∃ z, numOfV α e.2.2.2 = some z ∧ z = m.tmod n ∧ n ≠ 0
  | .eql => e.2.2.2 = .b (decide (m = n))
  | .neq => e.2.2.2 = .b (!decide (m = n))
  | .lss => e.2.2.2 = .b (decide (m < n))
  | .leq => e.2.2.2 = .b (decide (m ≤ n))
  | .gtr => e.2.2.2 = .b (decide (m > n))
  | .geq => e.2.2.2 = .b (decide (m ≥ n))
  | _ => False
theorem facts_ok {α : At} {l : Facts} (hl : ∀ e ∈ l, FactOk α e) {op : BinOp} {a b r : V} (h : findF l op a b = some r) (P : Program) (o : Oper) (A : Act) (w : World) (t : TypeId) (x y : Operand) (u : TypeId) (μ : Mu) (X Y : Value) (ho : o.op = .binOp op t x y u) (ha : conc α μ a = some X) (hb : conc α μ b = some Y) (hx : A.eval x = X) (hy : A.eval y = Y) :
    ∃ Z, conc α μ r = some Z ∧ Ex P A o w Z w := by
  have hm := findF_mem (fun e he => by
    obtain ⟨m, n, -, -, h3⟩ := hl e he
    obtain ⟨o, a, b, c⟩ := e
    cases o <;> first | (simp [opNum]; done) | exact h3.elim) h
  obtain ⟨m, n, h1, h2, h3⟩ := hl _ hm
  simp only at h1 h2 h3
  rw [numOfV_conc h1] at ha; cases ha
  rw [numOfV_conc h2] at hb; cases hb
  cases op with
  | add => obtain ⟨z, z1, z2, z3, z4⟩ := h3; exact ⟨_, numOfV_conc z1, ex_add ho hx hy (by rw [z2]; exact i64_in (by omega))⟩
  | sub => obtain ⟨z, z1, z2, z3, z4⟩ := h3; exact ⟨_, numOfV_conc z1, ex_sub ho hx hy (by rw [z2]; exact i64_in (by omega))⟩
  | rem => obtain ⟨z, z1, z2, z3⟩ := h3; exact ⟨_, numOfV_conc z1, ex_rem ho hx hy z3 z2.symm⟩
  | eql => subst h3; exact ⟨_, mk_b _, ex_eql ho hx hy rfl⟩
  | neq => subst h3; exact ⟨_, mk_b _, ex_neq ho hx hy (by simp)⟩
  | lss => subst h3; exact ⟨_, mk_b _, ex_lss ho hx hy rfl⟩
  | leq => subst h3; exact ⟨_, mk_b _, ex_leq ho hx hy rfl⟩
  | gtr => subst h3; exact ⟨_, mk_b _, ex_gtr ho hx hy rfl⟩
  | geq => subst h3; exact ⟨_, mk_b _, ex_geq ho hx hy rfl⟩
  | _ => exact h3.elim
-- facts of unknown texts: which are equal
abbrev TFacts := List (List Pc × List Pc × Bool)
def findT : TFacts → BinOp → V → V → Option V
  | [], _, _, _ => none
  | e :: l, op, .s a, .s b => cond (samePs e.1 a && samePs e.2.1 b) (match op with
    | .eql => some (.b e.2.2)
    | .neq => some (.b (!e.2.2))
    | _ => none) (findT l op (.s a) (.s b))
  | _ :: _, _, _, _ => none
def TFactOk (α : At) (e : List Pc × List Pc × Bool) : Prop := decide (bytesP α e.1 = bytesP α e.2.1) = e.2.2
theorem findT_ok {α : At} : ∀ {l : TFacts} {op : BinOp} {x y r : V}, (∀ e ∈ l, TFactOk α e) → findT l op x y = some r → ∃ a b c, x = .s a ∧ y = .s b ∧ decide (bytesP α a = bytesP α b) = c ∧ ((op = .eql ∧ r = .b c) ∨ (op = .neq ∧ r = .b (!c)))
  | [], _, _, _, _, _, h => by cases h
  | e :: l, op, x, y, r, hl, h => by
    cases x with
    | s a =>
      cases y with
      | s b =>
        simp only [findT] at h
        cases hc : (samePs e.1 a && samePs e.2.1 b) with
        | true =>
          rw [hc] at h
          simp only [cond_true] at h
          simp only [Bool.and_eq_true] at hc
          have h1 := samePs_ok (α := α) hc.1
          have h2 := samePs_ok (α := α) hc.2
          have h3 := hl e (by simp)
          unfold TFactOk at h3
          rw [h1, h2] at h3
          split at h
          · cases h; exact ⟨a, b, _, rfl, rfl, h3, .inl ⟨rfl, rfl⟩⟩
          · cases h; exact ⟨a, b, _, rfl, rfl, h3, .inr ⟨rfl, rfl⟩⟩
          · cases h
        | false =>
          rw [hc] at h
          exact findT_ok (fun e he => hl e (by simp [he])) h
      | _ => cases h
    | _ => cases h
theorem tfacts_ok {α : At} {l : TFacts} (hl : ∀ e ∈ l, TFactOk α e) {op : BinOp} {a b r : V} (h : findT l op a b = some r) (P : Program) (o : Oper) (A : Act) (w : World) (t : TypeId) (x y : Operand) (u : TypeId) (μ : Mu) (X Y : Value) (ho : o.op = .binOp op t x y u) (ha : conc α μ a = some X) (hb : conc α μ b = some Y) (hx : A.eval x = X) (hy : A.eval y = Y) :
    ∃ Z, conc α μ r = some Z ∧ Ex P A o w Z w := by
  obtain ⟨p, q, c, rfl, rfl, hd, hr⟩ := findT_ok hl h
  have hX : X = .string ⟨(bytesP α p).toArray⟩ := by simp only [conc, Option.some.injEq] at ha; exact ha.symm
  have hY : Y = .string ⟨(bytesP α q).toArray⟩ := by simp only [conc, Option.some.injEq] at hb; exact hb.symm
  subst hX hY
  have hg : (eqGuard op t x y (.string ⟨(bytesP α p).toArray⟩) (.string ⟨(bytesP α q).toArray⟩)).run P w = .ok () w := by
    unfold eqGuard; cases op <;> simp
  have hq : ∀ w : World, (Op.stringOp .eql ⟨(bytesP α p).toArray⟩ ⟨(bytesP α q).toArray⟩).run P w = .ok (.bool c) w ∧ (Op.stringOp .neq ⟨(bytesP α p).toArray⟩ ⟨(bytesP α q).toArray⟩).run P w = .ok (.bool !c) w := by
    intro w
    rw [← hd]
    refine ⟨?_, ?_⟩ <;> (simp only [Op.stringOp, ba_list, beq_dec]; rfl)
  rcases hr with ⟨rfl, rfl⟩ | ⟨rfl, rfl⟩
  · refine ⟨_, mk_b _, ?_⟩
    unfold Ex
    have hb : Go.binOp .eql t (.string ⟨(bytesP α p).toArray⟩) (.string ⟨(bytesP α q).toArray⟩) = Op.stringOp .eql ⟨(bytesP α p).toArray⟩ ⟨(bytesP α q).toArray⟩ := rfl
    simp [execOp, ho, hx, hy, hg, hb, (hq w).1]
  · refine ⟨_, mk_b _, ?_⟩
    unfold Ex
    have hb : Go.binOp .neq t (.string ⟨(bytesP α p).toArray⟩) (.string ⟨(bytesP α q).toArray⟩) = Op.stringOp .neq ⟨(bytesP α p).toArray⟩ ⟨(bytesP α q).toArray⟩ := rfl
    simp [execOp, ho, hx, hy, hg, hb, (hq w).2]
/-- numbers' facts ahead of texts' -/
def findFT (F : Facts) (T : TFacts) (op : BinOp) (x y : V) : Option V := match findF F op x y with
  | some v => some v
  | none => findT T op x y
theorem ftacts_ok {α : At} {F : Facts} {T : TFacts} (hF : ∀ e ∈ F, FactOk α e) (hT : ∀ e ∈ T, TFactOk α e) {op : BinOp} {a b r : V} (h : findFT F T op a b = some r) (P : Program) (o : Oper) (A : Act) (w : World) (t : TypeId) (x y : Operand) (u : TypeId) (μ : Mu) (X Y : Value) (ho : o.op = .binOp op t x y u) (ha : conc α μ a = some X) (hb : conc α μ b = some Y) (hx : A.eval x = X) (hy : A.eval y = Y) :
    ∃ Z, conc α μ r = some Z ∧ Ex P A o w Z w := by
  unfold findFT at h
  split at h
  · rename_i v hv
    cases h
    exact facts_ok hF hv P o A w t x y u μ X Y ho ha hb hx hy
  · exact tfacts_ok hT h P o A w t x y u μ X Y ho ha hb hx hy
end Go.Eng
/- Known calls that make a row. -/
namespace Go.Eng
open Go Go.RowKit Go.Pm
section
variable {P : Program} {α : At} {μ : Mu} {c : Nat → O} {σ σ' : St} {w w' : World} {M : Nat → Prop} {N : Nat} {f : FuncId} {args : List V}
structure MadeAt (b : Nat) (w w' : World) (o : Obj) : Prop where
  new : w.heap.size ≤ b
  at_ : w'.heap[b]? = some o
  other : ∀ j, j < w.heap.size → w'.heap[j]? = w.heap[j]?
  size : w.heap.size ≤ w'.heap.size
  os : w'.os = w.os
  tape : w'.tape = w.tape
  output : w'.output = w.output
theorem Post.newAt (h : Pre P α μ c σ w M N) (wf : Wf σ) (hM : M σ.nx) (hN : σ.nx + 1 ≤ N) {o : Obj} {b cap : Nat} (hw : MadeAt b w w' o) {x : O} (hx : ObjR P α (upd μ σ.nx (some (b, cap))) cap x o) :
    Post P α μ c σ w (upd μ σ.nx (some (b, cap))) (upd c σ.nx x) (Eng.new σ x).1 w' M N := by
  have hfr : μ σ.nx = none := h.fresh σ.nx (Nat.le_refl _) (by omega)
  have hle : μ.Le (upd μ σ.nx (some (b, cap))) := fun j y hj => by
    rw [upd_ne _ _ (by intro e; subst e; rw [hfr] at hj; cases hj)]; exact hj
  have hcd : c σ.nx = .dead := by rw [h.ag _ hM]; exact wf _ (Nat.le_refl _)
  have hnew := hw.new
  refine ⟨⟨⟨fun j hj => ?_, fun i j b' x' y' h1 h2 h3 h4 => ?_, fun j i v hv => (h.sim.win j i v hv).imp fun x hx => ⟨hx.1, by rw [cell_other (hw.other _ (h.sim.winLt (win_ne hv)))]; exact hx.2⟩, fun j o ho hj => by rw [hw.other _ (h.sim.winLt hj)]; exact h.sim.full j o ho hj, fun i b' x' h1 h2 j hj => by
    by_cases e : i = σ.nx
    · subst e
      rw [upd_same] at h2; cases h2
      exact Nat.ne_of_gt (Nat.lt_of_lt_of_le (h.sim.winLt hj) hnew)
    · rw [upd_ne _ _ e] at h1 h2
      exact h.sim.sep i b' x' h1 h2 j hj⟩, fun j hj => ?_, fun j h1 h2 => ?_⟩, fun j hj => ?_, fun j hj => ?_, fun j b' y h1 h2 hy => ?_, fun b' h1 _ => hw.other b' h1, hw.size, hw.os, hw.tape, hw.output⟩
  · by_cases e : j = σ.nx
    · subst e
      rw [upd_same, upd_same]
      exact ⟨_, cap, o, rfl, hw.at_, hx⟩
    · rw [upd_ne _ _ e] at hj
      rw [upd_ne _ _ e, upd_ne _ _ e]
      obtain ⟨b', cap', o', h1, h2, h3⟩ := h.sim.live j hj
      exact ⟨b', cap', o', h1, by rw [hw.other b' (Array.getElem?_eq_some_iff.1 h2).1]; exact h2, h3.mono hle⟩
  · by_cases e : i = σ.nx
    · by_cases e' : j = σ.nx
      · rw [e, e']
      · subst e
        rw [upd_same] at h3; cases h3
        rw [upd_ne _ _ e'] at h2 h4
        have := h.lt h2 h4
        omega
    · by_cases e' : j = σ.nx
      · subst e'
        rw [upd_same] at h4; cases h4
        rw [upd_ne _ _ e] at h1 h3
        have := h.lt h1 h3
        omega
      · rw [upd_ne _ _ e] at h1 h3
        rw [upd_ne _ _ e'] at h2 h4
        exact h.sim.inj i j b' x' y' h1 h2 h3 h4
  · rw [obj_new]
    by_cases e : j = σ.nx
    · subst e; rw [upd_same, if_pos rfl]
    · rw [upd_ne _ _ e, if_neg e]; exact h.ag j hj
  · have h1' : σ.nx + 1 ≤ j := h1
    rw [upd_ne _ _ (by omega)]
    exact h.fresh j (by omega) h2
  · have : j ≠ σ.nx := by
      rcases hj with hj | hj
      · omega
      · have : σ.nx + 1 ≤ j := hj
        omega
    rw [upd_ne _ _ this]
  · change (Nat.lor σ.w (2 ^ σ.nx)).testBit j = false at hj
    rw [bit_lor] at hj
    rw [upd_ne _ _ (by intro e; simp [e] at hj)]
  · have : j = σ.nx := by
      have : j < σ.nx + 1 := h2
      omega
    subst this
    rw [upd_same] at hy; cases hy
    exact .inl hnew
/-- a row of plain values is the same in any numbering -/
theorem objR_flat {μ μ' : Mu} {cap : Nat} {L : List V} {ty : TypeId} {gr st : Bool} {o : Obj} (hL : flatL L = true) (h : ObjR P α μ cap (.cells L ty gr st) o) : ObjR P α μ' cap (.cells L ty gr st) o := by
  obtain ⟨vs, arr, fz, h1, h2⟩ := h
  exact ⟨vs, arr, fz, flatL_any L hL h1, h2⟩
/-- a call that gives a new row of plain values does so in any state -/
theorem row_call {σ0 : St} {k n : Nat} {cp : Cp} {L : List V} {ty : TypeId} {gr st : Bool} (hI : CallRun P α f args st0 σ0 (.sl (some (k, 0)) n cp)) (ha : flatL args = true) (hk : obj σ0 k = .cells L ty gr st) (hL : flatL L = true) :
    CallRun P α f args σ (Eng.new σ (.cells L ty gr st)).1 (.sl (some (σ.nx, 0)) n cp) := by
  refine ⟨tr_new σ _, fun μ C w M N vals kind cs hpre wf hs hN hx hcalm => ?_⟩
  have hpre0 : Pre P α (fun _ => none) (fun _ => .dead) st0 w (fun _ => True) σ0.nx :=
    ⟨⟨fun k h => absurd rfl h, fun j k b x y h => absurd rfl h, hpre.sim.win, hpre.sim.full, fun k b x h => absurd rfl h⟩, fun _ _ => rfl, fun _ _ _ => rfl⟩
  obtain ⟨x, w', μ', C', frX, P1, q1, q2, q3⟩ := hI.2 _ _ w _ _ vals kind cs hpre0 wf0 (fun _ _ => trivial) (Nat.le_refl _) (flatL_any args ha hx) hcalm
  have hfr : ∀ k, k < w.heap.size → w'.heap[k]? = w.heap[k]? := fun k hk => P1.frame k hk fun j y _ h => absurd rfl h
  have hC : C' k = obj σ0 k := P1.pre.ag k trivial
  obtain ⟨b, cap, o, m1, m2, m3⟩ := P1.pre.sim.live k (by rw [hC, hk]; intro e; cases e)
  rw [hC, hk] at m3
  have hlt : k < σ0.nx := by
    by_cases e : k < σ0.nx
    · exact e
    · have := hI.1.wf wf0 k (by omega)
      rw [hk] at this; cases this
  have hb : w.heap.size ≤ b := by
    rcases P1.born k b cap (Nat.zero_le _) hlt m1 with h | ⟨j, y, -, h, -⟩
    · exact h
    · exact absurd h (Nat.not_lt_zero _)
  have hM : M σ.nx := hs σ.nx (.inr (by show (Nat.lor σ.w (2 ^ σ.nx)).testBit σ.nx = true; rw [bit_lor]; simp))
  have hpost := Post.newAt hpre wf hM hN (b := b) (cap := cap) (o := o) ⟨hb, m2, hfr, P1.size, P1.os, P1.tape, P1.output⟩ (x := .cells L ty gr st) (objR_flat hL m3)
  refine ⟨x, w', _, _, frX, hpost, ?_, q2, q3⟩
  cases cp with
  | k cc =>
    simp only [conc, m1, Option.map_some] at q1
    simp only [conc, upd_same, Option.map_some]
    exact q1
  | u e =>
    simp only [conc, m1, Option.map_some] at q1
    simp only [conc, upd_same, Option.map_some]
    exact q1
/-- a state with one row in it -/
noncomputable def stRow (o : O) : St := ⟨T.set .dead 1 .e 0 o, 1, 0, 0⟩
theorem obj_stRow (o : O) (j : Nat) : obj (stRow o) j = if j = 0 then o else .dead := by
  simp only [obj, stRow]
  rw [T.get_set _ _ _ _ _ _ (Nat.lt_succ_self 0)]
  split <;> rfl
/-- a call that reads one row and gives a new one does so in any state with such a row -/
theorem row_call2 {σ0 : St} {k k0 n m : Nat} {cp cp' : Cp} {L L' : List V} {ty ty' : TypeId} {gr gr' st st' : Bool} {x : V} (hI : CallRun P α f [.sl (some (0, 0)) n cp, x] (stRow (.cells L ty gr st)) σ0 (.sl (some (k, 0)) m cp')) (hx : flat x = true) (hL : flatL L = true)
    (hk : obj σ0 k = .cells L' ty' gr' st') (h1 : 1 ≤ k) (h0 : σ0.w.testBit 0 = false) (hL' : flatL L' = true) (hl : obj σ k0 = .cells L ty gr st) :
    CallRun P α f [.sl (some (k0, 0)) n cp, x] σ (Eng.new (rd σ k0) (.cells L' ty' gr' st')).1 (.sl (some (σ.nx, 0)) m cp') := by
  refine ⟨(tr_rd σ k0).trans (tr_new _ _), fun μ C w M N vals kind cs hpre wf hs hN hv hcalm => ?_⟩
  have hM0 : M k0 := hs k0 (.inl (by show (Nat.lor σ.r (2 ^ k0)).testBit k0 = true; rw [bit_lor]; simp))
  have hC0 : C k0 = .cells L ty gr st := by rw [hpre.ag k0 hM0, hl]
  obtain ⟨b0, cap0, o0, m1, m2, m3⟩ := hpre.sim.live k0 (by rw [hC0]; intro e; cases e)
  rw [hC0] at m3
  have hpre0 : Pre P α (fun j => if j = 0 then μ k0 else none) (fun j => if j = 0 then .cells L ty gr st else .dead) (stRow (.cells L ty gr st)) w (fun _ => True) σ0.nx := by
    refine ⟨⟨fun j hj => ?_, fun i j b u v h1 h2 h3 h4 => ?_, hpre.sim.win, hpre.sim.full, fun j b u h1 h2 => ?_⟩, fun j _ => by rw [obj_stRow], fun j hj _ => if_neg (by have : 1 ≤ j := hj; omega)⟩
    · by_cases e : j = 0
      · subst e
        exact ⟨b0, cap0, o0, by rw [if_pos rfl]; exact m1, m2, objR_flat hL m3⟩
      · rw [if_neg e] at hj; exact absurd rfl hj
    · by_cases e : i = 0
      · by_cases e' : j = 0
        · rw [e, e']
        · rw [if_neg e'] at h2; exact absurd rfl h2
      · rw [if_neg e] at h1; exact absurd rfl h1
    · by_cases e : j = 0
      · subst e
        rw [if_pos rfl] at h2
        exact hpre.sim.sep k0 b u (by rw [hC0]; intro e; cases e) h2
      · rw [if_neg e] at h1; exact absurd rfl h1
  have wf0' : Wf (stRow (.cells L ty gr st)) := fun j hj => by rw [obj_stRow, if_neg (by have : 1 ≤ j := hj; omega)]
  have hargs : concL α (fun j => if j = 0 then μ k0 else none) [.sl (some (0, 0)) n cp, x] = some vals := by
    obtain ⟨X, ys, a1, a2, rfl⟩ := concL_cons hv
    obtain ⟨Y, zs, a3, a4, rfl⟩ := concL_cons a2
    refine concL_mk ?_ (concL_mk (flat_any x hx a3) a4)
    cases cp with
    | k cc => simpa only [conc, if_pos] using a1
    | u e => simpa only [conc, if_pos] using a1
  obtain ⟨y, w', μ', C', frX, P1, q1, q2, q3⟩ := hI.2 _ _ w _ _ vals kind cs hpre0 wf0' (fun _ _ => trivial) (Nat.le_refl _) hargs hcalm
  have hfr : ∀ b, b < w.heap.size → w'.heap[b]? = w.heap[b]? := fun b hb => P1.frame b hb fun j y h2 h3 h4 => by
    by_cases e : j = 0
    · subst e; rw [h0] at h2; cases h2
    · rw [if_neg e] at h3; exact absurd rfl h3
  have hC : C' k = obj σ0 k := P1.pre.ag k trivial
  obtain ⟨b, cap, o, m4, m5, m6⟩ := P1.pre.sim.live k (by rw [hC, hk]; intro e; cases e)
  rw [hC, hk] at m6
  have hlt : k < σ0.nx := by
    by_cases e : k < σ0.nx
    · exact e
    · have := hI.1.wf wf0' k (by omega)
      rw [hk] at this; cases this
  have hb : w.heap.size ≤ b := by
    rcases P1.born k b cap h1 hlt m4 with h | ⟨j, y, h2, h3, -⟩
    · exact h
    · have : j = 0 := by
        have : j < 1 := h3
        omega
      subst this
      rw [h0] at h2; cases h2
  have hM : M σ.nx := hs σ.nx (.inr (by show (Nat.lor σ.w (2 ^ σ.nx)).testBit σ.nx = true; rw [bit_lor]; simp))
  have hpre' : Pre P α μ C (rd σ k0) w M N := ⟨hpre.sim, fun j hj => by rw [obj_rd]; exact hpre.ag j hj, hpre.fresh⟩
  have hpost := Post.newAt hpre' (fun j hj => by rw [obj_rd]; exact wf j hj) hM hN (b := b) (cap := cap) (o := o) ⟨hb, m5, hfr, P1.size, P1.os, P1.tape, P1.output⟩ (x := .cells L' ty' gr' st') (objR_flat hL' m6)
  refine ⟨y, w', _, _, frX, ⟨hpost.pre, hpost.out, hpost.keep, hpost.born, hpost.frame, hpost.size, hpost.os, hpost.tape, hpost.output⟩, ?_, q2, q3⟩
  cases cp' with
  | k cc =>
    simp only [conc, m4, Option.map_some] at q1
    show (upd μ σ.nx (some (b, cap)) σ.nx).map _ = _
    simp only [upd_same, Option.map_some]
    exact q1
  | u e =>
    simp only [conc, m4, Option.map_some] at q1
    show (upd μ σ.nx (some (b, cap)) σ.nx).map _ = _
    simp only [upd_same, Option.map_some]
    exact q1
end
/-- a row that a call gives: its cells, their type, is it grown, is it a text's, length, capacity -/
structure RI where
  L : List V
  ty : TypeId
  gr : Bool
  st : Bool
  n : Nat
  cp : Cp
def eqB (a b : Bool) : Bool := cond a b (!b)
theorem eqB_eq {a b : Bool} (h : eqB a b = true) : a = b := by cases a <;> cases b <;> simp_all [eqB]
def eqCp : Cp → Cp → Bool
  | .k a, .k b => Nat.beq a b
  | .u a, .u b => Nat.beq a b
  | _, _ => false
theorem eqCp_eq {a b : Cp} (h : eqCp a b = true) : a = b := by
  cases a <;> cases b <;> simp only [eqCp] at h <;> first | (rw [Nat.eq_of_beq_eq_true h]) | cases h
theorem samePs_eq : ∀ {a b : List Pc}, samePs a b = true → a = b
  | [], [], _ => rfl
  | .l n x :: a, .l m y :: b, h => by
    simp only [samePs, Bool.and_eq_true] at h
    rw [Nat.eq_of_beq_eq_true h.1.1, Nat.eq_of_beq_eq_true h.1.2, samePs_eq h.2]
  | .a i :: a, .a j :: b, h => by
    simp only [samePs, Bool.and_eq_true] at h
    rw [Nat.eq_of_beq_eq_true h.1, samePs_eq h.2]
  | [], .l _ _ :: _, h => by cases h
  | [], .a _ :: _, h => by cases h
  | .l _ _ :: _, [], h => by cases h
  | .a _ :: _, [], h => by cases h
  | .l _ _ :: _, .a _ :: _, h => by cases h
  | .a _ :: _, .l _ _ :: _, h => by cases h
def eqTx : V → V → Bool
  | .s a, .s b => samePs a b
  | _, _ => false
theorem eqTx_eq {a b : V} (h : eqTx a b = true) : a = b := by
  unfold eqTx at h
  split at h
  · rw [samePs_eq h]
  · cases h
def eqRow : List V → List V → Bool
  | [], [] => true
  | a :: l, b :: m => eqTx a b && eqRow l m
  | _, _ => false
theorem eqRow_eq : ∀ {l m : List V}, eqRow l m = true → l = m
  | [], [], _ => rfl
  | a :: l, b :: m, h => by
    simp only [eqRow, Bool.and_eq_true] at h
    rw [eqTx_eq h.1, eqRow_eq h.2]
  | [], _ :: _, h => by cases h
  | _ :: _, [], h => by cases h
noncomputable def isRow (two : Bool) (r : Res (St × V)) (i : RI) : Bool := match r with
  | .ok (σ, .sl (some (k, 0)) m c) => Nat.beq m i.n && eqCp c i.cp && flatL i.L && (match obj σ k with
    | .cells L ty gr st => eqRow L i.L && Nat.beq ty i.ty && eqB gr i.gr && eqB st i.st && (cond two (Nat.ble 1 k && !(σ.w.testBit 0)) true)
    | _ => false)
  | _ => false
theorem isRow_ok {two : Bool} {r : Res (St × V)} {i : RI} (h : isRow two r i = true) : ∃ σ k, r = .ok (σ, .sl (some (k, 0)) i.n i.cp) ∧ obj σ k = .cells i.L i.ty i.gr i.st ∧ flatL i.L = true ∧ (two = true → 1 ≤ k ∧ σ.w.testBit 0 = false) := by
  unfold isRow at h
  split at h
  · rename_i σ k m c
    simp only [Bool.and_eq_true] at h
    obtain ⟨⟨⟨h1, h2⟩, h3⟩, h4⟩ := h
    split at h4
    · rename_i L ty gr st ho
      simp only [Bool.and_eq_true] at h4
      obtain ⟨⟨⟨⟨h5, h6⟩, h7⟩, h8⟩, h9⟩ := h4
      refine ⟨σ, k, ?_, ?_, h3, fun e => ?_⟩
      rotate_left 2
      · subst e
        simp only [cond_true, Bool.and_eq_true, Bool.not_eq_true'] at h9
        exact ⟨Nat.le_of_ble_eq_true h9.1, h9.2⟩
      · rw [Nat.eq_of_beq_eq_true h1, eqCp_eq h2]
      · rw [ho, eqRow_eq h5, Nat.eq_of_beq_eq_true h6, eqB_eq h7, eqB_eq h8]
    · cases h4
  · cases h
end Go.Eng
/- Runs to contracts, in general; an unknown text; known calls in a list. -/
namespace Go.Eng
open Go Go.RowKit Go.Pm
/-- a run that says true: the call is true, and adds to memory only -/
theorem run_calls {P : Program} {pr : Pr} {α : At} (hα : AtOk pr α) (hp : PrOk pr P) (ho : ∀ f args σ σ' v, pr.orc f args σ = some (σ', v) → CallRun P α f args σ σ' v) (hn : ∀ f args σ σ' v, pr.orn f args σ = some (σ', v) → CallN P α f args σ σ' v)
    (hfol : P.follows .rangeFuncRecover = true) (hmix : P.follows .mixedOrders = true) {fuel : Nat} {f : FuncId} {args : List V} {vals : List Value} (h : saysTrue ((evF pr fuel).call f args st0) = true) (hx : concL α (fun _ => none) args = some vals) {W : World}
    (hwin : ∀ j i v, (α.wc j)[i]? = some v → ∃ x, conc α (fun _ => none) v = some x ∧ W.cell? ⟨(α.win j).1, (α.win j).2.1 + i, none⟩ = some x)
    (hfull : ∀ j o, α.blk j = some o → α.wc j ≠ [] → W.heap[(α.win j).1]? = some o := by intro j o h; cases h) :
    Calls P f vals.toArray W fun e W' => e = .returned (.bool true) ∧ Ext W W' := by
  obtain ⟨σ', h⟩ := saysTrue_ok h
  rw [evF_eq] at h
  have hI := (ev_ok hα hp ho hn hfol hmix fuel).call f args st0 σ' _ h
  refine (ev_calls hI hx hwin hfull).mono ?_
  rintro e W' ⟨x, μ', rfl, h1, h2⟩
  simp only [conc, Option.some.injEq] at h1
  subst h1
  exact ⟨rfl, h2⟩
/-- a run gives a value -/
theorem run_gives {P : Program} {pr : Pr} {α : At} (hα : AtOk pr α) (hp : PrOk pr P) (ho : ∀ f args σ σ' v, pr.orc f args σ = some (σ', v) → CallRun P α f args σ σ' v) (hn : ∀ f args σ σ' v, pr.orn f args σ = some (σ', v) → CallN P α f args σ σ' v)
    (hfol : P.follows .rangeFuncRecover = true) (hmix : P.follows .mixedOrders = true) {fuel : Nat} {f : FuncId} {args : List V} {σ σ' : St} {v : V} (h : (evF pr fuel).call f args σ = .ok (σ', v)) : CallRun P α f args σ σ' v := by
  rw [evF_eq] at h
  exact (ev_ok hα hp ho hn hfol hmix fuel).call f args σ σ' _ h
-- one unknown text, no 0
def oneBnd (lo hi : Nat) (j : Nat) : Nat × Nat := cond (Nat.beq j 0) (lo, hi) (0, 0)
def oneAt (s : List UInt8) : At where
  txt j := if j = 0 then s else []
  win _ := (0, 0, 0, 0)
  wc _ := []
  spot _ := none
noncomputable def onePr (P : Program) (lo hi : Nat) (orc : FuncId → List V → St → Option (St × V)) (T : TFacts) : Pr := prSt P (oneBnd lo hi) (fun _ => none) orc (fun _ _ _ => none) (findFT [] T)
theorem oneAt_ok {P : Program} {lo hi : Nat} {orc : FuncId → List V → St → Option (St × V)} {T : TFacts} {s : List UInt8} (h1 : lo ≤ s.length) (h2 : s.length ≤ hi) (hT : ∀ e ∈ T, TFactOk (oneAt s) e) : AtOk (onePr P lo hi orc T) (oneAt s) := by
  refine ⟨fun j => ?_, fun j n cs h => (by cases h), fun g n cs h => (by cases h), fun op a b r hr P o A w t x y u μ X Y h1 h2 h3 h4 h5 => ftacts_ok (F := []) (T := T) (fun e he => by cases he) hT hr P o A w t x y u μ X Y h1 h2 h3 h4 h5⟩
  show (oneBnd lo hi j).1 ≤ ((if j = 0 then s else []) : List UInt8).length ∧ ((if j = 0 then s else []) : List UInt8).length ≤ (oneBnd lo hi j).2
  unfold oneBnd
  rw [beq_of]
  by_cases hj : j = 0
  · simp [hj, h1, h2]
  · simp [hj]
theorem one_calls {P : Program} {lo hi fuel : Nat} {orc : FuncId → List V → St → Option (St × V)} {T : TFacts} {s : List UInt8} {f : FuncId} {args : List V} {vals : List Value} (hfol : P.follows .rangeFuncRecover = true) (hmix : P.follows .mixedOrders = true) (h1 : lo ≤ s.length) (h2 : s.length ≤ hi)
    (hT : ∀ e ∈ T, TFactOk (oneAt s) e) (ho : ∀ f args σ σ' v, orc f args σ = some (σ', v) → CallRun P (oneAt s) f args σ σ' v) (h : saysTrue ((evF (onePr P lo hi orc T) fuel).call f args st0) = true) (hx : concL (oneAt s) (fun _ => none) args = some vals) (W : World) :
    Calls P f vals.toArray W fun e W' => e = .returned (.bool true) ∧ Ext W W' :=
  run_calls (oneAt_ok h1 h2 hT) (prStOk P _ _ _ _ _) ho (fun f args σ σ' v e => by cases e) hfol hmix h hx (fun j i v hv => by simp [oneAt] at hv)
/-- as orcAw, of the general kind -/
theorem stayAw_ok {P : Program} (hfol : P.follows .rangeFuncRecover = true) (hmix : P.follows .mixedOrders = true) {aw : FuncId} {fuel : Nat} (h : saysTrue ((evF (freePr P) fuel).call aw [] st0) = true) {α : At} (hα : ∀ j, (α j).length ≤ 9223372036854775808) (f : FuncId) (args : List V) (σ σ' : St) (v : V) (ho : stay (orcAw aw) f args σ = some (σ', v)) : CallRun P α f args σ σ' v := by
  obtain ⟨h1, rfl⟩ := stay_some ho
  exact orcAw_ok hfol hmix h hα f args _ v h1
end Go.Eng
