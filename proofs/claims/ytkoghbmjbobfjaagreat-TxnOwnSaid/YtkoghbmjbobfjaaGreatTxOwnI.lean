/- The machine's steps of one frame, of whatever kind. -/
import Derived.Test.YtkoghbmjbobfjaaGreatTxOwnH
import Derived.Laws.Sem
set_option maxRecDepth 100000
namespace Go.Eng
open Go Go.RowKit Go.Pm
def Frm (b : Frame) (a : Act) (todo : List Item) : Frame := { b with tmps := a.tmps, todo, defers := a.defers, mode := .run }
theorem Frm.eval (b : Frame) (a : Act) (todo : List Item) (x : Operand) : (Frm b a todo).eval x = a.eval x := by cases x <;> rfl
theorem Frm.eval' (b : Frame) (a : Act) (todo : List Item) : (Frm b a todo).eval = a.eval := funext (Frm.eval b a todo)
section
variable {P : Program} {b : Frame} {a : Act} {k : List Item} {cs : List Frame} {w w' : World}
theorem m_skip : Go.step P (lone (Frm b a (.code .skip :: k)) cs w) = .next (lone (Frm b a k) cs w) := step_lone_go (by simp [stepG, stepG.exec, Frm])
theorem m_label {l : Nat} : Go.step P (lone (Frm b a (.code (.label l) :: k)) cs w) = .next (lone (Frm b a k) cs w) := step_lone_go (by simp [stepG, stepG.exec, Frm])
theorem m_inBlock {id : Nat} : Go.step P (lone (Frm b a (.inBlock id :: k)) cs w) = .next (lone (Frm b a k) cs w) := step_lone_go (by simp [stepG, stepG.exec, Frm])
theorem m_inScope {c : Code} : Go.step P (lone (Frm b a (.inScope c :: k)) cs w) = .next (lone (Frm b a k) cs w) := step_lone_go (by simp [stepG, stepG.exec, Frm])
theorem m_seq {x y : Code} : Go.step P (lone (Frm b a (.code (.seq x y) :: k)) cs w) = .next (lone (Frm b a (.code x :: .code y :: k)) cs w) := step_lone_go (by simp [stepG, stepG.exec, Frm])
theorem m_cond {c : Operand} {x y : Code} {t : Bool} (h : a.eval c = .bool t) : Go.step P (lone (Frm b a (.code (.cond c x y) :: k)) cs w) = .next (lone (Frm b a (.code (if t then x else y) :: k)) cs w) :=
 step_lone_go (by
  have := Frm.eval b a (.code (.cond c x y) :: k) c
  simp only [Frm] at this
  simp [stepG, stepG.exec, Frm, this, h])
theorem m_block {id : Nat} {c : Code} : Go.step P (lone (Frm b a (.code (.block id c) :: k)) cs w) = .next (lone (Frm b a (.code c :: .inBlock id :: k)) cs w) := step_lone_go (by simp [stepG, stepG.exec, Frm])
theorem m_loop {c : Code} : Go.step P (lone (Frm b a (.code (.loop c) :: k)) cs w) = .next (lone (Frm b a (.code c :: .inLoop c :: k)) cs w) := step_lone_go (by simp [stepG, stepG.exec, Frm])
theorem m_inLoop {c : Code} : Go.step P (lone (Frm b a (.inLoop c :: k)) cs w) = .next (lone (Frm b a (.code c :: .inLoop c :: k)) cs w) := step_lone_go (by simp [stepG, stepG.exec, Frm])
theorem m_scope {c : Code} : Go.step P (lone (Frm b a (.code (.scope c) :: k)) cs w) = .next (lone (Frm b a (.code c :: .inScope c :: k)) cs w) := step_lone_go (by simp [stepG, stepG.exec, Frm])
theorem m_exit {id : Nat} {k' : List Item} (h : exitTo id k = some k') : Go.step P (lone (Frm b a (.code (.exit id) :: k)) cs w) = .next (lone (Frm b a k') cs w) := step_lone_go (by simp [stepG, stepG.exec, Frm, h])
theorem m_goto {l : Nat} {k' : List Item} (h : gotoIn l k = some k') : Go.step P (lone (Frm b a (.code (.goto l) :: k)) cs w) = .next (lone (Frm b a k') cs w) := step_lone_go (by simp [stepG, stepG.exec, Frm, h])
theorem m_region {id : Nat} {ops : Array Oper} : Go.step P (lone (Frm b a (.code (.region id ops false) :: k)) cs w) = .next (lone (Frm b a (.inRegion ops (List.range ops.size) :: k)) cs w) := step_lone_go (by simp [stepG, stepG.exec, Frm])
theorem m_draw {id : Nat} {ops : Array Oper} : Go.step P (lone (Frm b a (.code (.region id ops true) :: k)) cs w) = .next (lone (Frm b a (.inRegion ops (Region.schedule (P.follows .mixedOrders) ops (w.tape w.drawn (.order b.fn id))) :: k)) cs { w with drawn := w.drawn + 1 }) :=
 step_lone_go (by simp [stepG, stepG.exec, Frm, choose, Sem.run, Question.forced, Question.cut])
theorem m_regionEnd {ops : Array Oper} : Go.step P (lone (Frm b a (.inRegion ops [] :: k)) cs w) = .next (lone (Frm b a k) cs w) := step_lone_go (by simp [stepG, stepG.exec, Frm])
theorem Frm.finish (b : Frame) (a : Act) (ops : Array Oper) (i : Nat) (rest : List Nat) (k : List Item) (v : Value) {o : Oper} (ho : ops[i]? = some o) :
  (Frm b a (.inRegion ops (i :: rest) :: k)).finish v = Frm b (a.put o.dst v) (.inRegion ops rest :: k) := by
 cases h : o.dst <;> simp [Frame.finish, Frm, Act.put, ho, h]
theorem m_opSkip {ops : Array Oper} {i : Nat} {rest : List Nat} {o : Oper} (ho : ops[i]? = some o) (h : Region.wanted o (yielded ops a.tmps) = false) :
  Go.step P (lone (Frm b a (.inRegion ops (i :: rest) :: k)) cs w) = .next (lone (Frm b (a.put o.dst undef) (.inRegion ops rest :: k)) cs w) := by
 rw [← Frm.finish b a ops i rest k undef ho]
 refine step_lone_go ?_
 have h' : ((ops[i]?).map (Region.wanted · (yielded ops a.tmps))).getD false = false := by simp [ho, h]
 simp only [Frm] at *
 simp [stepG, stepG.exec, h']
theorem m_op {ops : Array Oper} {i : Nat} {rest : List Nat} {o : Oper} (ho : ops[i]? = some o) (hw : Region.wanted o (yielded ops a.tmps) = true) (hd : isDefer o = false ∨ b.roundOf = none) :
  stepG P true { frame := Frm b a (.inRegion ops (i :: rest) :: k), callers := cs, status := .running, dying := none } w =
   stepG.apply P true (Frm b a (.inRegion ops (i :: rest) :: k)) cs none (execOp a.eval o) w := by
 have he := Frm.eval' b a (.inRegion ops (i :: rest) :: k)
 have hx : stepG.oper P true (Frm b a (.inRegion ops (i :: rest) :: k)) cs none w = stepG.apply P true (Frm b a (.inRegion ops (i :: rest) :: k)) cs none (execOp a.eval o) w := by
  have hop : (Frm b a (.inRegion ops (i :: rest) :: k)).oper? = some o := by simp [Frame.oper?, Frm, ho]
  unfold stepG.oper
  rw [hop, he]
  dsimp only
  cases hr : (Frm b a (.inRegion ops (i :: rest) :: k)).roundOf with
  | none => rfl
  | some l =>
   rcases hd with hd | hd
   ·unfold isDefer at hd
    cases hop2 : o.op <;> first | rfl | (rw [hop2] at hd; cases hd)
   simp only [Frm] at hr; rw [hd] at hr; cases hr
 rw [← hx]
 simp [stepG, stepG.exec, Frm, ho, hw]
theorem m_ran {ops : Array Oper} {i : Nat} {rest : List Nat} {o : Oper} {x : Value} (ho : ops[i]? = some o) (hw : Region.wanted o (yielded ops a.tmps) = true) (hd : isDefer o = false) (hr : Ran P a o w x w') :
  Go.step P (lone (Frm b a (.inRegion ops (i :: rest) :: k)) cs w) = .next (lone (Frm b (a.put o.dst x) (.inRegion ops rest :: k)) cs w') := by
 refine step_lone_go ?_
 rw [m_op ho hw (.inl hd)]
 rcases hr with hr | ⟨hr, rfl⟩
 ·simp [stepG.apply, Sem.runT_eq, hr, Frm.finish b a ops i rest k x ho]
 simp [stepG.apply, Sem.runT_eq, hr, Frm.finish b a ops i rest k undef ho]
theorem m_enter {ops : Array Oper} {i : Nat} {rest : List Nat} {o : Oper} {f : FuncId} {args : Array Value} (ho : ops[i]? = some o) (hw : Region.wanted o (yielded ops a.tmps) = true) (hd : isDefer o = false) (hr : (execOp a.eval o).run P w = .ok (.enter f args) w') :
  Go.step P (lone (Frm b a (.inRegion ops (i :: rest) :: k)) cs w) = .next (lone (Frame.enter P f args .normal) (Frm b a (.inRegion ops (i :: rest) :: k) :: cs) w') := by
 refine step_lone_go ?_
 rw [m_op ho hw (.inl hd)]
 simp [stepG.apply, Sem.runT_eq, hr, Frm]
theorem m_round {ops : Array Oper} {i : Nat} {rest : List Nat} {o : Oper} {l : Nat} {f : FuncId} {tmps : Array Value} {as' bd : Code} (ho : ops[i]? = some o) (hw : Region.wanted o (yielded ops a.tmps) = true) (hd : isDefer o = false) (hr : (execOp a.eval o).run P w = .ok (.round l f tmps as' bd) w') :
  Go.step P (lone (Frm b a (.inRegion ops (i :: rest) :: k)) cs w) = .next (lone (Frame.round l f tmps as' bd .normal) (Frm b a (.inRegion ops (i :: rest) :: k) :: cs) w') := by
 refine step_lone_go ?_
 rw [m_op ho hw (.inl hd)]
 simp [stepG.apply, Sem.runT_eq, hr]
theorem m_defer {ops : Array Oper} {i : Nat} {rest : List Nat} {o : Oper} {d : Deferred} (ho : ops[i]? = some o) (hw : Region.wanted o (yielded ops a.tmps) = true) (hb : b.roundOf = none) (hr : (execOp a.eval o).run P w = .ok (.defer d) w') :
  Go.step P (lone (Frm b a (.inRegion ops (i :: rest) :: k)) cs w) = .next (lone (Frm b ({ a with defers := d :: a.defers }.put o.dst undef) (.inRegion ops rest :: k)) cs w') := by
 refine step_lone_go ?_
 rw [m_op ho hw (.inr hb)]
 rw [← Frm.finish b { a with defers := d :: a.defers } ops i rest k undef ho]
 simp [stepG.apply, Sem.runT_eq, hr, Frm]
theorem m_recover {ops : Array Oper} {i : Nat} {rest : List Nat} {o : Oper} (ho : ops[i]? = some o) (hw : Region.wanted o (yielded ops a.tmps) = true) (hd : isDefer o = false) (hfol : P.follows .rangeFuncRecover = true) (hcalm : b.kind = .normal ∨ (b.kind = .deferred ∧ ∃ c cs', cs = c :: cs' ∧ c.mode = .returning)) (hr : (execOp a.eval o).run P w = .ok .recover w') :
  Go.step P (lone (Frm b a (.inRegion ops (i :: rest) :: k)) cs w) = .next (lone (Frm b (a.put o.dst .nilIface) (.inRegion ops rest :: k)) cs w') := by
 have htry : tryRecover (Frm b a (.inRegion ops (i :: rest) :: k)) cs = none := by
  rcases hcalm with h | ⟨h, c, cs', rfl, hm⟩
  ·simp [tryRecover, Frm, h]
  simp [tryRecover, Frm, h, hm]
 refine step_lone_go ?_
 rw [m_op ho hw (.inl hd), ← Frm.finish b a ops i rest k .nilIface ho]
 cases hro : (Frm b a (.inRegion ops (i :: rest) :: k)).roundOf <;> simp [stepG.apply, Sem.runT_eq, hr, hro, hfol, htry]
end
end Go.Eng
/- Runs of the machine beside runs of the evaluator: how they come one behind the other. -/
namespace Go.Eng
open Go Go.RowKit Go.Pm
def DR (α : At) (μ : Mu) : D → Deferred → Prop
 | .mark d, x => ∃ b y, μ d = some (b, y) ∧ x = { target := .collected b, args := #[] }
 | .call f vs, x => ∃ (cap : Array Value), x.target = .fn (.func f) cap ∧ concL α μ vs = some (x.args.toList ++ cap.toList)
def DsR (α : At) (μ : Mu) : List D → List Deferred → Prop
 | [], [] => True
 | d :: l, x :: r => DR α μ d x ∧ DsR α μ l r
 | _, _ => False
theorem DR.mono {α : At} {μ μ' : Mu} (h : μ.Le μ') : ∀ {d : D} {x : Deferred}, DR α μ d x → DR α μ' d x
 | .mark _, _, ⟨b, y, h1, h2⟩ => ⟨b, y, h _ _ h1, h2⟩
 | .call _ _, _, ⟨cap, h1, h2⟩ => ⟨cap, h1, concL_mono h _ h2⟩
theorem DsR.mono {α : At} {μ μ' : Mu} (h : μ.Le μ') : ∀ {l : List D} {r : List Deferred}, DsR α μ l r → DsR α μ' l r
 | [], [], _ => trivial
 | _ :: _, _ :: _, hh => ⟨hh.1.mono h, DsR.mono h hh.2⟩
 | [], _ :: _, hh => hh.elim
 | _ :: _, [], hh => hh.elim
def RndR (μ : Mu) : Option Nat → Option Nat → Prop
 | none, none => True
 | some l, some b => ∃ x, μ l = some (b, x)
 | _, _ => False
theorem RndR.mono {μ μ' : Mu} (h : μ.Le μ') : ∀ {x y : Option Nat}, RndR μ x y → RndR μ' x y
 | none, none, _ => trivial
 | some _, some _, ⟨x, hx⟩ => ⟨x, h _ _ hx⟩
 | none, some _, hh => hh.elim
 | some _, none, hh => hh.elim
def Calm (kind : CallKind) (cs : List Frame) : Prop := kind = .normal ∨ (kind = .deferred ∧ ∃ c cs', cs = c :: cs' ∧ c.mode = .returning)
structure Cx (α : At) (μ : Mu) (fr : Fr) (a : Act) (rnd : Option Nat) (f : FuncId) (b : Frame) (cs : List Frame) : Prop where
 tmps : FrA α μ fr a
 ds : DsR α μ fr.ds a.defers
 fn : b.fn = f
 rnd : RndR μ rnd b.roundOf
 calm : Calm b.kind cs
theorem Cx.mono {α : At} {μ μ' : Mu} {fr : Fr} {a : Act} {rnd : Option Nat} {f : FuncId} {b : Frame} {cs : List Frame} (h : Cx α μ fr a rnd f b cs) (hm : μ.Le μ') : Cx α μ' fr a rnd f b cs :=
 ⟨h.tmps.mono hm, h.ds.mono hm, h.fn, h.rnd.mono hm, h.calm⟩
def Arr (P : Program) (m : Machine) (b : Frame) (k : List Item) (cs : List Frame) (e : Exit) (a : Act) (w : World) : Prop := match e with
 | .normal => Steps P m (lone (Frm b a k) cs w)
 | .exit id => ∃ k', exitTo id k' = exitTo id k ∧ Steps P m (lone (Frm b a (.code (.exit id) :: k')) cs w)
 | .goto l => ∃ k', gotoIn l k' = gotoIn l k ∧ Steps P m (lone (Frm b a (.code (.goto l) :: k')) cs w)
 | .ret => ∃ k', Steps P m (lone (Frm b a (.code .ret :: k')) cs w)
 | _ => False
theorem Arr.of_steps {P : Program} {m m1 : Machine} {b : Frame} {k : List Item} {cs : List Frame} {e : Exit} {a : Act} {w : World} (h : Steps P m m1) (h' : Arr P m1 b k cs e a w) : Arr P m b k cs e a w := by
 cases e with
 | normal => exact h.trans h'
 | exit id => obtain ⟨k', h1, h2⟩ := h'; exact ⟨k', h1, h.trans h2⟩
 | goto l => obtain ⟨k', h1, h2⟩ := h'; exact ⟨k', h1, h.trans h2⟩
 | ret => obtain ⟨k', h2⟩ := h'; exact ⟨k', h.trans h2⟩
 | _ => exact h'.elim
theorem Arr.pass {P : Program} {m : Machine} {b : Frame} {k : List Item} {x : Item} {cs : List Frame} {e : Exit} {a : Act} {w : World} (he : e ≠ .normal) (h1 : ∀ id, e = .exit id → exitTo id (x :: k) = exitTo id k) (h2 : ∀ l, e = .goto l → gotoIn l (x :: k) = gotoIn l k) (h : Arr P m b (x :: k) cs e a w) : Arr P m b k cs e a w := by
 cases e with
 | normal => exact absurd rfl he
 | exit id => obtain ⟨k', h3, h4⟩ := h; exact ⟨k', h3.trans (h1 id rfl), h4⟩
 | goto l => obtain ⟨k', h3, h4⟩ := h; exact ⟨k', h3.trans (h2 l rfl), h4⟩
 | ret => exact h
 | _ => exact h.elim
def Runs (P : Program) (α : At) (rnd : Option Nat) (f : FuncId) (fr fr' : Fr) (σ σ' : St) (go : Frame → List Item → List Frame → Act → World → Act → World → Prop) : Prop :=
 Tr σ σ' ∧ ∀ μ C w M N a b k cs, Pre P α μ C σ w M N → Wf σ → Sub σ' M → σ'.nx ≤ N → Cx α μ fr a rnd f b cs →
  ∃ a' w' μ' C', Post P α μ C σ w μ' C' σ' w' M N ∧ Cx α μ' fr' a' rnd f b cs ∧ go b k cs a w a' w'
section
variable {P : Program} {α : At} {rnd : Option Nat} {f : FuncId} {fr fr1 fr2 : Fr} {σ σ1 σ2 : St} {go g1 g2 : Frame → List Item → List Frame → Act → World → Act → World → Prop}
theorem Runs.refl (h : ∀ b k cs a w, go b k cs a w a w) : Runs P α rnd f fr fr σ σ go :=
 ⟨Tr.refl σ, fun μ C w M N a b k cs hp _ _ _ hc => ⟨a, w, μ, C, Post.refl hp, hc, h b k cs a w⟩⟩
theorem Runs.mono (h1 : Runs P α rnd f fr fr1 σ σ1 g1) (K : List Item → List Item) (hg : ∀ b k cs a w a1 w1, g1 b (K k) cs a w a1 w1 → go b k cs a w a1 w1) : Runs P α rnd f fr fr1 σ σ1 go :=
 ⟨h1.1, fun μ C w M N a b k cs hp wf hs hN hc => by
  obtain ⟨a', w', μ', C', h2, h3, h4⟩ := h1.2 μ C w M N a b (K k) cs hp wf hs hN hc
  exact ⟨a', w', μ', C', h2, h3, hg _ _ _ _ _ _ _ h4⟩⟩
theorem Runs.trans (h1 : Runs P α rnd f fr fr1 σ σ1 g1) (h2 : Runs P α rnd f fr1 fr2 σ1 σ2 g2) (K K' : List Item → List Item) (hg : ∀ b k cs a w a1 w1 a2 w2, g1 b (K k) cs a w a1 w1 → g2 b (K' k) cs a1 w1 a2 w2 → go b k cs a w a2 w2) : Runs P α rnd f fr fr2 σ σ2 go := by
 refine ⟨h1.1.trans h2.1, fun μ C w M N a b k cs hp wf hs hN hc => ?_⟩
 have hs1 : Sub σ1 M := hs.of_tr h2.1
 obtain ⟨a1, w1, μ1, C1, p1, c1, q1⟩ := h1.2 μ C w M N a b (K k) cs hp wf hs1 (Nat.le_trans h2.1.nx hN) hc
 have wf1 := h1.1.wf wf
 obtain ⟨a2, w2, μ2, C2, p2, c2, q2⟩ := h2.2 μ1 C1 w1 M N a1 b (K' k) cs p1.pre wf1 hs hN c1
 exact ⟨a2, w2, μ2, C2, Post.trans hp wf p1 h1.1 p2 h2.1 hs, c2, hg _ _ _ _ _ _ _ _ _ q1 q2⟩
def goCode (P : Program) (c : Code) (e : Exit) (b : Frame) (k : List Item) (cs : List Frame) (a : Act) (w : World) (a' : Act) (w' : World) : Prop := Arr P (lone (Frm b a (.code c :: k)) cs w) b k cs e a' w'
def ExecOk (P : Program) (α : At) (ex : Option Nat → FuncId → Code → Fr → St → Res (St × Fr × Exit)) : Prop :=
 ∀ rnd f c fr σ σ' fr' e, ex rnd f c fr σ = .ok (σ', fr', e) → Runs P α rnd f fr fr' σ σ' (goCode P c e)
def goScope (P : Program) (bd c : Code) (e : Exit) (b : Frame) (k : List Item) (cs : List Frame) (a : Act) (w : World) (a' : Act) (w' : World) : Prop := Arr P (lone (Frm b a (.code c :: .inScope bd :: k)) cs w) b k cs e a' w'
def ScopeOk (P : Program) (α : At) (ex : Option Nat → FuncId → Code → Code → Fr → St → Res (St × Fr × Exit)) : Prop :=
 ∀ rnd f bd c fr σ σ' fr' e, ex rnd f bd c fr σ = .ok (σ', fr', e) → Runs P α rnd f fr fr' σ σ' (goScope P bd c e)
theorem run_skip : Runs P α rnd f fr fr σ σ (goCode P .skip .normal) := Runs.refl fun _ _ _ _ _ => Steps.one m_skip
theorem run_label {l : Nat} : Runs P α rnd f fr fr σ σ (goCode P (.label l) .normal) := Runs.refl fun _ _ _ _ _ => Steps.one m_label
theorem run_exit {id : Nat} : Runs P α rnd f fr fr σ σ (goCode P (.exit id) (.exit id)) := Runs.refl fun _ k _ _ _ => ⟨k, rfl, Steps.refl P _⟩
theorem run_goto {l : Nat} : Runs P α rnd f fr fr σ σ (goCode P (.goto l) (.goto l)) := Runs.refl fun _ k _ _ _ => ⟨k, rfl, Steps.refl P _⟩
theorem run_ret : Runs P α rnd f fr fr σ σ (goCode P .ret .ret) := Runs.refl fun _ k _ _ _ => ⟨k, Steps.refl P _⟩
theorem run_seq {x y : Code} {e : Exit} (h1 : Runs P α rnd f fr fr1 σ σ1 (goCode P x .normal)) (h2 : Runs P α rnd f fr1 fr2 σ1 σ2 (goCode P y e)) : Runs P α rnd f fr fr2 σ σ2 (goCode P (.seq x y) e) :=
 Runs.trans h1 h2 (fun k => .code y :: k) id fun b k cs a w _ _ _ _ q1 q2 => Arr.of_steps (Steps.trans (.one m_seq) q1) q2
theorem run_seqOut {x y : Code} {e : Exit} (he : e ≠ .normal) (h1 : Runs P α rnd f fr fr1 σ σ1 (goCode P x e)) : Runs P α rnd f fr fr1 σ σ1 (goCode P (.seq x y) e) :=
 Runs.mono h1 (fun k => .code y :: k) fun b k cs a w _ _ q1 => Arr.of_steps (.one m_seq) (Arr.pass he (fun id _ => rfl) (fun l _ => rfl) q1)
theorem steps_tail {m m1 m2 : Machine} (h : Steps P m m2) (hne : m ≠ m2) (h1 : Go.step P m = .next m1) : Steps P m1 m2 := by
 obtain ⟨n, hn⟩ := h
 cases n with
 | zero => simp only [runN] at hn; cases hn; exact absurd rfl hne
 | succ n => simp only [runN, h1] at hn; exact ⟨n, hn⟩
theorem frm_todo {b : Frame} {a a' : Act} {k k' : List Item} {cs : List Frame} {w w' : World} (h : lone (Frm b a k) cs w = lone (Frm b a' k') cs w') : k = k' := by
 unfold lone at h
 simp only [Machine.mk.injEq, Array.mk.injEq, List.cons.injEq, Goroutine.mk.injEq, Frm, Frame.mk.injEq] at h
 exact h.2.1.1.1.2.2.1
theorem Arr.meet {m1 m2 m3 : Machine} {b : Frame} {k : List Item} {cs : List Frame} {e : Exit} {a a' : Act} {w w' : World} {c : Code} (hc : (∀ id, c ≠ .exit id) ∧ (∀ l, c ≠ .goto l) ∧ c ≠ .ret) (h : Arr P (lone (Frm b a (.code c :: k)) cs w) b k cs e a' w') (h1 : Go.step P (lone (Frm b a (.code c :: k)) cs w) = .next m1) (h2 : Steps P m2 m1) (_ : m3 = m1) : Arr P m2 b k cs e a' w' := by
 cases e with
 | normal => exact h2.trans (steps_tail h (fun e => by have := congrArg List.length (frm_todo e); simp at this) h1)
 | exit id => obtain ⟨k', h3, h4⟩ := h; exact ⟨k', h3, h2.trans (steps_tail h4 (fun e => by have := frm_todo e; simp at this; exact hc.1 id this.1) h1)⟩
 | goto l => obtain ⟨k', h3, h4⟩ := h; exact ⟨k', h3, h2.trans (steps_tail h4 (fun e => by have := frm_todo e; simp at this; exact hc.2.1 l this.1) h1)⟩
 | ret => obtain ⟨k', h4⟩ := h; exact ⟨k', h2.trans (steps_tail h4 (fun e => by have := frm_todo e; simp at this; exact hc.2.2 this.1) h1)⟩
 | _ => exact h.elim
theorem run_loop {x : Code} {e : Exit} (h1 : Runs P α rnd f fr fr1 σ σ1 (goCode P x .normal)) (h2 : Runs P α rnd f fr1 fr2 σ1 σ2 (goCode P (.loop x) e)) : Runs P α rnd f fr fr2 σ σ2 (goCode P (.loop x) e) :=
 Runs.trans h1 h2 (fun k => .inLoop x :: k) id fun b k cs a w a1 w1 a2 w2 q1 q2 =>
  Arr.of_steps (Steps.trans (.one m_loop) q1) (Arr.meet ⟨by simp, by simp, by simp⟩ q2 m_loop (.one m_inLoop) rfl)
theorem run_loopOut {x : Code} {e : Exit} (he : e ≠ .normal) (h1 : Runs P α rnd f fr fr1 σ σ1 (goCode P x e)) : Runs P α rnd f fr fr1 σ σ1 (goCode P (.loop x) e) :=
 Runs.mono h1 (fun k => .inLoop x :: k) fun b k cs a w _ _ q1 => Arr.of_steps (.one m_loop) (Arr.pass he (fun id _ => rfl) (fun l _ => rfl) q1)
theorem run_block {x : Code} {id : Nat} {e : Exit} (h1 : Runs P α rnd f fr fr1 σ σ1 (goCode P x e)) : Runs P α rnd f fr fr1 σ σ1 (goCode P (.block id x) (match e with | .exit j => cond (Nat.beq j id) .normal (.exit j) | e => e)) := by
 refine Runs.mono h1 (fun k => .inBlock id :: k) fun b k cs a w a1 w1 q1 => Arr.of_steps (.one m_block) ?_
 cases e with
 | normal => exact Steps.trans q1 (.one m_inBlock)
 | exit j =>
  obtain ⟨k', h2, h3⟩ := q1
  dsimp only
  rw [beq_of]
  by_cases hj : j = id
  ·subst hj
   simp only [decide_true, cond_true]
   have : exitTo j k' = some k := by rw [h2]; simp [exitTo]
   exact Steps.trans h3 (.one (m_exit this))
  simp only [hj, decide_false, cond_false]
  refine ⟨k', ?_, h3⟩
  rw [h2]
  have : (id == j) = false := by simpa using Ne.symm hj
  simp [exitTo, this]
 | goto l => exact Arr.pass (by simp) (fun id h => by simp at h) (fun l _ => rfl) q1
 | ret => exact q1
 | _ => exact q1.elim
theorem run_cond {x : Operand} {c1 c2 : Code} {t : Bool} {e : Exit} (ho : opnd fr x = .ok (.b t)) (h1 : Runs P α rnd f fr fr1 σ σ1 (goCode P (cond t c1 c2) e)) : Runs P α rnd f fr fr1 σ σ1 (goCode P (.cond x c1 c2) e) := by
 refine ⟨h1.1, fun μ C w M N a b k cs hp wf hs hN hc => ?_⟩
 obtain ⟨a', w', μ', C', h2, h3, h4⟩ := h1.2 μ C w M N a b k cs hp wf hs hN hc
 refine ⟨a', w', μ', C', h2, h3, Arr.of_steps (.one (m_cond (conc_b (opnd_ok hc.tmps ho)))) ?_⟩
 cases t <;> exact h4
theorem run_scope {x : Code} {e : Exit} (h1 : Runs P α rnd f fr fr1 σ σ1 (goScope P x x e)) : Runs P α rnd f fr fr1 σ σ1 (goCode P (.scope x) e) :=
 Runs.mono h1 id fun b k cs a w _ _ q1 => Arr.of_steps (.one m_scope) q1
theorem scope_out {bd c : Code} {e : Exit} (he : ∀ l, e = .goto l → findLabel bd l = none) (h1 : Runs P α rnd f fr fr1 σ σ1 (goCode P c e)) : Runs P α rnd f fr fr1 σ σ1 (goScope P bd c e) := by
 refine Runs.mono h1 (fun k => .inScope bd :: k) fun b k cs a w a1 w1 q1 => ?_
 cases e with
 | normal => exact Steps.trans q1 (.one m_inScope)
 | exit id => exact Arr.pass (by simp) (fun id _ => rfl) (fun l h => by simp at h) q1
 | goto l => exact Arr.pass (by simp) (fun id h => by simp at h) (fun l' h => by cases h; simp [gotoIn, he l rfl]) q1
 | ret => exact q1
 | _ => exact q1.elim
theorem scope_goto {bd c c' : Code} {l : Nat} {e : Exit} (hl : findLabel bd l = some c') (h1 : Runs P α rnd f fr fr1 σ σ1 (goCode P c (.goto l))) (h2 : Runs P α rnd f fr1 fr2 σ1 σ2 (goScope P bd c' e)) : Runs P α rnd f fr fr2 σ σ2 (goScope P bd c e) := by
 refine Runs.trans h1 h2 (fun k => .inScope bd :: k) id fun b k cs a w a1 w1 a2 w2 q1 q2 => ?_
 obtain ⟨k', h3, h4⟩ := q1
 have : gotoIn l k' = some (.code c' :: .inScope bd :: k) := by rw [h3]; simp [gotoIn, hl]
 exact Arr.of_steps (Steps.trans h4 (.one (m_goto this))) q2
end
end Go.Eng
/- Operations, calls among them, as steps of the machine. -/
namespace Go.Eng
open Go Go.RowKit Go.Pm
def OpRun (P : Program) (α : At) (rnd : Option Nat) (f : FuncId) (fr : Fr) (o : Oper) (σ σ' : St) (v : V) : Prop :=
 Tr σ σ' ∧ ∀ μ C w M N a b k cs (ops : Array Oper) i rest, Pre P α μ C σ w M N → Wf σ → Sub σ' M → σ'.nx ≤ N → Cx α μ fr a rnd f b cs → ops[i]? = some o → Region.wanted o (yielded ops a.tmps) = true →
  ∃ x w' μ' C', Post P α μ C σ w μ' C' σ' w' M N ∧ conc α μ' v = some x ∧ Steps P (lone (Frm b a (.inRegion ops (i :: rest) :: k)) cs w) (lone (Frm b (a.put o.dst x) (.inRegion ops rest :: k)) cs w')
def CallRun (P : Program) (α : At) (f : FuncId) (args : List V) (σ σ' : St) (v : V) : Prop :=
 Tr σ σ' ∧ ∀ μ C w M N vals kind cs, Pre P α μ C σ w M N → Wf σ → Sub σ' M → σ'.nx ≤ N → concL α μ args = some vals → Calm kind cs →
  ∃ x w' μ' C' fr', Post P α μ C σ w μ' C' σ' w' M N ∧ conc α μ' v = some x ∧ Steps P (lone (Frame.enter P f vals.toArray kind) cs w) (lone fr' cs w') ∧
   fr'.mode = .returning ∧ fr'.defers = [] ∧ fr'.kind = kind ∧ fr'.fn = f ∧ ∃ fn, P.funcs[f]? = some fn ∧ (results fn fr'.tmps).run P w' = .ok x w'
def CallOk (P : Program) (α : At) (call : FuncId → List V → St → Res (St × V)) : Prop := ∀ f args σ σ' v, call f args σ = .ok (σ', v) → CallRun P α f args σ σ' v
def CallN (P : Program) (α : At) (f : FuncId) (args : List V) (σ σ' : St) (v : V) : Prop :=
 Tr σ σ' ∧ ∀ μ C w M N vals cs, Pre P α μ C σ w M N → Wf σ → Sub σ' M → σ'.nx ≤ N → concL α μ args = some vals →
  ∃ x w' μ' C' fr', Post P α μ C σ w μ' C' σ' w' M N ∧ conc α μ' v = some x ∧ Steps P (lone (Frame.enter P f vals.toArray .normal) cs w) (lone fr' cs w') ∧
   fr'.mode = .returning ∧ fr'.defers = [] ∧ fr'.kind = .normal ∧ fr'.fn = f ∧ ∃ fn, P.funcs[f]? = some fn ∧ (results fn fr'.tmps).run P w' = .ok x w'
theorem CallRun.n {P : Program} {α : At} {f : FuncId} {args : List V} {σ σ' : St} {v : V} (h : CallRun P α f args σ σ' v) : CallN P α f args σ σ' v :=
 ⟨h.1, fun μ C w M N vals cs hp wf hs hN hx => h.2 μ C w M N vals .normal cs hp wf hs hN hx (.inl rfl)⟩
structure IhOk (pr : Pr) (P : Program) (α : At) (ih : Ih) : Prop where
 call : CallOk P α ih.call
 orn : ∀ f args σ σ' v, pr.orn f args σ = some (σ', v) → CallN P α f args σ σ' v
 exec : ExecOk P α ih.exec
 scope : ScopeOk P α ih.scope
section
variable {P : Program} {α : At} {rnd : Option Nat} {f : FuncId} {fr fr1 fr2 : Fr} {σ σ' σ1 σ2 : St} {o : Oper} {v : V} {pr : Pr} {ih : Ih}
theorem OpOk.runs (hd : isDefer o = false) (h : OpOk P α fr o σ σ' v) : OpRun P α rnd f fr o σ σ' v := by
 refine ⟨h.1, fun μ C w M N a b k cs ops i rest hp wf hs hN hc ho hw => ?_⟩
 obtain ⟨x, w', μ', C', h1, h2, h3⟩ := h.2 μ C w M N a hp wf hs hN hc.tmps
 exact ⟨x, w', μ', C', h2, h3, .one (m_ran ho hw hd h1)⟩
theorem callD_ok (hI : IhOk pr P α ih) (hp : PrOk pr P) {g : FuncId} {args : List V} (h : callD pr ih σ g args = .ok (σ', v)) : CallRun P α g args σ σ' v ∧ ∃ fn, P.funcs[g]? = some fn ∧ (fn.name == "runtime.NumGoroutine") = false ∧ fn.body.isSome = true := by
 unfold callD at h
 split at h
 ·rename_i fn hfn
  obtain ⟨h1, h2⟩ := hp.fn g fn hfn
  split at h
  ·rename_i c hb
   exact ⟨hI.call g args σ σ' v h, fn, h1, h2, by rw [hb]; rfl⟩
  cases h
 cases h
theorem callF_ok (hI : IhOk pr P α ih) (hp : PrOk pr P) {g : FuncId} {args : List V} (h : callF pr ih σ g args = .ok (σ', v)) : CallN P α g args σ σ' v ∧ ∃ fn, P.funcs[g]? = some fn ∧ (fn.name == "runtime.NumGoroutine") = false ∧ fn.body.isSome = true := by
 unfold callF at h
 split at h
 ·rename_i fn hfn
  obtain ⟨h1, h2⟩ := hp.fn g fn hfn
  split at h
  ·rename_i c hb
   split at h
   ·rename_i v0 hv0
    cases h
    exact ⟨hI.orn g args _ _ _ hv0, fn, h1, h2, by rw [hb]; rfl⟩
   exact ⟨(hI.call g args σ σ' v h).n, fn, h1, h2, by rw [hb]; rfl⟩
  cases h
 cases h
theorem callFunc_run {g : FuncId} {fn : Func} {args : Array Value} {w : World} (h1 : P.funcs[g]? = some fn) (h2 : (fn.name == "runtime.NumGoroutine") = false) (h3 : fn.body.isSome = true) : (callFunc g args).run P w = .ok (.enter g args) w := by
 have hb : fn.body.isNone = false := by cases hh : fn.body <;> simp_all
 simp [callFunc, h1]
 simp only [beq_eq_false_iff_ne, ne_eq] at h2
 simp [h2]
 intro hh
 rw [hh] at h3; cases h3
theorem call_runs (hd : isDefer o = false) {g : FuncId} {args : List V} (hc : CallN P α g args σ σ' v)
  (h : ∀ μ (a : Act) w, FrA α μ fr a → ∃ vals, concL α μ args = some vals ∧ (execOp a.eval o).run P w = .ok (.enter g vals.toArray) w) : OpRun P α rnd f fr o σ σ' v := by
 refine ⟨hc.1, fun μ C w M N a b k cs ops i rest hp wf hs hN hcx ho hw => ?_⟩
 obtain ⟨vals, h1, h2⟩ := h μ a w hcx.tmps
 obtain ⟨x, w', μ', C', fr', p1, p2, p3, p4, p5, p6, p7, p8⟩ := hc.2 μ C w M N vals (Frm b a (.inRegion ops (i :: rest) :: k) :: cs) hp wf hs hN h1
 refine ⟨x, w', μ', C', p1, p2, ?_⟩
 have hstep := step_leave_returned (P := P) (fr := fr') (c := Frm b a (.inRegion ops (i :: rest) :: k)) (cs := cs) (w := w') (v := x) ⟨p4, p5, p6, by rw [p7]; exact p8⟩
 rw [Frm.finish b a ops i rest k x ho] at hstep
 exact Steps.trans (.one (m_enter ho hw hd h2)) (Steps.trans p3 (.one hstep))
theorem methodOf_ok (hp : PrOk pr P) {t : TypeId} {a : V} {name : String} {g : FuncId} {r : V} (h : methodOf pr t a name = .ok (g, r)) : r = a ∧ ∀ (X : Value) (n : Nat) (w : World), (Go.method (n + 1) t X name).run P w = .ok (g, X) w := by
 unfold methodOf at h
 have hh__ := bind_ok h; clear h; obtain ⟨i, hi, h⟩ := hh__
 have hT := ti_ok hp hi
 obtain ⟨inf, i1, -, -, i4, -⟩ := hT.info
 split at h
 ·rename_i m hm
  split at h
  ·rename_i g' ptr hpath hfunc
   have hfind : inf.methods.find? (fun x => x.name == name) = some m := by
    rw [i4]
    rw [← hm]
    simp
   have hp0 : m.path = #[] := arr_nil hpath
   have base : ∀ (X : Value) (n : Nat) (w : World), (∀ nm, (receiverAt t (.val X) ptr nm).run P w = .ok X w) → (Go.method (n + 1) t X name).run P w = .ok (g', X) w := by
    intro X n w hr
    simp [Go.method, typeInfo, i1, hfind, hp0, follow, hfunc, hr]
   have hu := hT.ok
   split at h
   ·rename_i e' hd; cases h; rw [hd] at hu
    exact ⟨rfl, fun X n w => base X n w fun nm => by simp [receiverAt, run_underlying hu, Place.get]⟩
   ·cases h
   ·cases h
   rename_i hne _
   cases h
   refine ⟨rfl, fun X n w => base X n w fun nm => ?_⟩
   simp only [receiverAt, Sem.run_bind, run_underlying hu, Result.andThen_ok]
   cases hd : i.d <;> first | rfl | (exact absurd hd (hne _)) | skip
  cases h
 cases h
end
end Go.Eng
/- Calls of functions, of methods, and recover, as operations. -/
namespace Go.Eng
open Go Go.RowKit Go.Pm
section
variable {P : Program} {α : At} {rnd : Option Nat} {f : FuncId} {fr fr1 fr2 : Fr} {σ σ' σ1 σ2 : St} {o : Oper} {v : V} {pr : Pr} {ih : Ih}
theorem not_defer_call {cl : Call} (ho : o.op = .call cl) : isDefer o = false := by unfold isDefer; rw [ho]
theorem k_callFunc (hI : IhOk pr P α ih) (hp : PrOk pr P) {cl : Call} {g : Operand} {args : List V} {gg : FuncId} {fst cap : List V} (ho : o.op = .call cl) (hc : cl.callee = .value g) (hargs : opnds fr cl.args.toList = .ok args) (hg : opnd fr g = .ok (.f (.func gg) fst cap))
  (h : callF pr ih σ gg (fst ++ args ++ cap) = .ok (σ', v)) : OpRun P α rnd f fr o σ σ' v := by
 obtain ⟨h1, fn, h2, h3, h4⟩ := callF_ok hI hp h
 refine call_runs (not_defer_call ho) h1 fun μ a w hf => ?_
 have hA := opnds_ok hf hargs
 obtain ⟨fn', xs, ys, e1, e2, e3, e4⟩ := conc_f (opnd_ok hf hg)
 simp only [concFn, Option.some.injEq] at e1
 subst e1
 refine ⟨_, concL_append (concL_append e2 hA) e3, ?_⟩
 obtain ⟨callee, cargs, ts⟩ := cl
 simp only at hc hA ⊢
 subst hc
 have hrun := callFunc_run (P := P) (args := (xs ++ cargs.toList.map a.eval ++ ys).toArray) (w := w) h2 h3 h4
 have harr : xs.toArray ++ cargs.map a.eval ++ ys.toArray = (xs ++ cargs.toList.map a.eval ++ ys).toArray := by
  apply Array.ext'; simp
 simp only [execOp, ho, resolve, e4, Deferred.ofValue, Sem.run_bind, Sem.run_pure, Result.andThen_ok, invoke, harr, hrun]
theorem k_invoke (hI : IhOk pr P α ih) (hp : PrOk pr P) {cl : Call} {x : Operand} {name : String} {args : List V} {t : TypeId} {a0 r : V} {gg : FuncId} (ho : o.op = .call cl) (hc : cl.callee = .invoke x name) (hargs : opnds fr cl.args.toList = .ok args) (hx : opnd fr x = .ok (.t t a0)) (hm : methodOf pr t a0 name = .ok (gg, r))
  (h : callF pr ih σ gg (r :: args) = .ok (σ', v)) : OpRun P α rnd f fr o σ σ' v := by
 obtain ⟨h1, fn, h2, h3, h4⟩ := callF_ok hI hp h
 obtain ⟨rfl, hmeth⟩ := methodOf_ok hp hm
 refine call_runs (not_defer_call ho) h1 fun μ a w hf => ?_
 have hA := opnds_ok hf hargs
 obtain ⟨X, e1, e2⟩ := conc_t (opnd_ok hf hx)
 refine ⟨_, concL_mk e1 hA, ?_⟩
 obtain ⟨callee, cargs, ts⟩ := cl
 simp only at hc hA ⊢
 subst hc
 have hrun := callFunc_run (P := P) (args := (X :: cargs.toList.map a.eval).toArray) (w := w) h2 h3 h4
 have harr : #[X] ++ cargs.map a.eval = (X :: cargs.toList.map a.eval).toArray := by
  apply Array.ext'; simp
 have hdep : 0 < Made.depth := by decide
 obtain ⟨n, hn⟩ : ∃ n, P.types.size + Made.depth = n + 1 := ⟨P.types.size + Made.depth - 1, by omega⟩
 have hmm := hmeth X n w
 rw [← hn] at hmm
 have hget : (#[Value.iface t X] ++ cargs.map a.eval)[0]? = some (.iface t X) := by
  rw [← Array.getElem?_toList, Array.toList_append]; rfl
 have hext : (#[Value.iface t X] ++ cargs.map a.eval).extract 1 (#[Value.iface t X] ++ cargs.map a.eval).size = cargs.map a.eval := by
  apply Array.ext'; simp
  exact List.take_of_length_le (by simp)
 simp only [execOp, ho, resolve, Sem.run_bind, Sem.run_pure, Result.andThen_ok, invoke, e2, hget, hext, callMethod]
 simp only [program, Sem.run, Result.andThen_ok, hmm, harr, hrun]
theorem k_recover (hfol : P.follows .rangeFuncRecover = true) {cl : Call} (ho : o.op = .call cl) (hc : cl.callee = .builtin .recover) : OpRun P α rnd f fr o σ σ .ni := by
 refine ⟨Tr.refl σ, fun μ C w M N a b k cs ops i rest hp wf hs hN hcx ho' hw => ⟨.nilIface, w, μ, C, Post.refl hp, by simp only [conc], .one (m_recover ho' hw (not_defer_call ho) hfol hcx.calm ?_)⟩⟩
 obtain ⟨callee, cargs, ts⟩ := cl
 simp only at hc
 subst hc
 simp [execOp, ho, resolve, invoke, Go.builtin]
theorem setParams_ok {μ : Mu} : ∀ {ps : List Nat} {vs : List V} {fr fr1 : Fr} {a : Act} {xs : List Value}, setParams fr ps vs = .ok fr1 → FrA α μ fr a → concL α μ vs = some xs →
  xs.length = ps.length ∧ FrA α μ fr1 { a with tmps := (ps.zip xs).foldl (fun tmps x => tmps.setIfInBounds x.1 x.2) a.tmps } ∧ fr1.ds = fr.ds
 | [], [], fr, fr1, a, xs, h, hf, hx => by
  simp only [concL, Option.some.injEq] at hx; subst hx
  cases h
  exact ⟨rfl, hf, rfl⟩
 | t :: ts, v :: vs, fr, fr1, a, xs, h, hf, hx => by
  obtain ⟨x, ys, h1, h2, rfl⟩ := concL_cons hx
  simp only [setParams] at h
  have hh__ := bind_ok h; clear h; obtain ⟨fr', hfr, h⟩ := hh__
  obtain ⟨p1, p2, p3⟩ := put_ok hf h1 hfr
  obtain ⟨q1, q2, q3⟩ := setParams_ok h p1 h2
  exact ⟨by simp [q1], by simpa [Act.put] using q2, q3.trans p2⟩
 | [], _ :: _, _, _, _, _, h, _, _ => by cases h
 | _ :: _, [], _, _, _, _, h, _, _ => by cases h
theorem loop_step {μ : Mu} {C : Nat → O} {w : World} {M : Nat → Prop} {N : Nat} {l st n dr : Nat} {pd : Option Code} {g : FuncId} {t : T V} {ps : List Nat} {as' bd : Code} (hobj : obj σ l = .loop st pd g n t ps as' bd dr) (hp : Pre P α μ C σ w M N) (hM : M l) :
  ∃ b x L, μ l = some (b, x) ∧ w.heap[b]? = some (.loop L) ∧ stOf st = some L.state ∧ L.pending = pd ∧ L.fn = g ∧ FrR α μ n t L.tmps ∧ L.params = ps.toArray ∧ L.assign = as' ∧ L.body = bd ∧
   (∃ d y, μ dr = some (d, y) ∧ L.defers = d) ∧
   ∀ st' pd' s, stOf st' = some s → Post P α μ C σ w μ (upd C l (.loop st' pd' g n t ps as' bd dr)) (wr σ l (.loop st' pd' g n t ps as' bd dr)) { w with heap := w.heap.setIfInBounds b (.loop { L with state := s, pending := pd' }) } M N := by
 obtain ⟨b, cap, ob, h1, h2, s, tmps, d, y, h3, h4, h5, rfl⟩ := hp.get hM hobj (by simp)
 refine ⟨b, cap, _, h1, h2, h3, rfl, rfl, h4, rfl, rfl, rfl, ⟨d, y, h5, rfl⟩, fun st' pd' s' hs' => ?_⟩
 exact Post.wr hp hM (by rw [hobj]; simp) h1 (wrote_setObj (Array.getElem?_eq_some_iff.1 h2).1) ⟨s', tmps, d, y, hs', h4, h5, rfl⟩
theorem m_beginRound {b : Frame} {a : Act} {k : List Item} {cs : List Frame} {w : World} {l : Nat} {L : Loop} (hr : b.roundOf = some l) (hl : w.heap[l]? = some (.loop L)) (hs : L.state = .ready) :
  Go.step P (lone (Frm b a (.beginRound :: k)) cs w) = .next (lone (Frm b a k) cs { w with heap := w.heap.setIfInBounds l (.loop { L with state := .busy }) }) := by
 refine step_lone_go ?_
 have hfin : (Frm b a (.beginRound :: k)).finish undef = Frm b a k := rfl
 simp only [stepG]
 have : (Frm b a (.beginRound :: k)).mode = .run := rfl
 simp only [this, stepG.exec]
 have ht : (Frm b a (.beginRound :: k)).todo = .beginRound :: k := rfl
 have hro : (Frm b a (.beginRound :: k)).roundOf = some l := hr
 simp only [ht, hro]
 have hrun : (Instr.beginRound l).run P w = .ok () { w with heap := w.heap.setIfInBounds l (.loop { L with state := .busy }) } := by
  simp [Instr.beginRound, Instr.getLoop, getObj, setObj, Sem.run, hl, hs]
 simp [stepG.apply, Sem.runT_eq, hrun, hfin]
theorem m_roundEnd {b c : Frame} {a : Act} {cs : List Frame} {w : World} {l : Nat} {L : Loop} (hk : b.kind = .normal) (hr : b.roundOf = some l) (hl : w.heap[l]? = some (.loop L)) :
  Go.step P (lone (Frm b a []) (c :: cs) w) = .next (lone (c.finish (.bool true)) cs { w with heap := w.heap.setIfInBounds l (.loop { L with state := .ready, pending := none }) }) := by
 refine step_lone_go ?_
 have hrun : (Instr.endRound l none).run P w = .ok (.bool true) { w with heap := w.heap.setIfInBounds l (.loop { L with state := .ready, pending := none }) } := by
  simp [Instr.endRound, Instr.getLoop, getObj, setObj, Sem.run, hl]
 simp [stepG, stepG.exec, Frm, hr, Sem.runT_eq, hrun, doReturn, hk]
theorem m_roundExit {b c : Frame} {a : Act} {cs : List Frame} {w : World} {l id : Nat} {k : List Item} {L : Loop} (hk : b.kind = .normal) (hr : b.roundOf = some l) (hl : w.heap[l]? = some (.loop L)) (he : exitTo id k = none) :
  Go.step P (lone (Frm b a (.code (.exit id) :: k)) (c :: cs) w) = .next (lone (c.finish (.bool false)) cs { w with heap := w.heap.setIfInBounds l (.loop { L with state := .done, pending := some (.exit id) }) }) := by
 refine step_lone_go ?_
 have hrun : (Instr.endRound l (some (.exit id))).run P w = .ok (.bool false) { w with heap := w.heap.setIfInBounds l (.loop { L with state := .done, pending := some (.exit id) }) } := by
  simp [Instr.endRound, Instr.getLoop, getObj, setObj, Sem.run, hl]
 simp [stepG, stepG.exec, Frm, he, hr, Sem.runT_eq, hrun, doReturn, hk]
theorem m_roundRet {b c : Frame} {a : Act} {cs : List Frame} {w : World} {l : Nat} {k : List Item} {L : Loop} (hk : b.kind = .normal) (hr : b.roundOf = some l) (hl : w.heap[l]? = some (.loop L)) :
  Go.step P (lone (Frm b a (.code .ret :: k)) (c :: cs) w) = .next (lone (c.finish (.bool false)) cs { w with heap := w.heap.setIfInBounds l (.loop { L with state := .done, pending := some .ret }) }) := by
 refine step_lone_go ?_
 have hrun : (Instr.endRound l (some .ret)).run P w = .ok (.bool false) { w with heap := w.heap.setIfInBounds l (.loop { L with state := .done, pending := some .ret }) } := by
  simp [Instr.endRound, Instr.getLoop, getObj, setObj, Sem.run, hl]
 simp [stepG, stepG.exec, Frm, hr, Sem.runT_eq, hrun, doReturn, hk]
theorem setLoop_ok {l st : Nat} {pd : Option Code} (h : setLoop σ l st pd = .ok σ') : ∃ s0 p0 g n t ps as' bd dr, obj σ l = .loop s0 p0 g n t ps as' bd dr ∧ σ' = wr σ l (.loop st pd g n t ps as' bd dr) := by
 unfold setLoop at h
 split at h
 ·rename_i s0 p0 g n t ps as' bd dr hobj
  cases h
  exact ⟨s0, p0, g, n, t, ps, as', bd, dr, hobj, rfl⟩
 cases h
theorem busyLoop_ok {l : Nat} (h : busyLoop σ l = .ok σ') : ∃ p0 g n t ps as' bd dr, obj σ l = .loop 0 p0 g n t ps as' bd dr ∧ σ' = wr σ l (.loop 1 p0 g n t ps as' bd dr) := by
 unfold busyLoop at h
 split at h
 ·rename_i p0 g n t ps as' bd dr hobj
  cases h
  exact ⟨p0, g, n, t, ps, as', bd, dr, hobj, rfl⟩
 cases h
theorem endRoundV_ok {l : Nat} {fr3 : Fr} {e : Exit} {σ3 : St} (h : endRoundV l (σ3, fr3, e) = .ok (σ', v)) : ∃ st pd bb, setLoop σ3 l st pd = .ok σ' ∧ v = .b bb ∧
  ((e = .normal ∧ st = 0 ∧ pd = none ∧ bb = true) ∨ (∃ id, e = .exit id ∧ st = 2 ∧ pd = some (.exit id) ∧ bb = false) ∨ (e = .ret ∧ st = 2 ∧ pd = some .ret ∧ bb = false)) := by
 unfold endRoundV at h
 split at h
 ·rename_i heq; cases heq; have hh__ := bind_ok h; clear h; obtain ⟨s, hs, h⟩ := hh__; cases h; exact ⟨_, _, _, hs, rfl, .inl ⟨rfl, rfl, rfl, rfl⟩⟩
 ·rename_i heq; cases heq; have hh__ := bind_ok h; clear h; obtain ⟨s, hs, h⟩ := hh__; cases h; exact ⟨_, _, _, hs, rfl, .inr (.inl ⟨_, rfl, rfl, rfl, rfl⟩)⟩
 ·rename_i heq; cases heq; have hh__ := bind_ok h; clear h; obtain ⟨s, hs, h⟩ := hh__; cases h; exact ⟨_, _, _, hs, rfl, .inr (.inr ⟨rfl, rfl, rfl, rfl⟩)⟩
 cases h
theorem k_yield (hI : IhOk pr P α ih) {cl : Call} {g : Operand} {args : List V} {l : Nat} {fst cap : List V} (ho : o.op = .call cl) (hc : cl.callee = .value g) (hargs : opnds fr cl.args.toList = .ok args) (hg : opnd fr g = .ok (.f (.yield l) fst cap))
  (h : yieldV ih σ l (fst ++ args) = .ok (σ', v)) : OpRun P α rnd f fr o σ σ' v := by
 unfold yieldV at h
 split at h
 ·rename_i st pd gf n t ps as' bd dr hobj
  have hh__ := bind_ok h; clear h; obtain ⟨fr1, h1, h⟩ := hh__
  have hh__ := bind_ok h; clear h; obtain ⟨r2, h2, h⟩ := hh__
  obtain ⟨σ1, fr2, e1⟩ := r2
  split at h
  ·rename_i σ1' fr2' heq
   cases heq
   have hh__ := bind_ok h; clear h; obtain ⟨σ2, h3, h⟩ := hh__
   have hh__ := bind_ok h; clear h; obtain ⟨r4, h4, h⟩ := hh__
   obtain ⟨σ3, fr3, e⟩ := r4
   obtain ⟨st', pd', bb, h5, rfl, h6⟩ := endRoundV_ok h
   have R1 := hI.exec _ _ _ _ _ _ _ _ h2
   have R2 := hI.exec _ _ _ _ _ _ _ _ h4
   obtain ⟨p0, g1, n1, t1, ps1, as1, bd1, dr1, hob1, rfl⟩ := busyLoop_ok h3
   obtain ⟨s3, p3, g3, n3, t3, ps3, as3, bd3, dr3, hob3, rfl⟩ := setLoop_ok h5
   have T0 := tr_rd σ l
   have T2 : Tr σ1 (wr σ1 l (.loop 1 p0 g1 n1 t1 ps1 as1 bd1 dr1)) := tr_wr _ (by rw [hob1]; simp)
   have T4 : Tr σ3 (wr σ3 l (.loop st' pd' g3 n3 t3 ps3 as3 bd3 dr3)) := tr_wr _ (by rw [hob3]; simp)
   have T34 := R2.1.trans T4
   have T24 := T2.trans T34
   have T14 := R1.1.trans T24
   refine ⟨T0.trans T14, fun μ C w M N a b k cs ops i rest hp wf hs hN hcx ho' hw => ?_⟩
   have hMl : M l := hs l (.inl ((T14.r l) (by show (Nat.lor σ.r (2 ^ l)).testBit l = true; rw [bit_lor]; simp)))
   obtain ⟨bl, xl, L, l1, l2, l3, l4, l5, l6, l7, l8, l9, -, -⟩ := loop_step hobj hp hMl
   have hA := opnds_ok hcx.tmps hargs
   obtain ⟨fn', xs, ys, e1, e2, e3, e4⟩ := conc_f (opnd_ok hcx.tmps hg)
   simp only [concFn, l1, Option.map_some, Option.some.injEq] at e1
   subst e1
   have hall := concL_append e2 hA
   obtain ⟨q1, q2, q3⟩ := setParams_ok (a := ⟨L.tmps, []⟩) h1 ⟨l6.size, l6.at_⟩ hall
   have hrun : (execOp a.eval o).run P w = .ok (.round bl gf ((ps.zip (xs ++ cl.args.toList.map a.eval)).foldl (fun tmps x => tmps.setIfInBounds x.1 x.2) L.tmps) as' bd) w := by
    obtain ⟨callee, cargs, ts⟩ := cl
    simp only at hc hA hall q1 ⊢
    subst hc
    have harr : xs.toArray ++ cargs.map a.eval = (xs ++ cargs.toList.map a.eval).toArray := by
     apply Array.ext'; simp
    have hsz : (xs ++ cargs.toList.map a.eval).toArray.size = L.params.size := by rw [l7]; simpa using q1
    simp only [execOp, ho, resolve, e4, Deferred.ofValue, Sem.run_bind, Sem.run_pure, Result.andThen_ok, invoke, harr, Instr.yield, Instr.getLoop, getObj, Sem.run, l2]
    rw [if_neg (by simpa using hsz)]
    simp [l5, l7, l8, l9]
   have hstep0 := m_round (b := b) (a := a) (k := k) (cs := cs) (w := w) (w' := w) (rest := rest) ho' hw (not_defer_call ho) hrun
   have p0' := Post.rd hp l
   have hs1 : Sub σ1 M := hs.of_tr T24
   have wf0 : Wf (rd σ l) := T0.wf wf
   obtain ⟨a1, w1, μ1, C1, P1, c1, S1⟩ := R1.2 μ C w M N ⟨_, []⟩ (Frame.round bl gf ((ps.zip (xs ++ cl.args.toList.map a.eval)).foldl (fun tmps x => tmps.setIfInBounds x.1 x.2) L.tmps) as' bd .normal) [.beginRound, .code bd] (Frm b a (.inRegion ops (i :: rest) :: k) :: cs) p0'.pre wf0 hs1 (Nat.le_trans T24.nx hN)
    ⟨q2, by rw [q3]; trivial, rfl, ⟨xl, l1⟩, .inl rfl⟩
   have P01 := Post.trans hp wf p0' T0 P1 R1.1 hs1
   have T01 := T0.trans R1.1
   have wf1 := T01.wf wf
   obtain ⟨bl', xl', L1, i1, i2, i3, i4, i5, i6, i7, i8, i9, -, i10⟩ := loop_step hob1 P01.pre hMl
   have hbl : bl' = bl := by
    have := c1.rnd
    obtain ⟨x', hx'⟩ := this
    rw [i1] at hx'
    cases hx'; rfl
   subst hbl
   subst i4
   have P2 := i10 1 L1.pending .busy rfl
   have S2 := m_beginRound (P := P) (b := Frame.round bl' gf ((ps.zip (xs ++ cl.args.toList.map a.eval)).foldl (fun tmps x => tmps.setIfInBounds x.1 x.2) L.tmps) as' bd .normal) (a := a1) (k := [.code bd]) (cs := Frm b a (.inRegion ops (i :: rest) :: k) :: cs) rfl i2 (by simp only [stOf, Option.some.injEq] at i3; exact i3.symm)
   have hs2 : Sub (wr σ1 l (.loop 1 L1.pending g1 n1 t1 ps1 as1 bd1 dr1)) M := hs.of_tr T34
   have P02 := Post.trans hp wf P01 T01 P2 T2 hs2
   have T02 := T01.trans T2
   have wf2 := T02.wf wf
   have hs3 : Sub σ3 M := hs.of_tr T4
   obtain ⟨a3, w3, μ3, C3, P3, c3, S3⟩ := R2.2 μ1 _ _ M N a1 (Frame.round bl' gf ((ps.zip (xs ++ cl.args.toList.map a.eval)).foldl (fun tmps x => tmps.setIfInBounds x.1 x.2) L.tmps) as' bd .normal) [] (Frm b a (.inRegion ops (i :: rest) :: k) :: cs) P2.pre wf2 hs3 (Nat.le_trans T4.nx hN) c1
   have P03 := Post.trans hp wf P02 T02 P3 R2.1 hs3
   have T03 := T02.trans R2.1
   obtain ⟨bl3, xl3, L3, j1, j2, j3, j4, j5, j6, j7, j8, j9, -, j10⟩ := loop_step hob3 P03.pre hMl
   have hbl3 : bl3 = bl' := by
    obtain ⟨x', hx'⟩ := c3.rnd
    rw [j1] at hx'
    cases hx'; rfl
   subst hbl3
   have hS0 : Steps P (lone (Frm b a (.inRegion ops (i :: rest) :: k)) cs w) (lone (Frm (Frame.round bl3 gf ((ps.zip (xs ++ cl.args.toList.map a.eval)).foldl (fun tmps x => tmps.setIfInBounds x.1 x.2) L.tmps) as' bd .normal) a1 [.code bd]) (Frm b a (.inRegion ops (i :: rest) :: k) :: cs) { w1 with heap := w1.heap.setIfInBounds bl3 (.loop { L1 with state := .busy }) }) :=
    Steps.trans (.one hstep0) (Steps.trans S1 (.one S2))
   rcases h6 with ⟨rfl, rfl, rfl, rfl⟩ | ⟨id, rfl, rfl, rfl, rfl⟩ | ⟨rfl, rfl, rfl, rfl⟩
   ·have P4 := j10 0 none .ready rfl
    refine ⟨.bool true, _, μ3, _, Post.trans hp wf P03 T03 P4 T4 hs, by simp [conc], ?_⟩
    have S4 := m_roundEnd (P := P) (b := Frame.round bl3 gf ((ps.zip (xs ++ cl.args.toList.map a.eval)).foldl (fun tmps x => tmps.setIfInBounds x.1 x.2) L.tmps) as' bd .normal) (a := a3) (c := Frm b a (.inRegion ops (i :: rest) :: k)) (cs := cs) rfl rfl j2
    rw [Frm.finish b a ops i rest k _ ho'] at S4
    exact Steps.trans hS0 (Steps.trans S3 (.one S4))
   ·have P4 := j10 2 (some (.exit id)) .done rfl
    refine ⟨.bool false, _, μ3, _, Post.trans hp wf P03 T03 P4 T4 hs, by simp [conc], ?_⟩
    obtain ⟨k', hk1, hk2⟩ := S3
    have S4 := m_roundExit (P := P) (b := Frame.round bl3 gf ((ps.zip (xs ++ cl.args.toList.map a.eval)).foldl (fun tmps x => tmps.setIfInBounds x.1 x.2) L.tmps) as' bd .normal) (a := a3) (c := Frm b a (.inRegion ops (i :: rest) :: k)) (cs := cs) (k := k') (id := id) rfl rfl j2 (by rw [hk1]; rfl)
    rw [Frm.finish b a ops i rest k _ ho'] at S4
    exact Steps.trans hS0 (Steps.trans hk2 (.one S4))
   have P4 := j10 2 (some .ret) .done rfl
   refine ⟨.bool false, _, μ3, _, Post.trans hp wf P03 T03 P4 T4 hs, by simp [conc], ?_⟩
   obtain ⟨k', hk2⟩ := S3
   have S4 := m_roundRet (P := P) (b := Frame.round bl3 gf ((ps.zip (xs ++ cl.args.toList.map a.eval)).foldl (fun tmps x => tmps.setIfInBounds x.1 x.2) L.tmps) as' bd .normal) (a := a3) (c := Frm b a (.inRegion ops (i :: rest) :: k)) (cs := cs) (k := k') rfl rfl j2
   rw [Frm.finish b a ops i rest k _ ho'] at S4
   exact Steps.trans hS0 (Steps.trans hk2 (.one S4))
  cases h
 cases h
end
end Go.Eng
/- All operations within a region that doesn't draw. -/
namespace Go.Eng
open Go Go.RowKit Go.Pm
section
variable {P : Program} {α : At} {rnd : Option Nat} {f : FuncId} {fr fr' fr1 fr2 : Fr} {σ σ' σ1 σ2 : St} {o : Oper} {v : V} {pr : Pr} {ih : Ih} {μ : Mu}
theorem oper_runs (hα : AtOk pr α) (hp : PrOk pr P) (hI : IhOk pr P α ih) (hfol : P.follows .rangeFuncRecover = true) (hd : isDefer o = false) (h : oper pr ih fr σ o = .ok (σ', v)) : OpRun P α rnd f fr o σ σ' v := by
 cases hpl : plainOp o with
 | true => exact (oper_ok hα hp hpl h).runs hd
 | false =>
  unfold plainOp at hpl
  split at hpl
  ·rename_i cl ho
   unfold oper at h
   rw [ho] at h
   dsimp only at h
   have hh__ := bind_ok h; clear h; obtain ⟨args, hargs, h⟩ := hh__
   split at hpl
   ·rename_i hc
    rw [hc] at h
    simp only [Eng.builtin] at h
    cases h
    exact k_recover hfol ho hc
   ·cases hpl
   cases hc : cl.callee with
   | builtin b => rename_i hn1 hn2; exact absurd hc (hn2 b)
   | value g =>
    rw [hc] at h
    dsimp only at h
    have hh__ := bind_ok h; clear h; obtain ⟨gv, hg, h⟩ := hh__
    unfold callV at h
    split at h
    ·exact k_callFunc hI hp ho hc hargs hg h
    ·exact k_yield hI ho hc hargs hg h
    cases h
   | invoke x name =>
    rw [hc] at h
    dsimp only at h
    have hh__ := bind_ok h; clear h; obtain ⟨xv, hx, h⟩ := hh__
    split at h
    ·rename_i t a0
     have hh__ := bind_ok h; clear h; obtain ⟨gr, hm, h⟩ := hh__
     obtain ⟨gg, r⟩ := gr
     exact k_invoke hI hp ho hc hargs hx hm h
    cases h
  cases hpl
theorem conc_bool : ∀ {v : V} {x : Bool}, conc α μ v = some (.bool x) → v = .b x := by
 intro v x h
 cases v with
 | b y => simp only [conc, Option.some.injEq, Value.bool.injEq] at h; rw [h]
 | p a => cases a with
  | none => simp [conc] at h
  | some a => simp [conc] at h
 | sl a n c => cases a with
  | none => simp only [conc] at h; split at h <;> simp at h
  | some a => cases c <;> simp [conc] at h
 | m a => cases a <;> simp [conc] at h
 | f fn a b => simp only [conc] at h; split at h <;> simp at h
 | sx k o e l sz =>
  simp only [conc, Option.map_eq_some_iff] at h
  obtain ⟨y, -, h⟩ := h
  split at h <;> cases h
 | _ => simp [conc] at h
theorem wantedV_ok {ops : Array Oper} {a : Act} (hf : FrA α μ fr a) : Region.wanted o (yielded ops a.tmps) = wantedV ops.toList fr o := by
 unfold Region.wanted wantedV
 cases o.guard with
 | none => rfl
 | some g =>
  obtain ⟨j, w⟩ := g
  dsimp only
  unfold yielded
  rw [Array.getElem?_toList]
  cases ops[j]? with
  | none => rfl
  | some g =>
   dsimp only [Option.bind_some]
   cases g.dst with
   | none => rfl
   | some d =>
    dsimp only [Option.bind_some]
    have h := hf.at_ d
    unfold Fr.at
    rw [Array.getD_eq_getD_getElem?] at h
    cases hv : T.get und fr.t d with
    | b x =>
     rw [hv] at h
     simp only [conc, Option.some.injEq] at h
     cases hd : a.tmps[d]? with
     | none => rw [hd] at h; cases h
     | some y => rw [hd] at h; simp at h; subst h; rfl
    | _ =>
     have hne : ∀ x, a.tmps[d]? ≠ some (.bool x) := by
      intro x e
      rw [e] at h
      simp only [Option.getD_some] at h
      rw [hv] at h
      have := conc_bool h
      cases this
     cases hd : a.tmps[d]? with
     | none => rfl
     | some y => cases y with
      | bool x => exact absurd hd (hne x)
      | _ => rfl
def goReg (P : Program) (ops : Array Oper) (l l' : List Nat) (b : Frame) (k : List Item) (cs : List Frame) (a : Act) (w : World) (a' : Act) (w' : World) : Prop :=
 Steps P (lone (Frm b a (.inRegion ops l :: k)) cs w) (lone (Frm b a' (.inRegion ops l' :: k)) cs w')
theorem goReg.trans {ops : Array Oper} {l l' l'' : List Nat} (h1 : Runs P α rnd f fr fr1 σ σ1 (goReg P ops l l')) (h2 : Runs P α rnd f fr1 fr2 σ1 σ2 (goReg P ops l' l'')) : Runs P α rnd f fr fr2 σ σ2 (goReg P ops l l'') :=
 Runs.trans h1 h2 id id fun _ _ _ _ _ _ _ _ _ q1 q2 => Steps.trans q1 q2
theorem op_reg {ops : Array Oper} {i : Nat} {rest : List Nat} (ho : ops[i]? = some o) (hw : wantedV ops.toList fr o = true) (h : OpRun P α rnd f fr o σ σ' v) (hput : fr.put o.dst v = .ok fr') : Runs P α rnd f fr fr' σ σ' (goReg P ops (i :: rest) rest) := by
 refine ⟨h.1, fun μ C w M N a b k cs hpre wf hs hN hc => ?_⟩
 obtain ⟨x, w', μ', C', p1, p2, p3⟩ := h.2 μ C w M N a b k cs ops i rest hpre wf hs hN hc ho ((wantedV_ok hc.tmps).trans hw)
 have hle := Post.le hpre hN p1
 have hc' := hc.mono hle
 obtain ⟨q1, q2, -⟩ := put_ok hc'.tmps p2 hput
 refine ⟨a.put o.dst x, w', μ', C', p1, ⟨q1, ?_, hc'.fn, hc'.rnd, hc'.calm⟩, p3⟩
 rw [q2, put_defers]; exact hc'.ds
theorem skip_reg {ops : Array Oper} {i : Nat} {rest : List Nat} (ho : ops[i]? = some o) (hw : wantedV ops.toList fr o = false) (hput : fr.put o.dst und = .ok fr') : Runs P α rnd f fr fr' σ σ (goReg P ops (i :: rest) rest) := by
 refine ⟨Tr.refl σ, fun μ C w M N a b k cs hpre wf hs hN hc => ?_⟩
 obtain ⟨q1, q2, -⟩ := put_ok hc.tmps (und_ok μ) hput
 refine ⟨a.put o.dst undef, w, μ, C, Post.refl hpre, ⟨q1, by rw [q2, put_defers]; exact hc.ds, hc.fn, hc.rnd, hc.calm⟩, .one (m_opSkip ho ((wantedV_ok hc.tmps).trans hw))⟩
theorem defer_reg {ops : Array Oper} {i : Nat} {rest : List Nat} {cl : Call} {d : D} (ho : ops[i]? = some o) (hop : o.op = .defer cl) (hw : wantedV ops.toList fr o = true) (hdv : deferV fr cl = .ok d) (hput : ({ fr with ds := d :: fr.ds } : Fr).put o.dst und = .ok fr') : Runs P α none f fr fr' σ σ (goReg P ops (i :: rest) rest) := by
 refine ⟨Tr.refl σ, fun μ C w M N a b k cs hpre wf hs hN hc => ?_⟩
 unfold deferV at hdv
 have hh__ := bind_ok hdv; clear hdv; obtain ⟨args, hargs, hdv⟩ := hh__
 have hA := opnds_ok hc.tmps hargs
 split at hdv
 ·rename_i g hcal
  have hh__ := bind_ok hdv; clear hdv; obtain ⟨gv, hg, hdv⟩ := hh__
  split at hdv
  ·rename_i gg fst cap
   cases hdv
   obtain ⟨fn', xs, ys, e1, e2, e3, e4⟩ := conc_f (opnd_ok hc.tmps hg)
   simp only [concFn, Option.some.injEq] at e1
   subst e1
   have hro : b.roundOf = none := by
    have := hc.rnd
    cases hb : b.roundOf with
    | none => rfl
    | some l => rw [hb] at this; exact this.elim
   have hrun : (execOp a.eval o).run P w = .ok (.defer { target := .fn (.func gg) ys.toArray, args := xs.toArray ++ cl.args.map a.eval }) w := by
    simp [execOp, hop, resolve, hcal, e4, Deferred.ofValue]
   have hf0 : FrA α μ ({ fr with ds := .call gg (fst ++ args ++ cap) :: fr.ds } : Fr) ({ a with defers := { target := .fn (.func gg) ys.toArray, args := xs.toArray ++ cl.args.map a.eval } :: a.defers } : Act) := ⟨hc.tmps.size, hc.tmps.at_⟩
   obtain ⟨q1, q2, -⟩ := put_ok hf0 (und_ok μ) hput
   refine ⟨_, w, μ, C, Post.refl hpre, ⟨q1, ?_, hc.fn, hc.rnd, hc.calm⟩, .one (m_defer ho ((wantedV_ok hc.tmps).trans hw) hro hrun)⟩
   rw [q2, put_defers]
   refine ⟨⟨ys.toArray, rfl, ?_⟩, hc.ds⟩
   simpa using concL_append (concL_append e2 hA) e3
  cases hdv
 cases hdv
theorem runOps_ok (hα : AtOk pr α) (hp : PrOk pr P) (hI : IhOk pr P α ih) (hfol : P.follows .rangeFuncRecover = true) {ops : Array Oper} (os : List Oper) : ∀ (i : Nat) (fr : Fr) (σ : St), (∀ j, os[j]? = ops[i + j]?) → runOps pr ih rnd ops.toList os fr σ = .ok (σ', fr') →
  Runs P α rnd f fr fr' σ σ' (goReg P ops (List.range' i os.length) []) := by
 induction os with
 | nil => intro i fr σ _ h; cases h; exact Runs.refl fun _ _ _ _ _ => Steps.refl P _
 | cons o os ihos =>
  intro i fr σ hos h
  have ho : ops[i]? = some o := by have := hos 0; simpa using this.symm
  have hos' : ∀ j, os[j]? = ops[i + 1 + j]? := fun j => by have := hos (j + 1); simpa [Nat.add_assoc, Nat.add_comm 1 j] using this
  simp only [runOps] at h
  rw [List.length_cons, List.range'_succ]
  cases hw : wantedV ops.toList fr o with
  | false =>
   rw [hw] at h
   simp only [cond_false] at h
   have hh__ := bind_ok h; clear h; obtain ⟨fr1, h1, h⟩ := hh__
   exact goReg.trans (skip_reg ho hw h1) (ihos (i + 1) fr1 σ hos' h)
  | true =>
   rw [hw] at h
   simp only [cond_true] at h
   split at h
   ·rename_i cl hop
    have hr : rnd = none := by
     cases rnd with
     | none => rfl
     | some l => cases h
    subst hr
    dsimp only at h
    have hh__ := bind_ok h; clear h; obtain ⟨d, hd, h⟩ := hh__
    have hh__ := bind_ok h; clear h; obtain ⟨fr1, h1, h⟩ := hh__
    exact goReg.trans (defer_reg ho hop hw hd h1) (ihos (i + 1) fr1 σ hos' h)
   rename_i hop
   have hh__ := bind_ok h; clear h; obtain ⟨r, h1, h⟩ := hh__
   obtain ⟨σ1, v1⟩ := r
   have hh__ := bind_ok h; clear h; obtain ⟨fr1, h2, h⟩ := hh__
   have hdf : isDefer o = false := by
    unfold isDefer
    split
    ·rename_i cl e; exact absurd e (hop cl)
    rfl
   exact goReg.trans (op_reg ho hw (oper_runs hα hp hI hfol hdf h1) h2) (ihos (i + 1) fr1 σ1 hos' h)
theorem run_region (hα : AtOk pr α) (hp : PrOk pr P) (hI : IhOk pr P α ih) (hfol : P.follows .rangeFuncRecover = true) {ops : Array Oper} {rid : Nat} (h : runOps pr ih rnd ops.toList ops.toList fr σ = .ok (σ', fr')) : Runs P α rnd f fr fr' σ σ' (goCode P (.region rid ops false) .normal) := by
 have := runOps_ok (f := f) hα hp hI hfol (ops := ops) ops.toList 0 fr σ (fun j => by simp) h
 refine Runs.mono this id fun b k cs a w a1 w1 q1 => ?_
 have e : List.range' 0 ops.toList.length = List.range ops.size := by rw [List.range_eq_range']; simp
 unfold goReg at q1
 rw [e] at q1
 exact Steps.trans (.one m_region) (Steps.trans q1 (.one m_regionEnd))
end
end Go.Eng
/- Regions that draw their order. -/
namespace Go.Eng
open Go Go.RowKit Go.Pm
theorem opnd_congr {fr fr' : Fr} {x : Operand} (h : ∀ t, x = .tmp t → fr.at t = fr'.at t) : opnd fr x = opnd fr' x := by
 cases x with
 | tmp t => simp only [opnd, h t rfl]
 | _ => rfl
theorem opnds_congr {fr fr' : Fr} : ∀ {l : List Operand}, (∀ x ∈ l, ∀ t, x = .tmp t → fr.at t = fr'.at t) → opnds fr l = opnds fr' l
 | [], _ => rfl
 | x :: l, h => by
  simp only [opnds]
  rw [opnd_congr (h x (by simp)), opnds_congr (l := l) fun y hy => h y (by simp [hy])]
theorem parts_congr {fr fr' : Fr} : ∀ {l : List (Nat × Operand)}, (∀ x ∈ l, ∀ t, x.2 = .tmp t → fr.at t = fr'.at t) → parts fr l = parts fr' l
 | [], _ => rfl
 | (i, x) :: l, h => by
  simp only [parts]
  rw [opnd_congr (h (i, x) (by simp)), parts_congr (l := l) fun y hy => h y (by simp [hy])]
theorem optO_congr {fr fr' : Fr} : ∀ {x : Option Operand}, (∀ y ∈ x, ∀ t, y = .tmp t → fr.at t = fr'.at t) → optO fr x = optO fr' x
 | none, _ => rfl
 | some x, h => by simp only [optO]; rw [opnd_congr (h x (by simp))]
theorem oper_congr {pr : Pr} {ih : Ih} {fr fr' : Fr} {σ : St} {o : Oper} (h : ∀ x ∈ o.op.operands.toList, ∀ t, x = .tmp t → fr.at t = fr'.at t) : oper pr ih fr σ o = oper pr ih fr' σ o := by
 have H : ∀ x ∈ o.op.operands.toList, opnd fr x = opnd fr' x := fun x hx => opnd_congr (h x hx)
 unfold oper
 cases hop : o.op with
 | pick c a b =>
  rw [hop] at H
  simp only [Op.operands, List.mem_cons, List.not_mem_nil, or_false, forall_eq_or_imp, forall_eq] at H
  obtain ⟨h1, h2, h3⟩ := H
  simp only [h1]
  congr 1
  funext v
  cases v with
  | b t => cases t <;> simp [h2, h3]
  | _ => rfl
 | build t ps =>
  rw [hop] at h
  have := parts_congr (fr := fr) (fr' := fr') (l := ps.toList) (fun x hx => h x.2 (by simp [Op.operands]; exact ⟨x.1, by simpa using hx⟩))
  simp only [this]
 | buildSlice t n ps =>
  rw [hop] at h
  have := parts_congr (fr := fr) (fr' := fr') (l := ps.toList) (fun x hx => h x.2 (by simp [Op.operands]; exact ⟨x.1, by simpa using hx⟩))
  simp only [this]
 | makeFunc fn a b =>
  rw [hop] at h
  have h1 := opnds_congr (fr := fr) (fr' := fr') (l := a.toList) (fun x hx => h x (by simp [Op.operands]; exact .inl (by simpa using hx)))
  have h2 := opnds_congr (fr := fr) (fr' := fr') (l := b.toList) (fun x hx => h x (by simp [Op.operands]; exact .inr (by simpa using hx)))
  simp only [h1, h2]
 | makeMap t r =>
  cases r with
  | none => rfl
  | some x =>
   have h1 := H x (by rw [hop]; simp [Op.operands])
   simp only [h1]
 | slice t x l hh m =>
  rw [hop] at h
  have h1 := opnd_congr (fr := fr) (fr' := fr') (x := x) (h x (by simp [Op.operands]))
  have h2 := optO_congr (fr := fr) (fr' := fr') (x := l) (fun y hy => h y (by simp [Op.operands]; simp at hy; exact .inr (.inl hy)))
  have h3 := optO_congr (fr := fr) (fr' := fr') (x := hh) (fun y hy => h y (by simp [Op.operands]; simp at hy; exact .inr (.inr (.inl hy))))
  have h4 := optO_congr (fr := fr) (fr' := fr') (x := m) (fun y hy => h y (by simp [Op.operands]; simp at hy; exact .inr (.inr (.inr hy))))
  simp only [h1, h2, h3, h4]
 | call cl =>
  rw [hop] at h H
  have h1 := opnds_congr (fr := fr) (fr' := fr') (l := cl.args.toList) (fun x hx => h x (by
   simp only [Op.operands, Call.operands]
   split <;> simp <;> first | exact (by simpa using hx) | exact .inr (by simpa using hx)))
  simp only [h1]
  congr 1
  funext args
  cases hc : cl.callee with
  | builtin b => rfl
  | value f =>
   have h2 := H f (by simp [Op.operands, Call.operands, hc])
   simp only [h2]
  | invoke x name =>
   have h2 := H x (by simp [Op.operands, Call.operands, hc])
   simp only [h2]
 | next x b =>
  rw [hop] at H
  simp only [Op.operands, List.mem_cons, List.not_mem_nil, or_false, forall_eq] at H
  cases b <;> simp only [H]
 | _ =>
  rw [hop] at H
  first
  | done
  | rfl
  | (simp only [Op.operands, List.mem_cons, List.not_mem_nil, or_false, forall_eq_or_imp, forall_eq] at H; simp only [H]; done)
  | (simp only [Op.operands, List.mem_cons, List.not_mem_nil, or_false, forall_eq_or_imp, forall_eq] at H; simp only [H]; rfl)
theorem wantedV_congr {fr fr' : Fr} {ops : List Oper} {o : Oper} (h : ∀ j w d, o.guard = some (j, w) → (ops[j]?).bind (·.dst) = some d → fr.at d = fr'.at d) : wantedV ops fr o = wantedV ops fr' o := by
 unfold wantedV
 cases hg : o.guard with
 | none => rfl
 | some g =>
  obtain ⟨j, w⟩ := g
  dsimp only
  cases hj : ops[j]? with
  | none => rfl
  | some g =>
   dsimp only
   cases hd : g.dst with
   | none => rfl
   | some d =>
    dsimp only
    rw [h j w d hg (by simp [hj, hd])]
structure DStep (pr : Pr) (ih : Ih) (ops : Array Oper) (F : Nat → Fr) (S : Nat → St) (X : Nat → V) (R W : Nat → Nat) (j : Nat) (o : Oper) : Prop where
 put : (F j).put o.dst (X j) = .ok (F (j + 1))
 st : ∃ σ1, R j = σ1.r ∧ W j = σ1.w ∧ (∀ k, obj (S (j + 1)) k = obj σ1 k) ∧ (S (j + 1)).nx = σ1.nx ∧
  (∀ k, (S (j + 1)).r.testBit k = ((S j).r.testBit k || σ1.r.testBit k)) ∧ (∀ k, (S (j + 1)).w.testBit k = ((S j).w.testBit k || σ1.w.testBit k)) ∧
  ((wantedV ops.toList (F j) o = false ∧ X j = und ∧ σ1 = { S j with r := 0, w := 0 }) ∨ (wantedV ops.toList (F j) o = true ∧ oper pr ih (F j) { S j with r := 0, w := 0 } o = .ok (σ1, X j)))
 ap : ∀ i, i < j → ((masks ops).getD j 0).testBit i = false → ∀ k, (W i).testBit k = true → (R j).testBit k = false ∧ (W j).testBit k = false
 ap2 : ∀ i, i < j → ((masks ops).getD j 0).testBit i = false → ∀ k, (R i).testBit k = true → (W j).testBit k = false
theorem land0 {a b k : Nat} (h : Nat.beq (Nat.land a b) 0 = true) (ha : a.testBit k = true) : b.testBit k = false := by
 have h1 := Nat.eq_of_beq_eq_true h
 have h2 : (Nat.land a b).testBit k = false := by rw [h1]; simp
 change (a &&& b).testBit k = false at h2
 rw [Nat.testBit_and, ha] at h2
 simpa using h2
theorem lorF {a b k : Nat} (h : (Nat.lor a b).testBit k = false) : a.testBit k = false ∧ b.testBit k = false := by
 change (a ||| b).testBit k = false at h
 rw [Nat.testBit_or] at h
 simpa using h
theorem apart_ok {m r w : Nat} : ∀ (l : List (Nat × Nat)) (j : Nat), apart m l j r w = true → ∀ i r' w', l[i]? = some (r', w') → m.testBit (j + i) = false → (∀ k, w'.testBit k = true → r.testBit k = false ∧ w.testBit k = false) ∧ (∀ k, r'.testBit k = true → w.testBit k = false)
 | [], _, _, i, _, _, hi, _ => by simp at hi
 | (r0, w0) :: l, j, h, 0, r', w', hi, hm => by
  simp only [List.getElem?_cons_zero, Option.some.injEq, Prod.mk.injEq] at hi
  obtain ⟨rfl, rfl⟩ := hi
  rw [Nat.add_zero] at hm
  simp only [apart, hm, Bool.false_or, Bool.and_eq_true] at h
  refine ⟨fun k hk => lorF (land0 h.1.1 hk), fun k hk => ?_⟩
  cases hw : w.testBit k with
  | false => rfl
  | true => rw [land0 h.1.2 hw] at hk; cases hk
 | (r0, w0) :: l, j, h, i + 1, r', w', hi, hm => by
  simp only [List.getElem?_cons_succ] at hi
  simp only [apart, Bool.and_eq_true] at h
  exact apart_ok l (j + 1) h.2 i r' w' hi (by rw [← hm]; congr 1; omega)
theorem drawn_trace {pr : Pr} {ih : Ih} {ops : Array Oper} {σ' : St} {fr' : Fr} (os : List Oper) : ∀ (i : Nat) (ms : List Nat) (fps : List (Nat × Nat)) (fr : Fr) (σ : St), (∀ j, os[j]? = ops[i + j]?) → (∀ j, ms.getD j 0 = (masks ops).getD (i + j) 0) → fps.length = i →
  runDrawn pr ih ops.toList os ms fps fr σ = .ok (σ', fr') →
  ∃ F S X R W, F i = fr ∧ S i = σ ∧ F (i + os.length) = fr' ∧ S (i + os.length) = σ' ∧ (∀ j, j < i → fps[j]? = some (R j, W j)) ∧ ∀ j o, os[j]? = some o → DStep pr ih ops F S X R W (i + j) o := by
 induction os with
 | nil =>
  intro i ms fps fr σ _ _ hl h
  cases h
  exact ⟨fun _ => fr', fun _ => σ', fun _ => und, fun j => (fps.getD j (0, 0)).1, fun j => (fps.getD j (0, 0)).2, rfl, rfl, rfl, rfl, fun j hj => by
   simp only [List.getD_eq_getElem?_getD]; rw [List.getElem?_eq_getElem (by omega)]; rfl, fun j o ho => by simp at ho⟩
 | cons o os ihos =>
  intro i ms fps fr σ hos hms hl h
  have hos' : ∀ j, os[j]? = ops[i + 1 + j]? := fun j => by have := hos (j + 1); simpa [Nat.add_assoc, Nat.add_comm 1 j] using this
  have hms' : ∀ j, ms.tail.getD j 0 = (masks ops).getD (i + 1 + j) 0 := fun j => by
   have := hms (j + 1)
   rw [show i + 1 + j = i + (j + 1) by omega, ← this]
   cases ms <;> simp
  have hm0 : ms.headD 0 = (masks ops).getD i 0 := by
   have := hms 0
   rw [Nat.add_zero] at this
   rw [← this]; cases ms <;> simp
  have key : ∀ (v : V) (r w : Nat) (fr1 : Fr) (σ1 σ2 : St), fr.put o.dst v = .ok fr1 → r = σ1.r → w = σ1.w → (∀ k, obj σ2 k = obj σ1 k) → σ2.nx = σ1.nx → (∀ k, σ2.r.testBit k = (σ.r.testBit k || σ1.r.testBit k)) → (∀ k, σ2.w.testBit k = (σ.w.testBit k || σ1.w.testBit k)) →
    ((wantedV ops.toList fr o = false ∧ v = und ∧ σ1 = { σ with r := 0, w := 0 }) ∨ (wantedV ops.toList fr o = true ∧ oper pr ih fr { σ with r := 0, w := 0 } o = .ok (σ1, v))) →
    (∀ i' r' w', fps[i']? = some (r', w') → ((masks ops).getD i 0).testBit i' = false → (∀ k, w'.testBit k = true → r.testBit k = false ∧ w.testBit k = false) ∧ (∀ k, r'.testBit k = true → w.testBit k = false)) →
    runDrawn pr ih ops.toList os ms.tail (fps ++ [(r, w)]) fr1 σ2 = .ok (σ', fr') →
    ∃ F S X R W, F i = fr ∧ S i = σ ∧ F (i + (o :: os).length) = fr' ∧ S (i + (o :: os).length) = σ' ∧ (∀ j, j < i → fps[j]? = some (R j, W j)) ∧ ∀ j o', (o :: os)[j]? = some o' → DStep pr ih ops F S X R W (i + j) o' := by
   intro v r w fr1 σ1 σ2 hput hr hw hobj hnx hrb hwb hcase hap hrun
   obtain ⟨F, S, X, R, W, f1, f2, f3, f4, f5, f6⟩ := ihos (i + 1) ms.tail (fps ++ [(r, w)]) fr1 σ2 hos' hms' (by simp [hl]) hrun
   have hRi : R i = r ∧ W i = w := by
    have := f5 i (by omega)
    rw [List.getElem?_append_right (by omega), hl] at this
    simp at this
    exact ⟨this.1.symm, this.2.symm⟩
   have hfp : ∀ j, j < i → fps[j]? = some (R j, W j) := fun j hj => by
    have := f5 j (by omega)
    rwa [List.getElem?_append_left (by omega)] at this
   refine ⟨upd F i fr, upd S i σ, upd X i v, R, W, upd_same .., upd_same .., ?_, ?_, hfp, fun j o' ho' => ?_⟩
   ·rw [upd_ne _ _ (by simp)]; rw [← f3]; congr 1; simp; omega
   ·rw [upd_ne _ _ (by simp)]; rw [← f4]; congr 1; simp; omega
   cases j with
   | zero =>
    simp only [List.getElem?_cons_zero, Option.some.injEq] at ho'
    subst ho'
    rw [Nat.add_zero]
    refine ⟨?_, ⟨σ1, hRi.1.trans hr, hRi.2.trans hw, ?_, ?_, ?_, ?_, ?_⟩, fun i' hi' hm k hk => ?_, fun i' hi' hm k hk => ?_⟩
    ·rw [upd_same, upd_same, upd_ne _ _ (by omega), f1]; exact hput
    ·rw [upd_ne _ _ (by omega), f2]; exact hobj
    ·rw [upd_ne _ _ (by omega), f2]; exact hnx
    ·rw [upd_ne _ _ (by omega), f2, upd_same]; exact hrb
    ·rw [upd_ne _ _ (by omega), f2, upd_same]; exact hwb
    ·rw [upd_same, upd_same, upd_same]; exact hcase
    ·have := (hap i' _ _ (hfp i' hi') hm).1 k hk
     rw [hRi.1, hRi.2]; exact this
    have := (hap i' _ _ (hfp i' hi') hm).2 k hk
    rw [hRi.2]; exact this
   | succ j =>
    simp only [List.getElem?_cons_succ] at ho'
    have d := f6 j o' ho'
    rw [show i + (j + 1) = i + 1 + j by omega]
    obtain ⟨d1, ⟨τ, d2⟩, d3, d4⟩ := d
    refine ⟨?_, ⟨τ, ?_⟩, d3, d4⟩
    ·rw [upd_ne _ _ (by omega), upd_ne _ _ (by omega), upd_ne _ _ (by omega)]; exact d1
    rw [upd_ne _ _ (by omega), upd_ne _ _ (by omega), upd_ne _ _ (by omega), upd_ne _ _ (by omega)]; exact d2
  simp only [runDrawn] at h
  cases hw : wantedV ops.toList fr o with
  | false =>
   rw [hw] at h
   simp only [cond_false] at h
   have hh__ := bind_ok h; clear h; obtain ⟨fr1, h1, h⟩ := hh__
   exact key und 0 0 fr1 { σ with r := 0, w := 0 } σ h1 rfl rfl (fun _ => rfl) rfl (fun k => by simp) (fun k => by simp) (.inl ⟨hw, rfl, rfl⟩) (fun i' r' w' _ _ => ⟨fun k _ => by simp, fun k _ => by simp⟩) h
  | true =>
   rw [hw] at h
   simp only [cond_true] at h
   have hh__ := bind_ok h; clear h; obtain ⟨r, h1, h⟩ := hh__
   obtain ⟨σ1, v1⟩ := r
   have hh__ := cond_ok h; clear h; obtain ⟨hap, h⟩ := hh__
   have hh__ := bind_ok h; clear h; obtain ⟨fr1, h2, h⟩ := hh__
   refine key v1 σ1.r σ1.w fr1 σ1 { σ1 with r := Nat.lor σ.r σ1.r, w := Nat.lor σ.w σ1.w } h2 rfl rfl (fun _ => rfl) rfl (fun k => ?_) (fun k => ?_) (.inr ⟨hw, h1⟩) (fun i' r' w' hi' hm => ?_) h
   ·show (σ.r ||| σ1.r).testBit k = _; rw [Nat.testBit_or]
   ·show (σ.w ||| σ1.w).testBit k = _; rw [Nat.testBit_or]
   exact apart_ok fps 0 hap i' r' w' hi' (by rw [Nat.zero_add, hm0]; exact hm)
end Go.Eng
/- The order that is drawn comes to the same as the text's. -/
namespace Go.Eng
open Go Go.RowKit Go.Pm
theorem put_at {fr fr' : Fr} {d : Option Nat} {v : V} (h : fr.put d v = .ok fr') (t : Nat) : fr'.at t = if d = some t then v else fr.at t := by
 cases d with
 | none => cases h; simp
 | some k =>
  simp only [Fr.put] at h
  obtain ⟨-, h2⟩ := cond_ok h
  cases h2
  show T.get und (T.set und (k + 1) fr.t k v) t = _
  rw [T.get_set _ _ _ _ _ _ (Nat.lt_succ_self k)]
  by_cases e : t = k
  ·subst e; simp
  rw [if_neg e, if_neg (by simpa using Ne.symm e)]; rfl
theorem put_same {fr fr' : Fr} {d : Option Nat} {v : V} (h : fr.put d v = .ok fr') : fr'.n = fr.n ∧ fr'.ds = fr.ds := by
 cases d with
 | none => cases h; exact ⟨rfl, rfl⟩
 | some k =>
  simp only [Fr.put] at h
  obtain ⟨-, h2⟩ := cond_ok h
  cases h2; exact ⟨rfl, rfl⟩
theorem put_can {fr fr' FS : Fr} {d : Option Nat} {v : V} (h : fr.put d v = .ok fr') (hn : FS.n = fr.n) : ∃ FS', FS.put d v = .ok FS' := by
 cases d with
 | none => exact ⟨_, rfl⟩
 | some k =>
  simp only [Fr.put] at h ⊢
  obtain ⟨h1, -⟩ := cond_ok h
  rw [hn, h1]
  exact ⟨_, rfl⟩
theorem drawOk_slots {ops : Array Oper} (h : drawOk ops = true) : backward ops = true ∧ onceDst ops = true ∧
  ∀ (j i : Nat) (o p : Oper) (t : Nat), ops[j]? = some o → ops[i]? = some p → t ∈ readsT ops.toList o → p.dst = some t → (i < j ∧ Pm.ahead ops i j = true) ∨ (j < i ∧ Pm.ahead ops j i = true) := by
 simp only [drawOk, Bool.and_eq_true] at h
 refine ⟨h.1.1, h.1.2, fun j i o p t ho hp ht hd => ?_⟩
 have h1 := List.all_eq_true.1 h.2 (o, j) (by rw [List.mem_iff_getElem?]; exact ⟨j, by simp [ho]⟩)
 have h2 := List.all_eq_true.1 h1 t ht
 have h3 := List.all_eq_true.1 h2 (p, i) (by rw [List.mem_iff_getElem?]; exact ⟨i, by simp [hp]⟩)
 simp only [hd, beq_of, decide_true, cond_true] at h3
 cases hb : Nat.blt i j with
 | true =>
  rw [hb] at h3
  exact .inl ⟨by simpa [Nat.blt_eq] using hb, h3⟩
 | false =>
  rw [hb] at h3
  simp only [cond_false, Bool.and_eq_true] at h3
  exact .inr ⟨by simpa [Nat.blt_eq] using h3.1, h3.2⟩
theorem tr_sub {σ σ1 σ2 : St} (h : Tr { σ with r := 0, w := 0 } σ1) (ho : ∀ k, obj σ2 k = obj σ1 k) (hn : σ2.nx = σ1.nx) (hr : ∀ k, σ2.r.testBit k = (σ.r.testBit k || σ1.r.testBit k)) (hw : ∀ k, σ2.w.testBit k = (σ.w.testBit k || σ1.w.testBit k)) : Tr σ σ2 := by
 refine ⟨fun k e => by rw [hr, e]; rfl, fun k e => by rw [hw, e]; rfl, by rw [hn]; exact h.nx, fun k e => ?_, fun k hk e => by rw [ho]; exact h.dead k hk e, fun k h1 h2 => ?_, fun wf k hk => ?_⟩
 ·rw [hw] at e
  rw [ho]
  exact h.un k (by simp at e; exact e.2)
 ·rw [hw, h.born k h1 (by rw [← hn]; exact h2)]; simp
 rw [ho]
 exact h.wf wf k (by rw [← hn]; exact hk)
section
variable {P : Program} {α : At} {rnd : Option Nat} {f : FuncId} {pr : Pr} {ih : Ih} {ops : Array Oper} {F : Nat → Fr} {S : Nat → St} {X : Nat → V} {R W : Nat → Nat}
structure DRun (P : Program) (α : At) (rnd : Option Nat) (f : FuncId) (ops : Array Oper) (F : Nat → Fr) (S : Nat → St) (X : Nat → V) (R W : Nat → Nat) (j : Nat) (o : Oper) (σ1 : St) : Prop where
 hr : R j = σ1.r
 hw : W j = σ1.w
 ob : ∀ k, obj (S (j + 1)) k = obj σ1 k
 nx : (S (j + 1)).nx = σ1.nx
 tr1 : Tr { S j with r := 0, w := 0 } σ1
 tr : Tr (S j) (S (j + 1))
 rb : ∀ k, (R j).testBit k = true → (S (j + 1)).r.testBit k = true
 wb : ∀ k, (W j).testBit k = true → (S (j + 1)).w.testBit k = true
 run : ∀ FS FS' rest, (∀ t ∈ readsT ops.toList o, FS.at t = (F j).at t) → FS.put o.dst (X j) = .ok FS' → Runs P α rnd f FS FS' { S j with r := 0, w := 0 } σ1 (goReg P ops (j :: rest) rest)
theorem DStep.run (hα : AtOk pr α) (hp : PrOk pr P) (hI : IhOk pr P α ih) (hfol : P.follows .rangeFuncRecover = true) {j : Nat} {o : Oper} (d : DStep pr ih ops F S X R W j o) (ho : ops[j]? = some o) : ∃ σ1, DRun P α rnd f ops F S X R W j o σ1 := by
 obtain ⟨hput, ⟨σ1, h1, h2, h3, h4, h5, h6, h7⟩, -, -⟩ := d
 have hgd : ∀ (FS : Fr), (∀ t ∈ readsT ops.toList o, FS.at t = (F j).at t) → wantedV ops.toList FS o = wantedV ops.toList (F j) o := fun FS hFS =>
  wantedV_congr fun g w dd hg hdd => hFS dd (by unfold readsT; simp [hg]; exact .inl (by simpa using hdd))
 rcases h7 with ⟨hw, hx, rfl⟩ | ⟨hw, hop⟩
 ·have T := Tr.refl { S j with r := 0, w := 0 }
  refine ⟨_, h1, h2, h3, h4, T, tr_sub T h3 h4 h5 h6, fun k hk => by rw [h5, ← h1, hk]; simp, fun k hk => by rw [h6, ← h2, hk]; simp, fun FS FS' rest hFS hput' => ?_⟩
  rw [hx] at hput'
  exact skip_reg ho ((hgd FS hFS).trans hw) hput'
 have hdf : isDefer o = false := by
  unfold isDefer
  split
  ·rename_i cl e
   unfold oper at hop
   rw [e] at hop
   cases hop
  rfl
 have T : Tr { S j with r := 0, w := 0 } σ1 := (oper_runs (rnd := rnd) (f := f) hα hp hI hfol hdf hop).1
 refine ⟨_, h1, h2, h3, h4, T, tr_sub T h3 h4 h5 h6, fun k hk => by rw [h5, ← h1, hk]; simp, fun k hk => by rw [h6, ← h2, hk]; simp, fun FS FS' rest hFS hput' => ?_⟩
 refine op_reg ho ((hgd FS hFS).trans hw) (oper_runs hα hp hI hfol hdf ?_) hput'
 rw [← hop]
 refine oper_congr fun x hx t e => hFS t ?_
 unfold readsT
 rw [List.mem_append]
 refine .inr ?_
 rw [List.mem_filterMap]
 exact ⟨x, hx, by rw [e]⟩
variable (hR : ∀ j o, ops[j]? = some o → ∃ σ1, DRun P α rnd f ops F S X R W j o σ1) (hD : ∀ j o, ops[j]? = some o → DStep pr ih ops F S X R W j o)
include hR in
theorem d_tr : ∀ (m i : Nat), i + m ≤ ops.size → Tr (S i) (S (i + m))
 | 0, i, _ => Tr.refl _
 | m + 1, i, h => by
  obtain ⟨σ1, d⟩ := hR (i + m) ops[i + m] (by simp)
  exact (d_tr m i (by omega)).trans d.tr
include hR in
theorem d_le {i j : Nat} (h : i ≤ j) (hj : j ≤ ops.size) : Tr (S i) (S j) := by
 have := d_tr hR (j - i) i (by omega)
 rwa [show i + (j - i) = j by omega] at this
include hR in
theorem d_un {k : Nat} : ∀ (m i : Nat), i + m ≤ ops.size → (∀ j, i ≤ j → j < i + m → (W j).testBit k = false) → obj (S (i + m)) k = obj (S i) k
 | 0, i, _, _ => rfl
 | m + 1, i, h, hw => by
  obtain ⟨σ1, d⟩ := hR (i + m) ops[i + m] (by simp)
  rw [show i + (m + 1) = i + m + 1 by omega, d.ob, d.tr1.un k (by rw [← d.hw]; exact hw _ (by omega) (by omega))]
  exact d_un m i (by omega) fun j h1 h2 => hw j h1 (by omega)
include hD in
theorem d_fr (hn : onceDst ops = true) : ∀ (i : Nat), i ≤ ops.size → (F i).n = (F 0).n ∧ (F i).ds = (F 0).ds ∧ ∀ t, (∀ j o, j < i → ops[j]? = some o → o.dst = some t → (F i).at t = X j) ∧ ((∀ j o, j < i → ops[j]? = some o → o.dst ≠ some t) → (F i).at t = (F 0).at t)
 | 0, _ => ⟨rfl, rfl, fun t => ⟨fun j o h => by omega, fun _ => rfl⟩⟩
 | i + 1, h => by
  obtain ⟨h1, h2, h3⟩ := d_fr hn i (by omega)
  have hi : ops[i]? = some ops[i] := by simp
  have d := (hD i _ hi).put
  obtain ⟨p1, p2⟩ := put_same d
  refine ⟨p1.trans h1, p2.trans h2, fun t => ⟨fun j o hj ho hd => ?_, fun hno => ?_⟩⟩
  ·rw [put_at d]
   by_cases e : j = i
   ·subst e
    rw [hi] at ho; cases ho
    rw [if_pos hd]
   rw [if_neg, (h3 t).1 j o (by omega) ho hd]
   intro e'
   exact e (nodup_dst (of_decide_eq_true hn) j i o ops[i] t (by simpa using ho) (by simp) hd e')
  rw [put_at d, if_neg (hno i _ (by omega) hi), (h3 t).2 fun j o hj => hno j o (by omega)]
end
end Go.Eng
/- A region that draws, whole. -/
namespace Go.Eng
open Go Go.RowKit Go.Pm
section
variable {P : Program} {α : At} {rnd : Option Nat} {f : FuncId} {pr : Pr} {ih : Ih} {ops : Array Oper} {F : Nat → Fr} {S : Nat → St} {X : Nat → V} {R W : Nat → Nat} {μ0 : Mu} {C0 : Nat → O} {w0 : World} {b : Frame} {cs : List Frame}
def Hit (ops : Array Oper) (W : Nat → Nat) (listed : Array Bool) (i : Nat) : Prop := ∃ j, j < ops.size ∧ listed.getD j false = true ∧ (W j).testBit i = true
structure DInv (P : Program) (α : At) (rnd : Option Nat) (f : FuncId) (ops : Array Oper) (F : Nat → Fr) (S : Nat → St) (X : Nat → V) (W : Nat → Nat) (μ0 : Mu) (C0 : Nat → O) (w0 : World) (b : Frame) (cs : List Frame) (listed : Array Bool) (FS : Fr) (a : Act) (w : World) (μ : Mu) (C : Nat → O) : Prop where
 size : listed.size = ops.size
 closed : ∀ j o, ops[j]? = some o → listed.getD j false = true → ∀ k, binder o k = true → listed.getD k false = true
 sim : Sim P α μ C w
 cw : ∀ j, j < ops.size → listed.getD j false = true → ∀ k, (W j).testBit k = true → (∀ i, j < i → i < ops.size → listed.getD i false = true → (W i).testBit k = false) → C k = obj (S (j + 1)) k
 c0 : ∀ k, (∀ j, j < ops.size → listed.getD j false = true → (W j).testBit k = false) → C k = C0 k
 fresh : ∀ j, j < ops.size → listed.getD j false = false → ∀ k, (S j).nx ≤ k → k < (S (j + 1)).nx → μ k = none
 out : ∀ k, (k < (S 0).nx ∨ (S ops.size).nx ≤ k) → μ k = μ0 k
 le : μ0.Le μ
 born : ∀ k b x, (S 0).nx ≤ k → k < (S ops.size).nx → μ k = some (b, x) → w0.heap.size ≤ b ∨ ∃ i y, Hit ops W listed i ∧ i < (S 0).nx ∧ C0 i ≠ .dead ∧ μ0 i = some (b, y)
 frame : ∀ b, b < w0.heap.size → (∀ i y, Hit ops W listed i → C0 i ≠ .dead → μ0 i = some (b, y) → False) → w.heap[b]? = w0.heap[b]?
 hsz : w0.heap.size ≤ w.heap.size
 os : w.os = w0.os
 tape : w.tape = w0.tape
 output : w.output = w0.output
 fn : FS.n = (F 0).n
 fds : FS.ds = (F 0).ds
 fw : ∀ j o t, ops[j]? = some o → listed.getD j false = true → o.dst = some t → FS.at t = X j
 f0 : ∀ t, (∀ j o, ops[j]? = some o → o.dst = some t → listed.getD j false = false) → FS.at t = (F 0).at t
 cx : Cx α μ FS a rnd f b cs
theorem getD_set_ne' {listed : Array Bool} {i j : Nat} (h : j ≠ i) : (listed.setIfInBounds i true).getD j false = listed.getD j false := by
 simp only [Array.getD_eq_getD_getElem?]
 rw [Array.getElem?_setIfInBounds_ne (Ne.symm h)]
theorem greatest (p : Nat → Prop) : ∀ n, (∃ j, j < n ∧ p j) → ∃ j, j < n ∧ p j ∧ ∀ i, j < i → i < n → ¬ p i
 | 0, ⟨j, h, _⟩ => by omega
 | n + 1, ⟨j, h, hp⟩ => by
  by_cases hn : p n
  ·exact ⟨n, by omega, hn, fun i h1 h2 => by omega⟩
  obtain ⟨k, h1, h2, h3⟩ := greatest p n ⟨j, by
   by_cases e : j = n
   ·subst e; exact absurd hp hn
   omega, hp⟩
  exact ⟨k, by omega, h2, fun i h4 h5 => by
   by_cases e : i = n
   ·subst e; exact hn
   exact h3 i h4 (by omega)⟩
variable (hR : ∀ j o, ops[j]? = some o → ∃ σ1, DRun P α rnd f ops F S X R W j o σ1) (hD : ∀ j o, ops[j]? = some o → DStep pr ih ops F S X R W j o)
include hR hD in
theorem d_step (hdr : drawOk ops = true) {M : Nat → Prop} {N : Nat} (hp0 : Pre P α μ0 C0 (S 0) w0 M N) (wf0 : Wf (S 0)) (hs : Sub (S ops.size) M) (_ : (S ops.size).nx ≤ N)
  {listed : Array Bool} {FS : Fr} {a : Act} {w : World} {μ : Mu} {C : Nat → O} (inv : DInv P α rnd f ops F S X W μ0 C0 w0 b cs listed FS a w μ C) {i : Nat} (hi : i ∈ Region.ready .any ops listed) (rest : List Nat) (k : List Item) :
  ∃ FS' a' w' μ' C', DInv P α rnd f ops F S X W μ0 C0 w0 b cs (listed.setIfInBounds i true) FS' a' w' μ' C' ∧
   Steps P (lone (Frm b a (.inRegion ops (i :: rest) :: k)) cs w) (lone (Frm b a' (.inRegion ops rest :: k)) cs w') := by
 obtain ⟨hbk, hon, hsl⟩ := drawOk_slots hdr
 obtain ⟨o, ho, hin, hlt, hpre⟩ := Pm.mem_ready hi
 have hlf : listed.getD i false = false := by
  simp only [Array.getD_eq_getD_getElem?] at hlt ⊢
  rw [Array.getElem?_eq_getElem (by rw [inv.size]; exact hin)] at hlt ⊢
  simpa using hlt
 obtain ⟨σ1, d⟩ := hR i o ho
 have ds := hD i o ho
 -- who stands ahead is listed
 have hahead : ∀ j, Pm.ahead ops j i = true → listed.getD j false = true := fun j hj => by
  have := ahead_reach hj
  cases this with
  | one h hb => rw [ho] at h; cases h; exact hpre j hb
  | step h hb hr => rw [ho] at h; cases h; exact Reach.listed inv.closed hr (hpre _ hb)
 have hbehind : ∀ j, j < ops.size → listed.getD j false = true → Pm.ahead ops i j = false := fun j hj hl => by
  cases hh : Pm.ahead ops i j with
  | false => rfl
  | true => rw [Reach.listed inv.closed (ahead_reach hh) hl] at hlf; cases hlf
 have hopj : ∀ j, j < ops.size → ∃ oj, ops[j]? = some oj := fun j hj => ⟨ops[j], by simp [hj]⟩
 -- no other writer between
 have hcl1 : ∀ j, j < ops.size → listed.getD j false = true → i < j → ∀ q, (W j).testBit q = true → (R i).testBit q = false ∧ (W i).testBit q = false := fun j hj hl hij q hq => by
  obtain ⟨oj, hoj⟩ := hopj j hj
  have dj := hD j oj hoj
  have hm : ((masks ops).getD j 0).testBit i = false := hbehind j hj hl
  constructor
  ·cases hh : (R i).testBit q with
   | false => rfl
   | true => rw [dj.ap2 i hij hm q hh] at hq; cases hq
  cases hh : (W i).testBit q with
  | false => rfl
  | true => rw [(dj.ap i hij hm q hh).2] at hq; cases hq
 have hcl2 : ∀ m, m < i → listed.getD m false = false → ∀ q, (W m).testBit q = true → (R i).testBit q = false ∧ (W i).testBit q = false := fun m hm hl q hq => by
  have hmm : ((masks ops).getD i 0).testBit m = false := by
   cases hh : ((masks ops).getD i 0).testBit m with
   | false => rfl
   | true => rw [hahead m hh] at hl; cases hl
  exact ds.ap m hm hmm q hq
 -- what it reads is there
 have hreads : ∀ t ∈ readsT ops.toList o, FS.at t = (F i).at t := fun t ht => by
  obtain ⟨-, -, hF⟩ := d_fr hD hon i (Nat.le_of_lt hin)
  by_cases hex : ∃ (j : Nat) (oj : Oper), ops[j]? = some oj ∧ oj.dst = some t
  ·obtain ⟨j, oj, hoj, hdj⟩ := hex
   rcases hsl i j o oj t ho hoj ht hdj with ⟨h1, h2⟩ | ⟨h1, h2⟩
   ·rw [(hF t).1 j oj h1 hoj hdj, inv.fw j oj t hoj (hahead j h2) hdj]
   have hj : j < ops.size := (Array.getElem?_eq_some_iff.1 hoj).1
   have huniq : ∀ j' o', ops[j']? = some o' → o'.dst = some t → j' = j := fun j' o' h3 h4 => nodup_dst (of_decide_eq_true hon) j' j o' oj t (by simpa using h3) (by simpa using hoj) h4 hdj
   have hnl : listed.getD j false = false := by
    cases hh : listed.getD j false with
    | false => rfl
    | true => rw [hbehind j hj hh] at h2; cases h2
   rw [inv.f0 t (fun j' o' h3 h4 => by rw [huniq j' o' h3 h4]; exact hnl), (hF t).2 (fun j' o' h5 h3 h4 => by have := huniq j' o' h3 h4; omega)]
  rw [inv.f0 t (fun j' o' h3 h4 => absurd ⟨j', o', h3, h4⟩ hex), (hF t).2 (fun j' o' _ h3 h4 => hex ⟨j', o', h3, h4⟩)]
 obtain ⟨hFn, hFds, hFat⟩ := d_fr hD hon i (Nat.le_of_lt hin)
 obtain ⟨FS', hput⟩ := put_can (FS := FS) ds.put (inv.fn.trans hFn.symm)
 -- the memory that it touches is the text's
 have trA : Tr (S 0) (S i) := d_le hR (Nat.zero_le i) (Nat.le_of_lt hin)
 have trB : Tr (S (i + 1)) (S ops.size) := d_le hR hin (Nat.le_refl _)
 have hMi : ∀ q, ((R i).testBit q = true ∨ (W i).testBit q = true) → M q := fun q hq => hs q (hq.imp (fun h => trB.r q (d.rb q h)) (fun h => trB.w q (d.wb q h)))
 have hWM : ∀ j, j < ops.size → ∀ q, (W j).testBit q = true → M q := fun j hj q hq => by
  obtain ⟨oj, hoj⟩ := hopj j hj
  obtain ⟨σj, dj⟩ := hR j oj hoj
  exact hs q (.inr ((d_le hR hj (Nat.le_refl _)).w q (dj.wb q hq)))
 have hag : ∀ q, ((R i).testBit q = true ∨ (W i).testBit q = true) → C q = obj (S i) q := fun q hq => by
  by_cases hex : ∃ j, j < ops.size ∧ (listed.getD j false = true ∧ (W j).testBit q = true)
  ·obtain ⟨j, h1, ⟨h2, h3⟩, h4⟩ := greatest _ ops.size hex
   have hji : j < i := by
    rcases Nat.lt_trichotomy j i with h | h | h
    ·exact h
    ·subst h; rw [h2] at hlf; cases hlf
    have := hcl1 j h1 h2 h q h3
    rcases hq with hq | hq
    ·rw [this.1] at hq; cases hq
    rw [this.2] at hq; cases hq
   rw [inv.cw j h1 h2 q h3 (fun m h5 h6 h7 => by
    cases hh : (W m).testBit q with
    | false => rfl
    | true => exact absurd ⟨h7, hh⟩ (h4 m h5 h6))]
   have := d_un hR (k := q) (i - (j + 1)) (j + 1) (by omega) (fun m h5 h6 => by
    cases hh : (W m).testBit q with
    | false => rfl
    | true =>
     have hml : listed.getD m false = false := by
      cases hl : listed.getD m false with
      | false => rfl
      | true => exact absurd ⟨hl, hh⟩ (h4 m (by omega) (by omega))
     have := hcl2 m (by omega) hml q hh
     rcases hq with hq | hq
     ·rw [this.1] at hq; cases hq
     rw [this.2] at hq; cases hq)
   rw [show j + 1 + (i - (j + 1)) = i by omega] at this
   exact this.symm
  have hno : ∀ j, j < ops.size → listed.getD j false = true → (W j).testBit q = false := fun j h1 h2 => by
   cases hh : (W j).testBit q with
   | false => rfl
   | true => exact absurd ⟨j, h1, h2, hh⟩ hex
  rw [inv.c0 q hno, hp0.ag q (hMi q hq)]
  have := d_un hR (k := q) i 0 (by omega) (fun m _ h6 => by
   cases hh : (W m).testBit q with
   | false => rfl
   | true =>
    have hml : listed.getD m false = false := by
     cases hl : listed.getD m false with
     | false => rfl
     | true => rw [hno m (by omega) hl] at hh; cases hh
    have := hcl2 m (by omega) hml q hh
    rcases hq with hq | hq
    ·rw [this.1] at hq; cases hq
    rw [this.2] at hq; cases hq)
  rw [Nat.zero_add] at this
  exact this.symm
 have hpi : Pre P α μ C { S i with r := 0, w := 0 } w (fun q => (R i).testBit q = true ∨ (W i).testBit q = true) (S (i + 1)).nx :=
  ⟨inv.sim, hag, fun q h1 h2 => inv.fresh i hin hlf q h1 h2⟩
 have wfi : Wf { S i with r := 0, w := 0 } := trA.wf wf0
 obtain ⟨a', w', μ', C', p, cx', hsteps⟩ := (d.run FS FS' rest hreads hput).2 μ C w _ (S (i + 1)).nx a b k cs hpi wfi (fun q hq => by rw [d.hr, d.hw]; exact hq) (by rw [d.nx]; exact Nat.le_refl _) inv.cx
 have hle : μ.Le μ' := Post.le hpi (by rw [d.nx]; exact Nat.le_refl _) p
 have hset : (listed.setIfInBounds i true).getD i false = true := by
  simp only [Array.getD_eq_getD_getElem?]
  rw [Array.getElem?_setIfInBounds_self_of_lt (by rw [inv.size]; exact hin)]
  rfl
 have hnx : (S i).nx ≤ (S (i + 1)).nx := d.tr.nx
 have hnA : (S 0).nx ≤ (S i).nx := trA.nx
 have hnB : (S (i + 1)).nx ≤ (S ops.size).nx := trB.nx
 have hout : ∀ q, (q < (S i).nx ∨ (S (i + 1)).nx ≤ q) → μ' q = μ q := fun q hq => p.out q (by rw [← d.nx]; exact hq)
 have hHit : ∀ q, Hit ops W listed q → Hit ops W (listed.setIfInBounds i true) q := fun q ⟨j, h1, h2, h3⟩ => ⟨j, h1, getD_set_true h2, h3⟩
 have hHit2 : ∀ q, (W i).testBit q = true → Hit ops W (listed.setIfInBounds i true) q := fun q hq => ⟨i, hin, hset, hq⟩
 -- what was alive in the beginning
 have halive : ∀ q, q < (S 0).nx → C q ≠ .dead → C0 q ≠ .dead := fun q hq hc => by
  by_cases hex : ∃ j, j < ops.size ∧ (listed.getD j false = true ∧ (W j).testBit q = true)
  ·obtain ⟨j, h1, ⟨h2, h3⟩, h4⟩ := greatest _ ops.size hex
   intro h0
   rw [hp0.ag q (hWM j h1 q h3)] at h0
   have := (d_le hR (Nat.zero_le (j + 1)) h1).dead q hq h0
   rw [inv.cw j h1 h2 q h3 (fun m h5 h6 h7 => by
    cases hh : (W m).testBit q with
    | false => rfl
    | true => exact absurd ⟨h7, hh⟩ (h4 m h5 h6))] at hc
   exact hc this
  rw [← inv.c0 q (fun j h1 h2 => by
   cases hh : (W j).testBit q with
   | false => rfl
   | true => exact absurd ⟨j, h1, h2, hh⟩ hex)]
  exact hc
 refine ⟨FS', a', w', μ', C', ⟨by simpa using inv.size, fun j oj hoj hl q hq => ?_, p.pre.sim, fun j hj hl q hq hmx => ?_, fun q hno => ?_, fun j hj hl q h1 h2 => ?_, fun q hq => ?_, fun q x e => hle q x (inv.le q x e), fun q bb x h1 h2 hx => ?_, fun bb hb hno => ?_, Nat.le_trans inv.hsz p.size, p.os.trans inv.os, p.tape.trans inv.tape, p.output.trans inv.output, (put_same hput).1.trans inv.fn, (put_same hput).2.trans inv.fds, fun j oj t hoj hl hdj => ?_, fun t hno => ?_, cx'⟩, hsteps⟩
 ·rcases getD_false_set hl with e | e
  ·subst e; rw [ho] at hoj; cases hoj; exact getD_set_true (hpre q hq)
  exact getD_set_true (inv.closed j oj hoj e q hq)
 ·by_cases e : j = i
  ·subst e
   rw [p.pre.ag q (.inr hq), d.ob]
  rw [getD_set_ne' e] at hl
  have hWi : σ1.w.testBit q = false := by
   rw [← d.hw]
   rcases Nat.lt_or_ge j i with h | h
   ·exact hmx i h hin hset
   exact (hcl1 j hj hl (by omega) q hq).2
  rw [p.keep q hWi]
  exact inv.cw j hj hl q hq (fun m h1 h2 h3 => hmx m h1 h2 (getD_set_true h3))
 ·rw [p.keep q (by rw [← d.hw]; exact hno i hin hset)]
  exact inv.c0 q (fun j h1 h2 => hno j h1 (getD_set_true h2))
 ·have hne : j ≠ i := fun e => by subst e; rw [hset] at hl; cases hl
  rw [getD_set_ne' hne] at hl
  have : q < (S i).nx ∨ (S (i + 1)).nx ≤ q := by
   rcases Nat.lt_or_ge j i with h | h
   ·have := (d_le hR (show j + 1 ≤ i from h) (Nat.le_of_lt hin)).nx
    omega
   have := (d_le hR (show i + 1 ≤ j by omega) (Nat.le_of_lt hj)).nx
   omega
  rw [hout q this]
  exact inv.fresh j hj hl q h1 h2
 ·rw [hout q (by omega)]
  exact inv.out q hq
 ·by_cases hq : q < (S i).nx ∨ (S (i + 1)).nx ≤ q
  ·rw [hout q hq] at hx
   exact (inv.born q bb x h1 h2 hx).imp id fun ⟨j, y, h3, h4⟩ => ⟨j, y, hHit _ h3, h4⟩
  rcases p.born q bb x (by show (S i).nx ≤ q; omega) (by rw [← d.nx]; omega) hx with h3 | ⟨j, y, h3, h4, h5, h6⟩
  ·exact .inl (Nat.le_trans inv.hsz h3)
  have h4' : j < (S i).nx := h4
  by_cases hj : j < (S 0).nx
  ·exact .inr ⟨j, y, hHit2 j (by rw [d.hw]; exact h3), hj, halive j hj h5, by rw [← inv.out j (.inl hj)]; exact h6⟩
  exact (inv.born j bb y (by omega) (by omega) h6).imp id fun ⟨j, y, h3, h4⟩ => ⟨j, y, hHit _ h3, h4⟩
 ·rw [p.frame bb (Nat.lt_of_lt_of_le hb inv.hsz) (fun j y h1 h2 h3 => ?_)]
  ·exact inv.frame bb hb (fun j y h1 h2 h3 => hno j y (hHit _ h1) h2 h3)
  by_cases hj : j < (S 0).nx
  ·exact hno j y (hHit2 j (by rw [d.hw]; exact h1)) (halive j hj h2) (by rw [← inv.out j (.inl hj)]; exact h3)
  by_cases hj2 : j < (S i).nx
  ·rcases inv.born j bb y (by omega) (by omega) h3 with h4 | ⟨m, z, h4, h5, h6, h7⟩
   ·omega
   exact hno m z (hHit _ h4) h6 h7
  rw [hag j (.inr (by rw [d.hw]; exact h1))] at h2
  exact h2 (wfi j (by show (S i).nx ≤ j; omega))
 ·rw [put_at hput]
  rcases getD_false_set hl with e | e
  ·subst e; rw [ho] at hoj; cases hoj; rw [if_pos hdj]
  rw [if_neg, inv.fw j oj t hoj e hdj]
  intro e2
  have := nodup_dst (of_decide_eq_true hon) i j o oj t (by simpa using ho) (by simpa using hoj) e2 hdj
  subst this
  rw [e] at hlf; cases hlf
 have hne : o.dst ≠ some t := fun e => by
  have := hno i o ho e
  rw [hset] at this; cases this
 rw [put_at hput, if_neg hne]
 exact inv.f0 t (fun j oj hoj hdj => by
  cases hh : listed.getD j false with
  | false => rfl
  | true => have := hno j oj hoj hdj; rw [getD_set_true hh] at this; cases this)
include hR hD in
theorem d_sched (hdr : drawOk ops = true) {M : Nat → Prop} {N : Nat} (hp0 : Pre P α μ0 C0 (S 0) w0 M N) (wf0 : Wf (S 0)) (hs : Sub (S ops.size) M) (hN : (S ops.size).nx ≤ N) (k : List Item) :
  ∀ (fuel t : Nat) (listed : Array Bool) (FS : Fr) (a : Act) (w : World) (μ : Mu) (C : Nat → O), DInv P α rnd f ops F S X W μ0 C0 w0 b cs listed FS a w μ C → toCome ops listed ≤ fuel →
  ∃ listed' FS' a' w' μ' C', DInv P α rnd f ops F S X W μ0 C0 w0 b cs listed' FS' a' w' μ' C' ∧ (∀ i, i < ops.size → listed'.getD i false = true) ∧
   Steps P (lone (Frm b a (.inRegion ops (Region.linearise.go .any ops fuel t listed []) :: k)) cs w) (lone (Frm b a' (.inRegion ops [] :: k)) cs w') := by
 obtain ⟨hbk, -, -⟩ := drawOk_slots hdr
 intro fuel
 induction fuel with
 | zero =>
  intro t listed FS a w μ C inv hc
  have hr : Region.ready .any ops listed = [] := by
   rw [List.eq_nil_iff_forall_not_mem]
   intro i hi
   obtain ⟨o, _, hi2, hl, _⟩ := Pm.mem_ready hi
   have := toCome_set hi2 hl
   omega
  exact ⟨listed, FS, a, w, μ, C, inv, all_listed hbk inv.size hr, by simp only [Region.linearise.go, List.reverse_nil]; exact Steps.refl P _⟩
 | succ fuel ihf =>
  intro t listed FS a w μ C inv hc
  simp only [Region.linearise.go]
  change ∃ listed' FS' a' w' μ' C', _ ∧ _ ∧ Steps P (lone (Frm b a (.inRegion ops (match (Region.ready .any ops listed)[t % (Region.ready .any ops listed).length]? with
   | some i => Region.linearise.go .any ops fuel (t / (Region.ready .any ops listed).length) (listed.setIfInBounds i true) [i]
   | none => [].reverse) :: k)) cs w) _
  cases hi : (Region.ready .any ops listed)[t % (Region.ready .any ops listed).length]? with
  | none =>
   have hnil : Region.ready .any ops listed = [] := by
    cases hr : Region.ready .any ops listed with
    | nil => rfl
    | cons x xs =>
     rw [hr] at hi
     have hlt : t % (x :: xs).length < (x :: xs).length := Nat.mod_lt _ (by simp)
     simp at hi
     simp at hlt
     omega
   exact ⟨listed, FS, a, w, μ, C, inv, all_listed hbk inv.size hnil, Steps.refl P _⟩
  | some i =>
   have hmem := List.mem_of_getElem? hi
   simp only []
   rw [linearise_go_acc, List.reverse_singleton, List.singleton_append]
   obtain ⟨FS1, a1, w1, μ1, C1, inv1, s1⟩ := d_step hR hD hdr hp0 wf0 hs hN inv hmem (Region.linearise.go .any ops fuel (t / (Region.ready .any ops listed).length) (listed.setIfInBounds i true) []) k
   obtain ⟨o, _, hi2, hl, _⟩ := Pm.mem_ready hmem
   have hct : toCome ops (listed.setIfInBounds i true) ≤ fuel := by have := toCome_set hi2 hl; omega
   obtain ⟨l2, FS2, a2, w2, μ2, C2, inv2, all2, s2⟩ := ihf _ _ _ _ _ _ _ inv1 hct
   exact ⟨l2, FS2, a2, w2, μ2, C2, inv2, all2, Steps.trans s1 s2⟩
theorem Pre.drew {M : Nat → Prop} {N : Nat} {σ : St} (h : Pre P α μ0 C0 σ w0 M N) (n : Nat) : Pre P α μ0 C0 σ { w0 with drawn := n } M N := ⟨⟨h.sim.live, h.sim.inj, h.sim.win, h.sim.full, h.sim.sep⟩, h.ag, h.fresh⟩
include hR hD in
theorem d_all (hdr : drawOk ops = true) {M : Nat → Prop} {N : Nat} (hp0 : Pre P α μ0 C0 (S 0) w0 M N) (wf0 : Wf (S 0)) (hs : Sub (S ops.size) M) (hN : (S ops.size).nx ≤ N) (k : List Item) {a : Act} (hcx : Cx α μ0 (F 0) a rnd f b cs) (t : Nat) :
  ∃ a' w' μ' C', Post P α μ0 C0 (S 0) w0 μ' C' (S ops.size) w' M N ∧ Cx α μ' (F ops.size) a' rnd f b cs ∧
   Steps P (lone (Frm b a (.inRegion ops (Region.linearise .any ops t) :: k)) cs w0) (lone (Frm b a' (.inRegion ops [] :: k)) cs w') := by
 have hnone : ∀ j, (Array.replicate ops.size false).getD j false = false := fun j => by
  simp only [Array.getD_eq_getD_getElem?, Array.getElem?_replicate]
  split <;> rfl
 have inv0 : DInv P α rnd f ops F S X W μ0 C0 w0 b cs (Array.replicate ops.size false) (F 0) a w0 μ0 C0 :=
  ⟨by simp, fun j o _ h => (by rw [hnone] at h; cases h), hp0.sim, fun j _ h => (by rw [hnone] at h; cases h), fun _ _ => rfl, fun j hj _ q h1 h2 => hp0.fresh q (Nat.le_trans (d_le hR (Nat.zero_le j) (Nat.le_of_lt hj)).nx h1) (Nat.lt_of_lt_of_le h2 (Nat.le_trans (d_le hR hj (Nat.le_refl _)).nx hN)), fun _ _ => rfl, Mu.Le.refl _,
   fun q bb x h1 h2 hx => (by rw [hp0.fresh q h1 (Nat.lt_of_lt_of_le h2 hN)] at hx; cases hx), fun _ _ _ => rfl, Nat.le_refl _, rfl, rfl, rfl, rfl, rfl, fun j o t _ h => (by rw [hnone] at h; cases h), fun _ _ => rfl, hcx⟩
 obtain ⟨listed, FS, a', w', μ', C', inv, all, st⟩ := d_sched hR hD hdr hp0 wf0 hs hN k ops.size t _ _ _ _ _ _ inv0 (by unfold toCome; exact Nat.le_trans (List.countP_le_length) (by simp))
 obtain ⟨hbk, hon, -⟩ := drawOk_slots hdr
 obtain ⟨hFn, hFds, hFat⟩ := d_fr hD hon ops.size (Nat.le_refl _)
 have hW : ∀ j, j < ops.size → ∀ q, (W j).testBit q = true → (S ops.size).w.testBit q = true := fun j hj q hq => by
  obtain ⟨σj, dj⟩ := hR j ops[j] (by simp)
  exact (d_le hR hj (Nat.le_refl _)).w q (dj.wb q hq)
 have hHit : ∀ q, Hit ops W listed q → (S ops.size).w.testBit q = true := fun q ⟨j, h1, _, h3⟩ => hW j h1 q h3
 refine ⟨a', w', μ', C', ⟨⟨inv.sim, fun q hq => ?_, fun q h1 h2 => ?_⟩, inv.out, fun q hq => ?_, fun q bb x h1 h2 hx => ?_, fun bb hb hno => ?_, inv.hsz, inv.os, inv.tape, inv.output⟩, ⟨⟨?_, fun t => ?_⟩, ?_, inv.cx.fn, inv.cx.rnd, inv.cx.calm⟩, ?_⟩
 ·by_cases hex : ∃ j, j < ops.size ∧ (W j).testBit q = true
  ·obtain ⟨j, h1, h3, h4⟩ := greatest _ ops.size hex
   have hno : ∀ m, j < m → m < ops.size → (W m).testBit q = false := fun m h5 h6 => by
    cases hh : (W m).testBit q with
    | false => rfl
    | true => exact absurd hh (h4 m h5 h6)
   rw [inv.cw j h1 (all j h1) q h3 (fun m h5 h6 _ => hno m h5 h6)]
   have := d_un hR (k := q) (ops.size - (j + 1)) (j + 1) (by omega) (fun m h5 h6 => hno m (by omega) (by omega))
   rw [show j + 1 + (ops.size - (j + 1)) = ops.size by omega] at this
   exact this.symm
  have hno : ∀ j, j < ops.size → (W j).testBit q = false := fun j h1 => by
   cases hh : (W j).testBit q with
   | false => rfl
   | true => exact absurd ⟨j, h1, hh⟩ hex
  rw [inv.c0 q (fun j h1 _ => hno j h1), hp0.ag q hq]
  have := d_un hR (k := q) ops.size 0 (by omega) (fun m _ h6 => hno m (by omega))
  rw [Nat.zero_add] at this
  exact this.symm
 ·rw [inv.out q (.inr h1)]
  exact hp0.fresh q (Nat.le_trans (d_le hR (Nat.zero_le _) (Nat.le_refl _)).nx h1) h2
 ·refine inv.c0 q (fun j h1 _ => ?_)
  cases hh : (W j).testBit q with
  | false => rfl
  | true => rw [hW j h1 q hh] at hq; cases hq
 ·exact (inv.born q bb x h1 h2 hx).imp id fun ⟨j, y, h3, h4⟩ => ⟨j, y, hHit _ h3, h4⟩
 ·exact inv.frame bb hb (fun j y h1 h2 h3 => hno j y (hHit _ h1) h2 h3)
 ·rw [hFn, ← inv.fn]; exact inv.cx.tmps.size
 ·have : T.get und (F ops.size).t t = T.get und FS.t t := by
   show (F ops.size).at t = FS.at t
   by_cases hex : ∃ (j : Nat) (oj : Oper), ops[j]? = some oj ∧ oj.dst = some t
   ·obtain ⟨j, oj, hoj, hdj⟩ := hex
    have hj : j < ops.size := (Array.getElem?_eq_some_iff.1 hoj).1
    rw [(hFat t).1 j oj hj hoj hdj, inv.fw j oj t hoj (all j hj) hdj]
   rw [inv.f0 t (fun j' o' h3 h4 => absurd ⟨j', o', h3, h4⟩ hex), (hFat t).2 (fun j' o' _ h3 h4 => hex ⟨j', o', h3, h4⟩)]
  rw [this]
  exact inv.cx.tmps.at_ t
 ·rw [hFds, ← inv.fds]; exact inv.cx.ds
 exact st
end
section
variable {P : Program} {α : At} {rnd : Option Nat} {f : FuncId} {fr fr' : Fr} {σ σ' : St} {pr : Pr} {ih : Ih}
theorem run_drawn (hα : AtOk pr α) (hp : PrOk pr P) (hI : IhOk pr P α ih) (hfol : P.follows .rangeFuncRecover = true) (hmix : P.follows .mixedOrders = true) {ops : Array Oper} {rid : Nat} (hdr : drawOk ops = true) (h : runDrawn pr ih ops.toList ops.toList (masks ops) [] fr σ = .ok (σ', fr')) : Runs P α rnd f fr fr' σ σ' (goCode P (.region rid ops true) .normal) := by
 obtain ⟨F, S, X, R, W, f1, f2, f3, f4, -, f6⟩ := drawn_trace ops.toList 0 (masks ops) [] fr σ (fun j => by simp) (fun j => by simp) rfl h
 simp only [Nat.zero_add, Array.length_toList] at f3 f4 f6
 have hD : ∀ j o, ops[j]? = some o → DStep pr ih ops F S X R W j o := fun j o ho => f6 j o (by simpa using ho)
 have hR : ∀ j o, ops[j]? = some o → ∃ σ1, DRun P α rnd f ops F S X R W j o σ1 := fun j o ho => (hD j o ho).run hα hp hI hfol ho
 subst f1 f2 f3 f4
 refine ⟨d_le hR (Nat.zero_le _) (Nat.le_refl _), fun μ C w M N a b k cs hpre wf hs hN hc => ?_⟩
 obtain ⟨a', w', μ', C', p, c, s⟩ := d_all hR hD hdr (hpre.drew (w.drawn + 1)) wf hs hN k hc (w.tape w.drawn (.order b.fn rid))
 refine ⟨a', w', μ', C', ⟨p.pre, p.out, p.keep, p.born, p.frame, p.size, p.os, p.tape, p.output⟩, c, ?_⟩
 refine Steps.trans (.one m_draw) ?_
 simp only [Region.schedule, hmix, Bool.true_or, if_true]
 exact Steps.trans s (.one m_regionEnd)
end
end Go.Eng
/- Loops over functions, calls, and the whole evaluator. -/
namespace Go.Eng
open Go Go.RowKit Go.Pm
section
variable {P : Program} {α : At} {rnd : Option Nat} {f : FuncId} {fr fr1 fr' : Fr} {σ σ1 σ' : St} {pr : Pr} {ih : Ih} {v : V}
theorem loadT_run (hp : PrOk pr P) {t : TypeId} {k0 o0 : Nat} (h : loadT pr σ t k0 o0 = .ok (σ', v)) : σ' = rd σ k0 ∧ ∀ μ C w M N, Pre P α μ C σ w M N → Sub σ' M → ∃ b cap x, μ k0 = some (b, cap) ∧ (loadVar t ⟨b, o0, none⟩).run P w = .ok x w ∧ conc α μ v = some x := by
 unfold loadT at h
 have hh__ := bind_ok h; clear h; obtain ⟨i, hi, h⟩ := hh__
 have hh__ := bind_ok h; clear h; obtain ⟨r, hr, h⟩ := hh__
 obtain ⟨σ1, vs⟩ := r
 have hh__ := bind_ok h; clear h; obtain ⟨v1, hv, h⟩ := hh__
 cases h
 have hT := ti_ok hp hi
 have hrd : σ' = rd σ k0 := by
  unfold loadN at hr
  split at hr
  ·split at hr
   ·cases hr; rfl
   cases hr
  cases hr
 subst hrd
 refine ⟨rfl, fun μ c w M N hpre hs => ?_⟩
 obtain ⟨-, b, cap, xs, h1, h2, h3, h4, h5, h6⟩ := loadN_ok hpre hs hr
 have hag := hT.isAgg w
 rcases wholeOrOne_ok hv with ⟨ha, rfl⟩ | ⟨ha, hone⟩
 ·rw [ha] at hag
  refine ⟨b, cap, .agg xs.toArray, h1, ?_, by simp only [conc, h2, Option.map_some]⟩
  simp only [Sem.run_bind, Sem.run_pure, Result.andThen_ok, loadVar, hag, if_true, hT.size, h6]
 rw [ha] at hag
 rw [hone] at h2
 obtain ⟨X, ys, a1, a2, rfl⟩ := concL_cons h2
 refine ⟨b, cap, X, h1, ?_, a1⟩
 have hc := h5 0 X (by simp)
 simp only [Nat.add_zero] at hc
 simp [loadVar, hag, load, Sem.run, hc]
-- the beginning of a loop over a function
theorem m_rangeFunc {b : Frame} {a : Act} {k : List Item} {cs : List Frame} {w w1 : World} {g : Operand} {ps : Array Nat} {as' bd : Code} {l : Nat} {mark : List Deferred} {gg : FuncId} {xs ys : Array Value}
  (henter : (Instr.enterLoop b.fn a.tmps ps as' bd b.roundOf).run P w = .ok (l, mark) w1) (hg : a.eval g = .func (.func gg) xs ys)
  (hcall : (callFunc gg (xs ++ #[.func (.yield l) #[] #[]] ++ ys)).run P w1 = .ok (.enter gg (xs ++ #[.func (.yield l) #[] #[]] ++ ys)) w1) :
  Go.step P (lone (Frm b a (.code (.rangeFunc g ps as' bd) :: k)) cs w) = .next (lone (Frame.enter P gg (xs ++ #[.func (.yield l) #[] #[]] ++ ys) .normal) (Frm b { a with defers := mark ++ a.defers } (.inRangeFunc l :: k) :: cs) w1) := by
 refine step_lone_go ?_
 have he : (Frm b { a with defers := mark ++ a.defers } (.inRangeFunc l :: k)).eval = a.eval := by
  rw [Frm.eval']; funext x; cases x <;> rfl
 have hs : (do let d ← resolve (Frm b { a with defers := mark ++ a.defers } (.inRangeFunc l :: k)).eval { callee := .value g, args := #[.const (.func (.yield l) #[] #[])], argTypes := #[] } 0; invoke d.target d.args : Sem Next).run P w1 = .ok (.enter gg (xs ++ #[.func (.yield l) #[] #[]] ++ ys)) w1 := by
  rw [he]
  simp only [resolve, Deferred.ofValue, hg, Sem.run_bind, Sem.run_pure, Result.andThen_ok, invoke]
  have : (#[Operand.const (.func (.yield l) #[] #[])] : Array Operand).map a.eval = #[.func (.yield l) #[] #[]] := by simp [Act.eval]
  rw [this, hcall]
 have h1 : stepG P true { frame := Frm b a (.code (.rangeFunc g ps as' bd) :: k), callers := cs, status := .running, dying := none } w =
   GStep.after (seen P b.fn ((Instr.enterLoop b.fn a.tmps ps as' bd b.roundOf).runT P w #[]).2) (stepG.apply P true (Frm b { a with defers := mark ++ a.defers } (.inRangeFunc l :: k)) cs none (do let d ← resolve (Frm b { a with defers := mark ++ a.defers } (.inRangeFunc l :: k)).eval { callee := .value g, args := #[.const (.func (.yield l) #[] #[])], argTypes := #[] } 0; invoke d.target d.args : Sem Next) w1) := by
  have hh : ((Instr.enterLoop b.fn a.tmps ps as' bd b.roundOf).runT P w #[]).1 = .ok (l, mark) w1 := by rw [Sem.runT_eq]; exact henter
  simp only [stepG, Frm, stepG.exec]
  rw [hh]
 rw [h1]
 simp only [GStep.bare_after, stepG.apply, if_true, Sem.runT_eq, hs]
 simp [Frm]
theorem enter_none {fn : FuncId} {tm : Array Value} {ps : Array Nat} {as' bd : Code} {w : World} : (Instr.enterLoop fn tm ps as' bd none).run P w = .ok (w.heap.size + 1, [{ target := .collected w.heap.size, args := #[] }]) ((w.alloc (.deferred (some []))).alloc (.loop { state := .ready, pending := none, fn, tmps := tm, params := ps, assign := as', body := bd, defers := w.heap.size })) := by
 simp [Instr.enterLoop, newObj, Sem.run]
theorem enter_some {fn : FuncId} {tm : Array Value} {ps : Array Nat} {as' bd : Code} {w : World} {l : Nat} {L : Loop} (h : w.heap[l]? = some (.loop L)) : (Instr.enterLoop fn tm ps as' bd (some l)).run P w = .ok (w.heap.size, []) (w.alloc (.loop { state := .ready, pending := none, fn, tmps := tm, params := ps, assign := as', body := bd, defers := L.defers })) := by
 simp [Instr.enterLoop, Instr.getLoop, getObj, newObj, Sem.run, h]
theorem m_endRange {b : Frame} {a : Act} {k : List Item} {cs : List Frame} {w : World} {l : Nat} {L : Loop} (hl : w.heap[l]? = some (.loop L)) (hs : L.state ≠ .busy) :
  Go.step P (lone (Frm b a (.endRangeFunc l :: k)) cs w) = .next (lone (Frm b a ((L.pending.map Item.code).toList ++ k)) cs { w with heap := w.heap.setIfInBounds l (.loop { L with state := .exhausted }) }) := by
 refine step_lone_go ?_
 have hrun : (Instr.endLoop l).run P w = .ok L.pending { w with heap := w.heap.setIfInBounds l (.loop { L with state := .exhausted }) } := by
  simp [Instr.endLoop, Instr.getLoop, getObj, setObj, Sem.run, hl, hs]
 simp [stepG, stepG.exec, Frm, Sem.runT_eq, hrun]
theorem around_ok {d : Nat} {frd : Fr} (h : around rnd fr σ = .ok (σ1, d, frd)) : Tr σ σ1 ∧ frd.n = fr.n ∧ frd.t = fr.t ∧
  ∀ μ C w M N a (b : Frame) cs, Pre P α μ C σ w M N → Wf σ → Sub σ1 M → σ1.nx ≤ N → Cx α μ fr a rnd f b cs →
   ∃ w1 μ1 C1 mark dd y, Post P α μ C σ w μ1 C1 σ1 w1 M N ∧ μ1 d = some (dd, y) ∧ DsR α μ1 frd.ds (mark ++ a.defers) ∧
    ∀ tm ps as' bd, (Instr.enterLoop b.fn tm ps as' bd b.roundOf).run P w = .ok (w1.heap.size, mark) (w1.alloc (.loop { state := .ready, pending := none, fn := b.fn, tmps := tm, params := ps, assign := as', body := bd, defers := dd })) := by
 unfold around at h
 cases rnd with
 | none =>
  dsimp only at h
  cases h
  refine ⟨tr_new σ .defd, rfl, rfl, fun μ C w M N a b cs hp wf hs hN hc => ?_⟩
  have hro : b.roundOf = none := by
   have := hc.rnd
   cases hb : b.roundOf with
   | none => rfl
   | some l => rw [hb] at this; exact this.elim
  have hM : M σ.nx := hs σ.nx (.inr (by show (Nat.lor σ.w (2 ^ σ.nx)).testBit σ.nx = true; rw [bit_lor]; simp))
  obtain ⟨h1, h2⟩ := Post.new (x := .defd) hp wf hM hN (cap := 0) (made_alloc w (.deferred (some []))) rfl
  refine ⟨_, _, _, [{ target := .collected w.heap.size, args := #[] }], w.heap.size, 0, h1, upd_same .., ⟨⟨w.heap.size, 0, upd_same .., rfl⟩, hc.ds.mono h2⟩, fun tm ps as' bd => ?_⟩
  rw [hro, enter_none]
  have : (w.alloc (.deferred (some []))).heap.size = w.heap.size + 1 := by simp
  rw [this]
 | some l =>
  dsimp only at h
  split at h
  ·rename_i st pd g n t ps0 as0 bd0 dr hobj
   cases h
   refine ⟨tr_rd σ l, rfl, rfl, fun μ C w M N a b cs hp wf hs hN hc => ?_⟩
   have hM : M l := hs l (.inl (by show (Nat.lor σ.r (2 ^ l)).testBit l = true; rw [bit_lor]; simp))
   obtain ⟨bl, x, L, h1, h2, -, -, -, -, -, -, -, ⟨dd, y, h3, h4⟩, -⟩ := loop_step hobj hp hM
   have hro : b.roundOf = some bl := by
    have := hc.rnd
    cases hb : b.roundOf with
    | none => rw [hb] at this; exact this.elim
    | some l' => rw [hb] at this; obtain ⟨x', hx'⟩ := this; rw [h1] at hx'; cases hx'; rfl
   refine ⟨w, μ, C, [], dd, y, Post.rd hp l, h3, hc.ds, fun tm ps as' bd => ?_⟩
   rw [hro, enter_some h2, h4]
  cases h
theorem run_rangeFunc (hI : IhOk pr P α ih) (hp : PrOk pr P) {g : Operand} {ps : Array Nat} {as' bd : Code} {e : Exit}
  (h : ((opnd fr g).bind fun gv => (around rnd fr σ).bind fun (σ, d, fr) =>
   let (σ, l) := new σ (.loop 0 none f fr.n fr.t ps.toList as' bd d)
   (callFn pr ih σ gv [.f (.yield l) [] []]).bind fun (σ, _) => match obj σ l with
   | .loop 0 none _ _ _ _ _ _ _ => Res.ok (wr σ l .dead, fr, Exit.normal)
   | .loop 2 (some j) _ _ _ _ _ _ _ => (exitOf j).bind fun e => .ok (wr σ l .dead, fr, e)
   | _ => .no "rangeFunc") = .ok (σ', fr', e)) : Runs P α rnd f fr fr' σ σ' (goCode P (.rangeFunc g ps as' bd) e) := by
 have hh__ := bind_ok h; clear h; obtain ⟨gv, hg, h⟩ := hh__
 have hh__ := bind_ok h; clear h; obtain ⟨r, hA, h⟩ := hh__
 obtain ⟨σ1, d, frd⟩ := r
 dsimp only at h
 have hh__ := bind_ok h; clear h; obtain ⟨r, hC, h⟩ := hh__
 obtain ⟨σ3, v3⟩ := r
 dsimp only at h
 obtain ⟨TA, hn, ht, hA⟩ := around_ok (P := P) (α := α) (f := f) hA
 unfold callFn at hC
 split at hC
 ·rename_i gg fst cap
  obtain ⟨hcall, fn, hf1, hf2, hf3⟩ := callF_ok hI hp hC
  have TN := tr_new σ1 (.loop 0 none f frd.n frd.t ps.toList as' bd d)
  have hl : (new σ1 (.loop 0 none f frd.n frd.t ps.toList as' bd d)).2 = σ1.nx := rfl
  rw [hl] at h hcall
  -- how it ends
  obtain ⟨st, pd, g0, n0, t0, ps0, as0, bd0, dr0, hobj, hσ', hfr', hend⟩ : ∃ st pd g0 n0 t0 ps0 as0 bd0 dr0, obj σ3 σ1.nx = .loop st pd g0 n0 t0 ps0 as0 bd0 dr0 ∧ σ' = wr σ3 σ1.nx .dead ∧ fr' = frd ∧
    ((st = 0 ∧ pd = none ∧ e = .normal) ∨ (st = 2 ∧ ∃ id, pd = some (.exit id) ∧ e = .exit id) ∨ (st = 2 ∧ pd = some .ret ∧ e = .ret)) := by
   split at h
   ·rename_i hob; cases h; exact ⟨_, _, _, _, _, _, _, _, _, hob, rfl, rfl, .inl ⟨rfl, rfl, rfl⟩⟩
   ·rename_i j _ _ _ _ _ _ _ hob
    have hh__ := bind_ok h; clear h; obtain ⟨e', he', h⟩ := hh__
    cases h
    unfold exitOf at he'
    split at he'
    ·cases he'; exact ⟨_, _, _, _, _, _, _, _, _, hob, rfl, rfl, .inr (.inl ⟨rfl, _, rfl, rfl⟩)⟩
    ·cases he'; exact ⟨_, _, _, _, _, _, _, _, _, hob, rfl, rfl, .inr (.inr ⟨rfl, rfl, rfl⟩)⟩
    cases he'
   cases h
  subst hσ' hfr'
  have TE : Tr σ3 (wr σ3 σ1.nx .dead) := tr_wr _ (by rw [hobj]; simp)
  have TCE := hcall.1.trans TE
  have TNE := TN.trans TCE
  refine ⟨TA.trans TNE, fun μ C w M N a b k cs hpre wf hs hN hc => ?_⟩
  obtain ⟨w1, μ1, C1, mark, dd, y, P1, h1, h2, h3⟩ := hA μ C w M N a b cs hpre wf (hs.of_tr TNE) (Nat.le_trans TNE.nx hN) hc
  have wf1 := TA.wf wf
  have le1 := Post.le hpre (Nat.le_trans TNE.nx hN) P1
  have hs2 : Sub (new σ1 (.loop 0 none f fr'.n fr'.t ps.toList as' bd d)).1 M := hs.of_tr TCE
  have hM : M σ1.nx := hs2 σ1.nx (.inr (by show (Nat.lor σ1.w (2 ^ σ1.nx)).testBit σ1.nx = true; rw [bit_lor]; simp))
  have hf0 : FrR α μ1 fr'.n fr'.t a.tmps := by
   have := hc.tmps.mono le1
   rw [hn, ht]; exact this
  obtain ⟨P2, le2⟩ := Post.new (x := .loop 0 none f fr'.n fr'.t ps.toList as' bd d) P1.pre wf1 hM (Nat.le_trans TCE.nx hN) (cap := 0) (made_alloc w1 (.loop { state := .ready, pending := none, fn := b.fn, tmps := a.tmps, params := ps, assign := as', body := bd, defers := dd }))
   ⟨.ready, a.tmps, dd, y, rfl, hf0.mono (fun j z hj => by
    rw [upd_ne _ _ (by intro e; subst e; rw [P1.pre.fresh σ1.nx (Nat.le_refl _) (Nat.lt_of_lt_of_le (Nat.lt_succ_self _) (Nat.le_trans TCE.nx hN))] at hj; cases hj)]; exact hj), by
    rw [upd_ne _ _ (by intro e; subst e; rw [P1.pre.fresh σ1.nx (Nat.le_refl _) (Nat.lt_of_lt_of_le (Nat.lt_succ_self _) (Nat.le_trans TCE.nx hN))] at h1; cases h1)]; exact h1, by simp [hc.fn]⟩
  have P12 := Post.trans hpre wf P1 TA P2 TN hs2
  have wf2 := TN.wf wf1
  obtain ⟨fn', xs, ys, e1, e2, e3, e4⟩ := conc_f (opnd_ok hc.tmps hg)
  simp only [concFn, Option.some.injEq] at e1
  subst e1
  have hvals : concL α (upd μ1 σ1.nx (some (w1.heap.size, 0))) (fst ++ [.f (.yield σ1.nx) [] []] ++ cap) = some (xs ++ [.func (.yield w1.heap.size) #[] #[]] ++ ys) := by
   refine concL_append (concL_append (concL_mono (le1.trans le2) _ e2) ?_) (concL_mono (le1.trans le2) _ e3)
   simp [concL, conc, concFn, upd_same]
  obtain ⟨x, w3, μ3, C3, frX, P3, q1, q2, q3, q4, q5, q6, q7⟩ := hcall.2 _ _ _ M N _ (Frm b { a with defers := mark ++ a.defers } (.inRangeFunc w1.heap.size :: k) :: cs) P2.pre wf2 (hs.of_tr TE) (Nat.le_trans TE.nx hN) hvals
  have P13 := Post.trans hpre wf P12 (TA.trans TN) P3 hcall.1 (hs.of_tr TE)
  have le3 := Post.le P2.pre (Nat.le_trans TE.nx hN) P3
  have hbl : μ3 σ1.nx = some (w1.heap.size, 0) := le3 _ _ (upd_same ..)
  obtain ⟨bl, cp, ob, i1, i2, s0, tm0, dd0, y0, i3, i4, i5, rfl⟩ := P13.pre.get hM hobj (by simp)
  rw [hbl] at i1
  cases i1
  have hsb : s0 ≠ .busy := by
   rcases hend with ⟨rfl, -⟩ | ⟨rfl, -⟩ | ⟨rfl, -⟩ <;> (simp only [stOf, Option.some.injEq] at i3; rw [← i3]; simp)
  have P4 := Post.wr P13.pre hM (by rw [hobj]; simp) hbl (wrote_setObj (ob := .loop { state := .exhausted, pending := pd, fn := g0, tmps := tm0, params := ps0.toArray, assign := as0, body := bd0, defers := dd0 }) (Array.getElem?_eq_some_iff.1 i2).1) (x := .dead) trivial
  have S0 := m_rangeFunc (P := P) (b := b) (a := a) (k := k) (cs := cs) (w := w) (g := g) (ps := ps) (as' := as') (bd := bd) (h3 a.tmps ps as' bd) e4 (callFunc_run hf1 hf2 hf3)
  have harr : xs.toArray ++ #[Value.func (.yield w1.heap.size) #[] #[]] ++ ys.toArray = (xs ++ [Value.func (.yield w1.heap.size) #[] #[]] ++ ys).toArray := by simp
  rw [harr] at S0
  have S2 := step_leave_returned (P := P) (fr := frX) (c := Frm b { a with defers := mark ++ a.defers } (.inRangeFunc w1.heap.size :: k)) (cs := cs) (w := w3) (v := x) ⟨q3, q4, q5, by rw [q6]; exact ⟨fn, hf1, by obtain ⟨fn2, r1, r2⟩ := q7; rw [hf1] at r1; cases r1; exact r2⟩⟩
  have hfin : (Frm b { a with defers := mark ++ a.defers } (.inRangeFunc w1.heap.size :: k)).finish x = Frm b { a with defers := mark ++ a.defers } (.endRangeFunc w1.heap.size :: k) := rfl
  rw [hfin] at S2
  have S3 := m_endRange (P := P) (b := b) (a := { a with defers := mark ++ a.defers }) (k := k) (cs := cs) i2 hsb
  have hS : Steps P (lone (Frm b a (.code (.rangeFunc g ps as' bd) :: k)) cs w) (lone (Frm b { a with defers := mark ++ a.defers } ((pd.map Item.code).toList ++ k)) cs { w3 with heap := w3.heap.setIfInBounds w1.heap.size (.loop { state := .exhausted, pending := pd, fn := g0, tmps := tm0, params := ps0.toArray, assign := as0, body := bd0, defers := dd0 }) }) :=
   Steps.trans (.one S0) (Steps.trans q2 (Steps.trans (.one S2) (.one S3)))
  refine ⟨{ a with defers := mark ++ a.defers }, _, μ3, _, Post.trans hpre wf P13 ((TA.trans TN).trans hcall.1) P4 TE hs, ⟨⟨hf0.size, (hf0.mono (le2.trans le3)).at_⟩, h2.mono (le2.trans le3), hc.fn, hc.rnd.mono (le1.trans (le2.trans le3)), hc.calm⟩, ?_⟩
  rcases hend with ⟨-, rfl, rfl⟩ | ⟨-, id, rfl, rfl⟩ | ⟨-, rfl, rfl⟩
  ·exact hS
  ·exact ⟨k, rfl, hS⟩
  exact ⟨k, hS⟩
 cases hC
end
end Go.Eng
/- Calls, and the whole evaluator. -/
namespace Go.Eng
open Go Go.RowKit Go.Pm
section
variable {P : Program} {α : At} {rnd : Option Nat} {f : FuncId} {fr fr1 fr' : Fr} {σ σ1 σ' : St} {pr : Pr} {ih : Ih} {v : V}
theorem argsFr_get : ∀ (vs : List V) (k : Nat) (fr fr1 : Fr), argsFr vs k fr = .ok fr1 → fr1.n = fr.n ∧ fr1.ds = fr.ds ∧ (vs = [] ∨ k + vs.length ≤ fr.n) ∧ ∀ j, fr1.at j = if k ≤ j ∧ j < k + vs.length then vs.getD (j - k) und else fr.at j
 | [], k, fr, fr1, h => by
  cases h
  exact ⟨rfl, rfl, .inl rfl, fun j => by rw [if_neg (by simp only [List.length_nil]; omega)]⟩
 | v :: vs, k, fr, fr1, h => by
  simp only [argsFr] at h
  have hh__ := bind_ok h; clear h; obtain ⟨fr0, h0, h⟩ := hh__
  obtain ⟨h1, h2, h3, h4⟩ := argsFr_get vs (k + 1) fr0 fr1 h
  obtain ⟨p1, p2⟩ := put_same h0
  have hk : k < fr.n := by
   simp only [Fr.put] at h0
   obtain ⟨h5, -⟩ := cond_ok h0
   simpa [Nat.blt_eq] using h5
  refine ⟨h1.trans p1, h2.trans p2, .inr ?_, fun j => ?_⟩
  ·rcases h3 with rfl | h3
   ·simp; omega
   rw [p1] at h3; simp; omega
  rw [h4, put_at h0]
  simp only [List.length_cons]
  by_cases hj : j = k
  ·subst hj
   rw [if_neg (by omega), if_pos rfl, if_pos (by omega)]
   simp
  by_cases hj2 : k + 1 ≤ j ∧ j < k + 1 + vs.length
  ·rw [if_pos hj2, if_pos (by omega)]
   rw [show j - k = (j - (k + 1)) + 1 by omega]
   rfl
  rw [if_neg hj2, if_neg (by simpa using Ne.symm hj), if_neg (by omega)]
theorem getD_list {μ : Mu} : ∀ {vs : List V} {xs : List Value} (j : Nat), concL α μ vs = some xs → conc α μ (vs.getD j und) = some (xs.getD j undef)
 | [], xs, j, h => by simp only [concL, Option.some.injEq] at h; subst h; simp [und_ok]
 | v :: vs, xs, j, h => by
  obtain ⟨x, ys, h1, h2, rfl⟩ := concL_cons h
  cases j with
  | zero => simpa using h1
  | succ j => simpa using getD_list j h2
theorem enter_ok {μ : Mu} {args : List V} {vals : List Value} {n : Nat} (hx : concL α μ args = some vals) (h : argsFr args 0 ⟨n, .e, []⟩ = .ok fr) : FrA α μ fr ⟨vals.toArray ++ Array.replicate (n - vals.toArray.size) undef, []⟩ ∧ fr.ds = [] := by
 obtain ⟨h1, h2, h3, h4⟩ := argsFr_get args 0 _ fr h
 have hlen := concL_length hx
 refine ⟨⟨?_, fun j => ?_⟩, h2⟩
 ·simp only [Array.size_append, Array.size_replicate, List.size_toArray]
  rw [h1]
  rcases h3 with rfl | h3
  ·simp at hlen; simp [hlen]
  simp at h3; simp; omega
 show conc α μ (fr.at j) = _
 rw [h4]
 by_cases hj : j < args.length
 ·rw [if_pos ⟨Nat.zero_le _, by omega⟩, Nat.sub_zero, getD_list j hx]
  congr 1
  simp only [List.getD_eq_getElem?_getD, Array.getD_eq_getD_getElem?]
  rw [Array.getElem?_append_left (by simp; omega)]
  simp
 rw [if_neg (by omega)]
 have : (⟨n, .e, []⟩ : Fr).at j = und := rfl
 rw [this, und_ok]
 congr 1
 simp only [Array.getD_eq_getD_getElem?]
 rw [Array.getElem?_append_right (by simp; omega), Array.getElem?_replicate]
 split <;> rfl
-- a function's end
theorem m_end {b : Frame} {a : Act} {cs : List Frame} {w : World} (hr : b.roundOf = none) : Go.step P (lone (Frm b a []) cs w) = .next (lone { Frm b a [] with mode := .returning } cs w) :=
 step_lone_go (by simp [stepG, stepG.exec, Frm, hr])
theorem m_ret {b : Frame} {a : Act} {k : List Item} {cs : List Frame} {w : World} (hr : b.roundOf = none) : Go.step P (lone (Frm b a (.code .ret :: k)) cs w) = .next (lone { Frm b a (.code .ret :: k) with mode := .returning } cs w) :=
 step_lone_go (by simp [stepG, stepG.exec, Frm, hr])
theorem m_mark {X : Frame} {bl : Nat} {ds : List Deferred} {cs : List Frame} {w : World} (hm : X.mode = .returning) (hb : w.heap[bl]? = some (.deferred (some []))) :
  Go.step P (lone { X with defers := { target := .collected bl, args := #[] } :: ds } cs w) = .next (lone { X with defers := ds } cs { w with heap := w.heap.setIfInBounds bl (.deferred none) }) := by
 refine step_lone_go ?_
 have hrun : (Instr.takeDeferred bl).run P w = .ok [] { w with heap := w.heap.setIfInBounds bl (.deferred none) } := by
  simp [Instr.takeDeferred, getObj, setObj, Sem.run, hb]
 simp [stepG, hm, unwind, Sem.runT_eq, hrun]
theorem m_deferred {X : Frame} {d : Deferred} {g : FuncId} {cap : Array Value} {ds : List Deferred} {cs : List Frame} {w : World} (hm : X.mode = .returning) (ht : d.target = .fn (.func g) cap) (hrun : (callFunc g (d.args ++ cap)).run P w = .ok (.enter g (d.args ++ cap)) w) :
  Go.step P (lone { X with defers := d :: ds } cs w) = .next (lone (Frame.enter P g (d.args ++ cap) .deferred) ({ X with defers := ds } :: cs) w) := by
 refine step_lone_go ?_
 have h2 : (invoke d.target d.args).run P w = .ok (.enter g (d.args ++ cap)) w := by rw [ht]; exact hrun
 obtain ⟨tg, da⟩ := d
 simp only at ht
 subst ht
 simp only at h2
 simp [stepG, hm, unwind, callDeferred, Sem.runT_eq, h2]
theorem m_leaveDeferred {X c : Frame} {cs : List Frame} {w : World} {v : Value} (hm : X.mode = .returning) (hd : X.defers = []) (hk : X.kind = .deferred) (hc : c.mode = .returning) {fn : Func} (hf : P.funcs[X.fn]? = some fn) (hr : (results fn X.tmps).run P w = .ok v w) :
  Go.step P (lone X (c :: cs) w) = .next (lone c cs w) :=
 step_lone_go (by simp [stepG, unwind, doReturn, hm, hd, hk, hf, hr, hc])
theorem takeDs_ok (hI : IhOk pr P α ih) (hp : PrOk pr P) : ∀ (ds : List D) (σ σ' : St), takeDs pr ih σ ds = .ok σ' → Tr σ σ' ∧ ∀ μ C w M N (X : Frame) defs cs, Pre P α μ C σ w M N → Wf σ → Sub σ' M → σ'.nx ≤ N → DsR α μ ds defs → X.mode = .returning →
  ∃ w' μ' C', Post P α μ C σ w μ' C' σ' w' M N ∧ Steps P (lone { X with defers := defs } cs w) (lone { X with defers := [] } cs w')
 | [], σ, σ', h => by
  cases h
  exact ⟨Tr.refl σ, fun μ C w M N X defs cs hpre _ _ _ hds _ => by
   cases defs with
   | nil => exact ⟨w, μ, C, Post.refl hpre, Steps.refl P _⟩
   | cons _ _ => exact hds.elim⟩
 | .mark d :: l, σ, σ', h => by
  simp only [takeDs] at h
  split at h
  ·rename_i hob
   have T1 : Tr σ (wr σ d .dead) := tr_wr _ (by rw [hob]; simp)
   obtain ⟨T2, h2⟩ := takeDs_ok hI hp l _ σ' h
   refine ⟨T1.trans T2, fun μ C w M N X defs cs hpre wf hs hN hds hX => ?_⟩
   cases defs with
   | nil => exact hds.elim
   | cons x defs =>
    obtain ⟨⟨b, y, e1, rfl⟩, hds⟩ := hds
    have hM : M d := hs d (.inr (T2.w d (by show (Nat.lor σ.w (2 ^ d)).testBit d = true; rw [bit_lor]; simp)))
    obtain ⟨b', cap, ob, i1, i2, rfl⟩ := hpre.get hM hob (by simp)
    rw [e1] at i1; cases i1
    have P1 := Post.wr hpre hM (by rw [hob]; simp) e1 (wrote_setObj (ob := .deferred none) (Array.getElem?_eq_some_iff.1 i2).1) (x := .dead) trivial
    obtain ⟨w', μ', C', P2, S2⟩ := h2 μ _ _ M N X defs cs P1.pre (T1.wf wf) hs hN hds hX
    exact ⟨w', μ', C', Post.trans hpre wf P1 T1 P2 T2 hs, Steps.trans (.one (m_mark hX i2)) S2⟩
  cases h
 | .call g args :: l, σ, σ', h => by
  simp only [takeDs] at h
  have hh__ := bind_ok h; clear h; obtain ⟨r, hc, h⟩ := hh__
  obtain ⟨σ1, v1⟩ := r
  obtain ⟨hcall, fn, hf1, hf2, hf3⟩ := callD_ok hI hp hc
  obtain ⟨T2, h2⟩ := takeDs_ok hI hp l σ1 σ' h
  refine ⟨hcall.1.trans T2, fun μ C w M N X defs cs hpre wf hs hN hds hX => ?_⟩
  cases defs with
  | nil => exact hds.elim
  | cons x defs =>
   obtain ⟨⟨cap, e1, e2⟩, hds⟩ := hds
   obtain ⟨y, w1, μ1, C1, frX, P1, q1, q2, q3, q4, q5, q6, fn2, q7, q8⟩ := hcall.2 μ C w M N _ .deferred ({ X with defers := defs } :: cs) hpre wf (hs.of_tr T2) (Nat.le_trans T2.nx hN) e2 (.inr ⟨rfl, _, _, rfl, hX⟩)
   have le1 := Post.le hpre (Nat.le_trans T2.nx hN) P1
   have harr : x.args ++ cap = (x.args.toList ++ cap.toList).toArray := by apply Array.ext'; simp
   have S0 := m_deferred (P := P) (X := X) (ds := defs) (cs := cs) (w := w) hX e1 (by rw [harr]; exact callFunc_run hf1 hf2 hf3)
   rw [harr] at S0
   have S1 := m_leaveDeferred (P := P) (X := frX) (c := { X with defers := defs }) (cs := cs) (w := w1) (v := y) q3 q4 q5 hX (by rw [q6]; exact q7) q8
   obtain ⟨w', μ', C', P2, S2⟩ := h2 μ1 C1 w1 M N X defs cs P1.pre (hcall.1.wf wf) hs hN (hds.mono le1) hX
   exact ⟨w', μ', C', Post.trans hpre wf P1 hcall.1 P2 T2 hs, Steps.trans (.one S0) (Steps.trans q2 (Steps.trans (.one S1) S2))⟩
def resOf (tmps : Array Value) : ResultVar → Sem Value
 | .tmp t => pure (tmps.getD t undef)
 | .cell a t => do loadVar t (← asAddr (tmps.getD a undef))
theorem results_ok (hp : PrOk pr P) : ∀ (rs : List ResultVar) (σ σ' : St) (l : List V), resultsV pr fr rs σ = .ok (σ', l) → Rd σ σ' ∧ ∀ μ C w M N (tmps : Array Value), Pre P α μ C σ w M N → Sub σ' M → FrR α μ fr.n fr.t tmps →
  ∃ xs, concL α μ l = some xs ∧ (rs.mapM (resOf tmps)).run P w = .ok xs w
 | [], σ, σ', l, h => by
  cases h
  exact ⟨Rd.refl σ, fun μ C w M N tmps _ _ _ => ⟨[], by simp [concL], by simp⟩⟩
 | .tmp t :: rs, σ, σ', l, h => by
  simp only [resultsV] at h
  have hh__ := bind_ok h; clear h; obtain ⟨r, h1, h⟩ := hh__
  obtain ⟨σ1, l1⟩ := r
  cases h
  obtain ⟨R1, h2⟩ := results_ok hp rs σ _ l1 h1
  refine ⟨R1, fun μ C w M N tmps hpre hs hf => ?_⟩
  obtain ⟨xs, e1, e2⟩ := h2 μ C w M N tmps hpre hs hf
  refine ⟨_, concL_mk (hf.at_ t) e1, ?_⟩
  simp only [List.mapM_cons, resOf, Sem.run_bind, Sem.run_pure, Result.andThen_ok, e2]
 | .cell a t :: rs, σ, σ', l, h => by
  simp only [resultsV] at h
  split at h
  ·rename_i k o hk
   have hh__ := bind_ok h; clear h; obtain ⟨r, h1, h⟩ := hh__
   obtain ⟨σ1, v1⟩ := r
   dsimp only at h
   have hh__ := bind_ok h; clear h; obtain ⟨r, h2, h⟩ := hh__
   obtain ⟨σ2, l2⟩ := r
   cases h
   obtain ⟨rfl, hl⟩ := loadT_run (P := P) (α := α) hp h1
   obtain ⟨R1, h3⟩ := results_ok hp rs _ _ l2 h2
   have R0 := Rd.rd σ k
   refine ⟨R0.trans R1, fun μ C w M N tmps hpre hs hf => ?_⟩
   obtain ⟨b, cap, x, e1, e2, e3⟩ := hl μ C w M N hpre (hs.of_tr R1.tr)
   obtain ⟨xs, e4, e5⟩ := h3 μ C w M N tmps (hpre.after_rd R0) hs hf
   refine ⟨_, concL_mk e3 e4, ?_⟩
   have hv := hf.at_ a
   have hk' : T.get und fr.t a = .p (some (k, o)) := hk
   rw [hk'] at hv
   obtain ⟨b', cap', e6, e7⟩ := conc_p hv
   rw [e1] at e6; cases e6
   simp only [List.mapM_cons, resOf, Sem.run_bind, Sem.run_pure, Result.andThen_ok, e7, asAddr, e2, e5]
  cases h
theorem one_ok {μ : Mu} {l : List V} {xs : List Value} (h : concL α μ l = some xs) : conc α μ (one l) = some (if h : xs.toArray.size = 1 then xs.toArray[0] else .tuple xs.toArray) := by
 cases l with
 | nil => simp only [concL, Option.some.injEq] at h; subst h; simp [one, conc, concL]
 | cons v l =>
  cases l with
  | nil =>
   obtain ⟨x, ys, h1, h2, rfl⟩ := concL_cons h
   simp only [concL, Option.some.injEq] at h2; subst h2
   simpa [one] using h1
  | cons v' l =>
   have := concL_length h
   simp only [one, conc, h, Option.map_some]
   rw [dif_neg (by simp at this ⊢; omega)]
theorem runCall_ok (hI : IhOk pr P α ih) (hp : PrOk pr P) {args : List V} (h : runCall pr ih f args σ = .ok (σ', v)) : CallRun P α f args σ σ' v := by
 unfold runCall at h
 split at h
 ·rename_i fn hfn
  obtain ⟨hf, -⟩ := hp.fn f fn hfn
  split at h
  ·rename_i c hbody
   have hh__ := bind_ok h; clear h; obtain ⟨fr0, h0, h⟩ := hh__
   have hh__ := bind_ok h; clear h; obtain ⟨r, h1, h⟩ := hh__
   obtain ⟨σ1, fr1, e⟩ := r
   dsimp only at h
   have hh__ := cond_ok h; clear h; obtain ⟨he, h⟩ := hh__
   have hh__ := bind_ok h; clear h; obtain ⟨σ2, h2, h⟩ := hh__
   have hh__ := bind_ok h; clear h; obtain ⟨r, h3, h⟩ := hh__
   obtain ⟨σ3, l⟩ := r
   cases h
   have R1 := hI.exec none f c fr0 σ σ1 fr1 e h1
   obtain ⟨T2, h2⟩ := takeDs_ok (P := P) (α := α) hI hp _ _ _ h2
   obtain ⟨R3, h3⟩ := results_ok (P := P) (α := α) hp _ _ _ _ h3
   have T23 := T2.trans R3.tr
   refine ⟨R1.1.trans T23, fun μ C w M N vals kind cs hpre wf hs hN hvals hcalm => ?_⟩
   obtain ⟨hfr, hds⟩ := enter_ok hvals h0
   have hcx : Cx α μ fr0 ⟨vals.toArray ++ Array.replicate (fn.ntmps - vals.toArray.size) undef, []⟩ none f (Frame.enter P f vals.toArray kind) cs := ⟨hfr, by rw [hds]; trivial, rfl, trivial, hcalm⟩
   obtain ⟨a1, w1, μ1, C1, P1, c1, S1⟩ := R1.2 μ C w M N _ (Frame.enter P f vals.toArray kind) [] cs hpre wf (hs.of_tr T23) (Nat.le_trans T23.nx hN) hcx
   have hent : Frame.enter P f vals.toArray kind = Frm (Frame.enter P f vals.toArray kind) ⟨vals.toArray ++ Array.replicate (fn.ntmps - vals.toArray.size) undef, []⟩ [.code c] := by
    simp [Frame.enter, Frm, hf, hbody]
   have S1' : ∃ k', Steps P (lone (Frame.enter P f vals.toArray kind) cs w) (lone { Frm (Frame.enter P f vals.toArray kind) a1 k' with mode := .returning } cs w1) := by
    cases e with
    | normal =>
     change Steps P (lone (Frm (Frame.enter P f vals.toArray kind) ⟨vals.toArray ++ Array.replicate (fn.ntmps - vals.toArray.size) undef, []⟩ [.code c]) cs w) _ at S1
     rw [← hent] at S1
     exact ⟨_, Steps.trans S1 (.one (m_end rfl))⟩
    | ret =>
     obtain ⟨k', hk⟩ := S1
     rw [← hent] at hk
     exact ⟨_, Steps.trans hk (.one (m_ret rfl))⟩
    | _ => cases he
   obtain ⟨k', S1'⟩ := S1'
   obtain ⟨w2, μ2, C2, P2, S2⟩ := h2 μ1 C1 w1 M N { Frm (Frame.enter P f vals.toArray kind) a1 k' with mode := .returning } a1.defers cs P1.pre (R1.1.wf wf) (hs.of_tr R3.tr) (Nat.le_trans R3.tr.nx hN) c1.ds rfl
   have le2 := Post.le P1.pre (Nat.le_trans R3.tr.nx hN) P2
   obtain ⟨xs, e1, e2⟩ := h3 μ2 C2 w2 M N a1.tmps P2.pre hs (c1.tmps.mono le2)
   have P12 := Post.trans hpre wf P1 R1.1 P2 T2 (hs.of_tr R3.tr)
   refine ⟨_, w2, μ2, C2, { Frm (Frame.enter P f vals.toArray kind) a1 k' with mode := .returning, defers := [] }, Post.trans hpre wf P12 (R1.1.trans T2) (R3.post P2.pre) R3.tr hs, one_ok e1, Steps.trans S1' S2, rfl, rfl, rfl, rfl, fn, hf, ?_⟩
   have : (results fn a1.tmps).run P w2 = .ok (if h : xs.toArray.size = 1 then xs.toArray[0] else .tuple xs.toArray) w2 := by
    have hm : fn.results.mapM (resOf a1.tmps) = List.toArray <$> fn.results.toList.mapM (resOf a1.tmps) := Array.mapM_eq_mapM_toList
    have : results fn a1.tmps = (do let vs ← fn.results.mapM (resOf a1.tmps); pure (if h : vs.size = 1 then vs[0] else .tuple vs)) := by
     unfold results
     congr 1
    rw [this, hm]
    simp only [Sem.run_bind, map_eq_pure_bind, e2, Result.andThen_ok, Sem.run_pure]
   exact this
  cases h
 cases h
theorem run_ok (hα : AtOk pr α) (hp : PrOk pr P) (hI : IhOk pr P α ih) (hfol : P.follows .rangeFuncRecover = true) (hmix : P.follows .mixedOrders = true) : ExecOk P α (run pr ih) := by
 intro rnd f c fr σ σ' fr' e h
 unfold run at h
 split at h
 ·cases h; exact run_skip
 ·cases h; exact run_label
 ·rename_i rid ops d
  cases d with
  | true =>
   simp only [cond_true] at h
   have hh__ := cond_ok h; clear h; obtain ⟨hdr, h⟩ := hh__
   have hh__ := bind_ok h; clear h; obtain ⟨r, h1, h⟩ := hh__
   cases h
   exact run_drawn hα hp hI hfol hmix hdr h1
  | false =>
   simp only [cond_false] at h
   have hh__ := bind_ok h; clear h; obtain ⟨r, h1, h⟩ := hh__
   cases h
   exact run_region hα hp hI hfol h1
 ·rename_i x y
  have hh__ := bind_ok h; clear h; obtain ⟨r, h1, h⟩ := hh__
  obtain ⟨σ1, fr1, e1⟩ := r
  have R1 := hI.exec _ _ _ _ _ _ _ _ h1
  split at h
  ·rename_i heq
   cases heq
   exact run_seq R1 (hI.exec _ _ _ _ _ _ _ _ h)
  rename_i hne
  cases h
  exact run_seqOut (fun he => hne _ _ (by rw [he])) R1
 ·rename_i x c1 c2
  have hh__ := bind_ok h; clear h; obtain ⟨xv, hx, h⟩ := hh__
  split at h
  ·exact run_cond hx (hI.exec _ _ _ _ _ _ _ _ h)
  cases h
 ·rename_i id x
  have hh__ := bind_ok h; clear h; obtain ⟨r, h1, h⟩ := hh__
  obtain ⟨σ1, fr1, e1⟩ := r
  have R1 := run_block (id := id) (hI.exec _ _ _ _ _ _ _ _ h1)
  split at h
  ·rename_i heq
   cases heq
   cases h
   exact R1
  rename_i hne
  cases h
  cases e with
  | exit j => exact absurd rfl (hne _ _ _)
  | _ => exact R1
 ·rename_i x
  have hh__ := bind_ok h; clear h; obtain ⟨r, h1, h⟩ := hh__
  obtain ⟨σ1, fr1, e1⟩ := r
  have R1 := hI.exec _ _ _ _ _ _ _ _ h1
  split at h
  ·rename_i heq
   cases heq
   exact run_loop R1 (hI.exec _ _ _ _ _ _ _ _ h)
  rename_i hne
  cases h
  exact run_loopOut (fun he => hne _ _ (by rw [he])) R1
 ·cases h; exact run_exit
 ·cases h; exact run_ret
 ·exact run_rangeFunc hI hp h
 ·exact run_scope (hI.scope _ _ _ _ _ _ _ _ _ h)
 ·cases h; exact run_goto
 cases h
theorem runScope_ok (hI : IhOk pr P α ih) : ScopeOk P α (runScope ih) := by
 intro rnd f bd c fr σ σ' fr' e h
 unfold runScope at h
 have hh__ := bind_ok h; clear h; obtain ⟨r, h1, h⟩ := hh__
 obtain ⟨σ1, fr1, e1⟩ := r
 have R1 := hI.exec _ _ _ _ _ _ _ _ h1
 split at h
 ·rename_i heq
  cases heq
  split at h
  ·rename_i hl
   exact scope_goto hl R1 (hI.scope _ _ _ _ _ _ _ _ _ h)
  rename_i hl
  cases h
  exact scope_out (fun l he => by cases he; exact hl) R1
 rename_i hne
 cases h
 exact scope_out (fun l he => absurd (by rw [he]) (hne _ _ l)) R1
theorem ev_ok (hα : AtOk pr α) (hp : PrOk pr P) (ho : ∀ f args σ σ' v, pr.orc f args σ = some (σ', v) → CallRun P α f args σ σ' v) (hn : ∀ f args σ σ' v, pr.orn f args σ = some (σ', v) → CallN P α f args σ σ' v) (hfol : P.follows .rangeFuncRecover = true) (hmix : P.follows .mixedOrders = true) : ∀ n, IhOk pr P α (ev pr n)
 | 0 => ⟨fun _ _ _ _ _ h => (by cases h), hn, fun _ _ _ _ _ _ _ _ h => (by cases h), fun _ _ _ _ _ _ _ _ _ h => (by cases h)⟩
 | n + 1 => by
  have ih := ev_ok hα hp ho hn hfol hmix n
  refine ⟨fun f args σ σ' v h => ?_, hn, run_ok hα hp ih hfol hmix, runScope_ok ih⟩
  simp only [ev, Eng.step] at h
  split at h
  ·rename_i v0 hv0
   cases h
   exact ho f args _ _ _ hv0
  exact runCall_ok ih hp h
end
end Go.Eng
/- From the evaluator's runs to contracts of calls. -/
namespace Go.Eng
open Go Go.RowKit Go.Pm
section
variable {P : Program} {α : At} {pr : Pr} {f : FuncId} {args : List V} {vals : List Value} {v : V} {σ' : St}
theorem wf0 : Wf st0 := fun _ _ => rfl
theorem ev_calls (hI : CallRun P α f args st0 σ' v) (hx : concL α (fun _ => none) args = some vals) {W : World}
  (hwin : ∀ j i v, (α.wc j)[i]? = some v → ∃ x, conc α (fun _ => none) v = some x ∧ W.cell? ⟨(α.win j).1, (α.win j).2.1 + i, none⟩ = some x)
  (hfull : ∀ j o, α.blk j = some o → α.wc j ≠ [] → W.heap[(α.win j).1]? = some o := by intro j o h; cases h) :
  Calls P f vals.toArray W fun e W' => ∃ x μ', e = .returned x ∧ conc α μ' v = some x ∧ Ext W W' := by
 intro cs
 have hpre : Pre P α (fun _ => none) (fun _ => .dead) st0 W (fun _ => True) σ'.nx :=
  ⟨⟨fun k h => absurd rfl h, fun j k b x y h => absurd rfl h, hwin, hfull, fun k b x h => absurd rfl h⟩, fun _ _ => rfl, fun _ _ _ => rfl⟩
 obtain ⟨x, w', μ', C', frX, P1, q1, q2, q3, q4, q5, q6, fn, q7, q8⟩ := hI.2 _ _ W _ _ vals .normal cs hpre wf0 (fun _ _ => trivial) (Nat.le_refl _) hx (.inl rfl)
 refine ⟨.returned x, w', frX, ⟨x, μ', rfl, q1, P1.os, P1.tape, P1.output, P1.size, fun k hk => P1.frame k hk fun j y _ h => absurd rfl h⟩, q2, q6, q3, q4, q5, fn, by rw [q6]; exact q7, q8⟩
-- a value that points to nothing
mutual
def flat : V → Bool
 | .b _ | .i _ _ | .q _ _ _ | .s _ | .p none | .sl none _ _ | .m none | .nf | .ni => true
 | .t _ v => flat v
 | .g cs => flatL cs
 | .u vs => flatL vs
 | _ => false
def flatL : List V → Bool
 | [] => true
 | v :: l => flat v && flatL l
end
end
def saysTrue : Res (St × V) → Bool
 | .ok (_, .b true) => true
 | _ => false
theorem saysTrue_ok {r : Res (St × V)} (h : saysTrue r = true) : ∃ σ, r = .ok (σ, .b true) := by
 unfold saysTrue at h
 split at h
 ·exact ⟨_, rfl⟩
 cases h
def plainAt : At := ⟨fun _ => [], fun _ => (0, 0, 0, 0), fun _ => [], fun _ => none, fun _ => none⟩
end Go.Eng
