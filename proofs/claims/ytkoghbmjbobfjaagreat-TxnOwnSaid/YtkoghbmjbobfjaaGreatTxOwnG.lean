/- The evaluator's operations on values, beside the model's. -/
import Derived.Test.YtkoghbmjbobfjaaGreatTxOwnF
set_option maxRecDepth 100000
namespace Go.Eng
open Go Go.RowKit Go.Pm
structure Rd (σ σ' : St) : Prop where
 h : σ'.h = σ.h
 nx : σ'.nx = σ.nx
 w : σ'.w = σ.w
 r : ∀ k, σ.r.testBit k = true → σ'.r.testBit k = true
theorem Rd.refl (σ : St) : Rd σ σ := ⟨rfl, rfl, rfl, fun _ h => h⟩
theorem Rd.rd (σ : St) (k : Nat) : Rd σ (rd σ k) := ⟨rfl, rfl, rfl, (tr_rd σ k).r⟩
theorem Rd.trans {a b c : St} (h : Rd a b) (k : Rd b c) : Rd a c := ⟨k.h.trans h.h, k.nx.trans h.nx, k.w.trans h.w, fun j e => k.r j (h.r j e)⟩
theorem Rd.obj {σ σ' : St} (h : Rd σ σ') (k : Nat) : obj σ' k = obj σ k := by unfold Eng.obj; rw [h.h]
theorem Rd.tr {σ σ' : St} (h : Rd σ σ') : Tr σ σ' :=
 ⟨h.r, fun k e => by rw [h.w]; exact e, Nat.le_of_eq h.nx.symm, fun k _ => h.obj k, fun k _ e => (h.obj k).trans e, fun k h1 h2 => by rw [h.nx] at h2; omega, fun wf k hk => by rw [h.obj]; rw [h.nx] at hk; exact wf k hk⟩
section
variable {P : Program} {α : At} {μ μ' : Mu} {c c' : Nat → O} {σ σ' : St} {w w' : World} {M : Nat → Prop} {N : Nat}
theorem Rd.post (h : Rd σ σ') (p : Pre P α μ c σ w M N) : Post P α μ c σ w μ c σ' w M N :=
 ⟨⟨p.sim, fun j hj => by rw [h.obj]; exact p.ag j hj, fun j h1 h2 => by rw [h.nx] at h1; exact p.fresh j h1 h2⟩, fun _ _ => rfl, fun _ _ => rfl, fun j b x h1 h2 _ => by rw [h.nx] at h2; omega, fun _ _ _ => rfl, Nat.le_refl _, rfl, rfl, rfl⟩
end
def Ran (P : Program) (a : Act) (o : Oper) (w : World) (x : Value) (w' : World) : Prop :=
 (execOp a.eval o).run P w = .ok (.value x) w' ∨ ((execOp a.eval o).run P w = .ok .skip w' ∧ x = undef)
def OpOk (P : Program) (α : At) (fr : Fr) (o : Oper) (σ σ' : St) (v : V) : Prop :=
 Tr σ σ' ∧ ∀ μ c w M N a, Pre P α μ c σ w M N → Wf σ → Sub σ' M → σ'.nx ≤ N → FrA α μ fr a →
  ∃ x w' μ' c', Ran P a o w x w' ∧ Post P α μ c σ w μ' c' σ' w' M N ∧ conc α μ' v = some x
section
variable {P : Program} {α : At} {fr : Fr} {o : Oper} {σ σ' : St} {v : V}
theorem OpOk.read (hr : Rd σ σ') (h : ∀ μ c w M N a, Pre P α μ c σ w M N → Sub σ' M → FrA α μ fr a → ∃ x, Ex P a o w x w ∧ conc α μ v = some x) : OpOk P α fr o σ σ' v := by
 refine ⟨hr.tr, fun μ c w M N a hp _ hs _ hf => ?_⟩
 obtain ⟨x, h1, h2⟩ := h μ c w M N a hp hs hf
 exact ⟨x, w, μ, c, .inl h1, hr.post hp, h2⟩
theorem OpOk.pure (h : ∀ μ w a, FrA α μ fr a → ∃ x, Ex P a o w x w ∧ conc α μ v = some x) : OpOk P α fr o σ σ v :=
 OpOk.read (Rd.refl σ) fun μ _ w _ _ a _ _ hf => h μ w a hf
end
-- numbers
theorem ilt_eq (a b : Int) : ilt a b = decide (a < b) := by
 cases a with
 | ofNat a => cases b with
  | ofNat b => simp only [ilt]; rw [Bool.eq_iff_iff]; simp [Nat.blt_eq]
  | negSucc b => simp only [ilt]; symm; simp; omega
 | negSucc a => cases b with
  | ofNat b => simp only [ilt]; symm; simp; omega
  | negSucc b => simp only [ilt]; rw [Bool.eq_iff_iff]; simp [Nat.blt_eq]; omega
theorem ieq_eq (a b : Int) : ieq a b = decide (a = b) := by
 cases a with
 | ofNat a => cases b with
  | ofNat b => simp only [ieq, beq_of]; rw [Bool.eq_iff_iff]; simp; omega
  | negSucc b => simp only [ieq]; symm; simp
 | negSucc a => cases b with
  | ofNat b => simp only [ieq]; symm; simp
  | negSucc b => simp only [ieq, beq_of]; rw [Bool.eq_iff_iff]; simp
theorem beqK_eq {k j : IntKind} (h : beqK k j = true) : k = j := by
 cases k <;> cases j <;> first | rfl | cases h
theorem wrapS (k : IntKind) (n : Int) (hs : k.signed = true) (h : -(2 ^ (k.bits - 1) : Nat) ≤ n ∧ n < (2 ^ (k.bits - 1) : Nat)) : k.wrap n = n := by
  cases k <;> first
    | (cases hs; done)
    | (simp only [IntKind.bits, Nat.reduceSub, Nat.reducePow] at h
       simp only [IntKind.wrap, IntKind.signed, IntKind.bits, Nat.reduceSub, Int.reducePow, Bool.true_and]
       split <;> (rename_i hc; simp at hc; omega))
theorem wrapU (k : IntKind) (n : Int) (hs : k.signed = false) (h : 0 ≤ n ∧ n < (2 ^ k.bits : Nat)) : k.wrap n = n := by
  cases k <;> first
    | (cases hs; done)
    | (simp only [IntKind.bits, Nat.reducePow] at h
       simp only [IntKind.wrap, IntKind.signed, IntKind.bits, if_false, Bool.false_eq_true, Nat.reduceSub, Int.reducePow, Bool.false_and]
       omega)
theorem inK_wrap (k : IntKind) (n : Int) (h : inK k n = true) : k.wrap n = n := by
 cases hs : k.signed with
 | true =>
  refine wrapS k n hs ?_
  cases n with
  | ofNat a =>
   simp only [inK, hs, cond_true] at h
   have h : a < 2 ^ (k.bits - 1) := by simpa [Nat.blt_eq] using h
   constructor <;> simp only [Int.ofNat_eq_natCast] <;> omega
  | negSucc a =>
   simp only [inK, hs, Bool.true_and] at h
   have h : a < 2 ^ (k.bits - 1) := by simpa [Nat.blt_eq] using h
   constructor <;> omega
 | false =>
  refine wrapU k n hs ?_
  cases n with
  | ofNat a =>
   simp only [inK, hs, cond_false] at h
   have h : a < 2 ^ k.bits := by simpa [Nat.blt_eq] using h
   constructor <;> simp only [Int.ofNat_eq_natCast] <;> omega
  | negSucc a => simp [inK, hs] at h
theorem wrp_eq (k : IntKind) (n : Int) : wrp k n = k.wrap n := by
 unfold wrp
 cases h : inK k n with
 | true => exact (inK_wrap k n h).symm
 | false => rfl
section
variable {P : Program} {α : At} {fr : Fr} {o : Oper} {σ σ' : St} {v : V} {x y z : Operand} {t u : TypeId}
theorem k_move (ho : o.op = .move x ∨ o.op = .assign x) (h : (opnd fr x).bind (fun v => Res.ok (σ, v)) = .ok (σ', v)) : OpOk P α fr o σ σ' v := by
 obtain ⟨v0, h1, h2⟩ := bind_ok h
 cases h2
 refine OpOk.pure fun μ w a hf => ⟨_, ?_, opnd_ok hf h1⟩
 rcases ho with ho | ho
 ·exact ex_move ho rfl
 exact ex_assign ho rfl
theorem conc_b {α : At} {μ : Mu} {b : Bool} {x : Value} (h : conc α μ (.b b) = some x) : x = .bool b := by simp only [conc, Option.some.injEq] at h; exact h.symm
theorem conc_i {α : At} {μ : Mu} {k : IntKind} {n : Int} {x : Value} (h : conc α μ (.i k n) = some x) : x = .int k n := by simp only [conc, Option.some.injEq] at h; exact h.symm
theorem conc_s {α : At} {μ : Mu} {ps : List Pc} {x : Value} (h : conc α μ (.s ps) = some x) : x = .string ⟨(bytesP α ps).toArray⟩ := by simp only [conc, Option.some.injEq] at h; exact h.symm
theorem conc_q {α : At} {μ : Mu} {k : IntKind} {c : Int} {us : List Nat} {x : Value} (h : conc α μ (.q k c us) = some x) : x = .int k (c + lenP α us) := by simp only [conc, Option.some.injEq] at h; exact h.symm
theorem mk_b {α : At} {μ : Mu} (b : Bool) : conc α μ (.b b) = some (.bool b) := by simp only [conc]
theorem mk_i {α : At} {μ : Mu} (k : IntKind) (n : Int) : conc α μ (.i k n) = some (.int k n) := by simp only [conc]
theorem mk_s {α : At} {μ : Mu} (ps : List Pc) : conc α μ (.s ps) = some (.string ⟨(bytesP α ps).toArray⟩) := by simp only [conc]
theorem k_pick {c a b : Operand} (ho : o.op = .pick c a b) {f : V → Res (St × V)} (hf' : ∀ t, f (.b t) = (opnd fr (cond t a b)).bind (fun v => Res.ok (σ, v))) (hn : ∀ v r, (∀ t, v ≠ .b t) → f v ≠ .ok r) (h : (opnd fr c).bind f = .ok (σ', v)) : OpOk P α fr o σ σ' v := by
 obtain ⟨v0, h1, h2⟩ := bind_ok h
 by_cases hb : ∃ t, v0 = .b t
 ·obtain ⟨t, rfl⟩ := hb
  rw [hf'] at h2
  obtain ⟨v1, h3, h4⟩ := bind_ok h2
  cases h4
  refine OpOk.pure fun μ w a' hf => ⟨_, ex_pick ho (conc_b (opnd_ok hf h1)) rfl, ?_⟩
  have := opnd_ok hf h3
  cases t <;> exact this
 exact absurd h2 (hn _ _ fun t e => hb ⟨t, e⟩)
theorem k_intBin {op : BinOp} {k k' : IntKind} {a b : Int} (ho : o.op = .binOp op t x y u) (hx : opnd fr x = .ok (.i k a)) (hy : opnd fr y = .ok (.i k' b)) (h : intBin σ op k a k' b = .ok (σ', v)) : OpOk P α fr o σ σ' v := by
 have main : ∀ (k' : IntKind), k = k' → (∀ μ (A : Act), FrA α μ fr A → A.eval y = .int k' b) → (op ≠ .shl ∧ op ≠ .shr) → ∀ v0, intOp op k a b = .ok v0 → OpOk P α fr o σ σ v0 := by
  rintro k' rfl hy' ⟨hn1, hn2⟩ v0 hi
  have hx' : ∀ μ (A : Act), FrA α μ fr A → A.eval x = .int k a := fun μ A hf => conc_i (opnd_ok hf hx)
  have cmp : ∀ {op' : BinOp} {c : Bool}, op = op' → cmpI op' a b = some c → v0 = .b c → (∀ (A : Act) (w : World), A.eval x = .int k a → A.eval y = .int k b → Ex P A o w (.bool c) w) → OpOk P α fr o σ σ v0 := by
   intro op' c _ _ e hh
   subst e
   exact OpOk.pure fun μ w A hf => ⟨_, hh A w (hx' μ A hf) (hy' μ A hf), mk_b _⟩
  have ar : ∀ {n : Int}, v0 = .i k n → (∀ (A : Act) (w : World), A.eval x = .int k a → A.eval y = .int k b → Ex P A o w (.int k n) w) → OpOk P α fr o σ σ v0 := by
   intro n e hh
   subst e
   exact OpOk.pure fun μ w A hf => ⟨_, hh A w (hx' μ A hf) (hy' μ A hf), mk_i _ _⟩
  have bt : ∀ {r m n : Nat} (_ : a = .ofNat m) (_ : b = .ofNat n) (_ : bits k r m n = .ok v0) (_ : op = .and ∨ op = .or ∨ op = .xor)
    (_ : m < 2 ^ k.bits → n < 2 ^ k.bits → ∀ w, (Op.intBits op k (.ofNat m) (.ofNat n)).run P w = .ok (.int k (k.wrap (r : Int))) w), OpOk P α fr o σ σ v0 := by
   intro r m n ea eb hb hop hr
   subst ea; subst eb
   unfold bits at hb
   obtain ⟨hb1, hb2⟩ := cond_ok hb
   cases hb2
   rw [Bool.and_eq_true] at hb1
   refine ar rfl fun A w h1 h2 => ?_
   refine ex_bits ho h1 h2 (by rcases hop with e | e | e <;> subst e <;> rfl) ?_
   rw [hr (by simpa [Nat.blt_eq] using hb1.1) (by simpa [Nat.blt_eq] using hb1.2) w, wrp_eq]
   rfl
  cases op with
  | add => cases hi; exact ar rfl fun A w h1 h2 => ex_add ho h1 h2 (wrp_eq _ _).symm
  | sub => cases hi; exact ar rfl fun A w h1 h2 => ex_sub ho h1 h2 (wrp_eq _ _).symm
  | mul => cases hi; exact ar rfl fun A w h1 h2 => ex_mul ho h1 h2 (wrp_eq _ _).symm
  | quo =>
   simp only [intOp, ieq_eq] at hi
   by_cases h0 : b = 0
   ·simp [h0] at hi
   simp [h0] at hi; exact ar hi.symm fun A w h1 h2 => ex_quo ho h1 h2 h0 (wrp_eq _ _).symm
  | rem =>
   simp only [intOp, ieq_eq] at hi
   by_cases h0 : b = 0
   ·simp [h0] at hi
   simp [h0] at hi; exact ar hi.symm fun A w h1 h2 => ex_rem ho h1 h2 h0 rfl
  | and =>
   simp only [intOp] at hi
   split at hi
   ·refine bt rfl rfl hi (.inl rfl) fun h1 h2 w => ?_
    simp only [Op.intBits, Sem.run_pure, BitVec.toNat_and]
    congr 3
    simp [BitVec.ofInt_natCast, Nat.mod_eq_of_lt h1, Nat.mod_eq_of_lt h2]
   cases hi
  | or =>
   simp only [intOp] at hi
   split at hi
   ·refine bt rfl rfl hi (.inr (.inl rfl)) fun h1 h2 w => ?_
    simp only [Op.intBits, Sem.run_pure, BitVec.toNat_or]
    congr 3
    simp [BitVec.ofInt_natCast, Nat.mod_eq_of_lt h1, Nat.mod_eq_of_lt h2]
   cases hi
  | xor =>
   simp only [intOp] at hi
   split at hi
   ·refine bt rfl rfl hi (.inr (.inr rfl)) fun h1 h2 w => ?_
    simp only [Op.intBits, Sem.run_pure, BitVec.toNat_xor]
    congr 3
    simp [BitVec.ofInt_natCast, Nat.mod_eq_of_lt h1, Nat.mod_eq_of_lt h2]
   cases hi
  | eql => simp only [intOp, cmpI] at hi; cases hi; exact cmp rfl rfl rfl fun A w h1 h2 => ex_eql ho h1 h2 (ieq_eq _ _).symm
  | neq => simp only [intOp, cmpI] at hi; cases hi; exact cmp rfl rfl rfl fun A w h1 h2 => ex_neq ho h1 h2 (by rw [ieq_eq]; simp)
  | lss => simp only [intOp, cmpI] at hi; cases hi; exact cmp rfl rfl rfl fun A w h1 h2 => ex_lss ho h1 h2 (ilt_eq _ _).symm
  | leq => simp only [intOp, cmpI] at hi; cases hi; exact cmp rfl rfl rfl fun A w h1 h2 => ex_leq ho h1 h2 (by rw [ilt_eq, ← decide_not]; congr 1; simp)
  | gtr => simp only [intOp, cmpI] at hi; cases hi; exact cmp rfl rfl rfl fun A w h1 h2 => ex_gtr ho h1 h2 (ilt_eq _ _).symm
  | geq => simp only [intOp, cmpI] at hi; cases hi; exact cmp rfl rfl rfl fun A w h1 h2 => ex_geq ho h1 h2 (by rw [ilt_eq, ← decide_not]; congr 1; simp)
  | shl => exact absurd rfl hn1
  | shr => exact absurd rfl hn2
  | andNot => simp [intOp, cmpI] at hi
 have rest : op ≠ .shl → op ≠ .shr → cond (beqK k k') ((intOp op k a b).bind fun v => .ok (σ, v)) (.no "binOp: kinds") = .ok (σ', v) → OpOk P α fr o σ σ' v := by
  intro e1 e2 h
  obtain ⟨h1, h2⟩ := cond_ok h
  obtain ⟨v0, h3, h4⟩ := bind_ok h2
  cases h4
  exact main k' (beqK_eq h1) (fun μ A hf => conc_i (opnd_ok hf hy)) ⟨e1, e2⟩ _ h3
 cases op with
 | shl =>
  cases b with
  | ofNat n => cases h; exact OpOk.pure fun μ w A hf => ⟨_, ex_shl ho (conc_i (opnd_ok hf hx)) (conc_i (opnd_ok hf hy)) (Int.natCast_nonneg _) (wrp_eq _ _).symm, mk_i _ _⟩
  | negSucc n => cases h
 | shr =>
  cases b with
  | ofNat n => cases h; exact OpOk.pure fun μ w A hf => ⟨_, ex_shr ho (conc_i (opnd_ok hf hx)) (conc_i (opnd_ok hf hy)) (Int.natCast_nonneg _) rfl, mk_i _ _⟩
  | negSucc n => cases h
 | _ => exact rest (by simp) (by simp) h
end
end Go.Eng
/- The evaluator's texts, beside the model's. -/
namespace Go.Eng
open Go Go.RowKit Go.Pm
structure AtOk (pr : Pr) (α : At) : Prop where
 len : ∀ j, (pr.bnd j).1 ≤ (α j).length ∧ (α j).length ≤ (pr.bnd j).2
 win : ∀ j n cs, pr.win j = some (n, cs) → α.wc j = cs ∧ cs.length ≤ (α.win j).2.2.1 ∧ (cs ≠ [] → α.spot j = none) ∧ ∀ μ, conc α μ n = some (.int .i64 (α.win j).2.2.1)
 glob : ∀ g n cs, pr.win (g + 1) = some (n, cs) → (α.win (g + 1)).1 = g ∧ (α.win (g + 1)).2.1 = 0
 fact : ∀ op a b r, pr.fact op a b = some r → ∀ (P : Program) (o : Oper) (A : Act) (w : World) (t x y u) (μ : Mu) (X Y : Value), o.op = .binOp op t x y u → conc α μ a = some X → conc α μ b = some Y → A.eval x = X → A.eval y = Y → ∃ Z, conc α μ r = some Z ∧ Ex P A o w Z w
theorem u8_ofNat_mod (n m : Nat) (h : n % 256 = m % 256) : UInt8.ofNat n = UInt8.ofNat m := by
 apply UInt8.toNat.inj
 simp [UInt8.toNat_ofNat', h]
theorem beOf_cat (n x : Nat) : ∀ (m r : Nat), r < 256 ^ m → beOf (n + m) (x * 256 ^ m + r) = beOf n x ++ beOf m r
 | 0, r, h => by
  have : r = 0 := by simpa using h
  subst this
  simp [beOf]
 | m + 1, r, h => by
  rw [← Nat.add_assoc, beOf_succ, beOf_succ, ← List.append_assoc]
  have e1 : (x * 256 ^ (m + 1) + r) / 256 = x * 256 ^ m + r / 256 := by
   rw [Nat.pow_succ, ← Nat.mul_assoc, Nat.add_comm, Nat.add_mul_div_right _ _ (by decide), Nat.add_comm]
  have e2 : (x * 256 ^ (m + 1) + r) % 256 = r % 256 := by
   rw [Nat.pow_succ, ← Nat.mul_assoc, Nat.add_comm, Nat.add_mul_mod_self_right]
  rw [e1, beOf_cat n x m (r / 256) (by rw [Nat.pow_succ] at h; omega), u8_ofNat_mod _ _ e2]
theorem beOf_mod : ∀ (m y : Nat), beOf m (y % 256 ^ m) = beOf m y
 | 0, y => by simp [beOf]
 | m + 1, y => by
  rw [beOf_succ, beOf_succ]
  have e1 : y % 256 ^ (m + 1) / 256 = (y / 256) % 256 ^ m := by
   rw [Nat.pow_succ, Nat.mul_comm, Nat.mod_mul_right_div_self]
  have e2 : y % 256 ^ (m + 1) % 256 = y % 256 := by
   rw [Nat.pow_succ, Nat.mod_mul_left_mod]
  rw [e1, beOf_mod m, u8_ofNat_mod _ _ e2]
theorem bytesP_cat (α : At) : ∀ (a b : List Pc), bytesP α (cat a b) = bytesP α a ++ bytesP α b
 | [], b => by simp [cat, bytesP]
 | [.l n x], [] => by simp [cat, bytesP]
 | [.l n x], .l m y :: r => by
  simp only [cat, bytesP, List.append_nil]
  rw [beOf_cat _ _ _ _ (Nat.mod_lt _ (Nat.pow_pos (by decide))), beOf_mod]
  simp [List.append_assoc]
 | [.l n x], .a j :: r => by simp [cat, bytesP]
 | .a j :: a, b => by simp [cat, bytesP, bytesP_cat α a b, List.append_assoc]
 | .l n x :: p :: a, b => by
  have := bytesP_cat α (p :: a) b
  simp only [cat, bytesP] at this ⊢
  rw [this]
  simp [List.append_assoc]
theorem lit?_ok {α : At} : ∀ {ps : List Pc} {n x : Nat}, lit? ps = some (n, x) → bytesP α ps = beOf n x
 | [], n, x, h => by simp only [lit?, Option.some.injEq, Prod.mk.injEq] at h; obtain ⟨rfl, rfl⟩ := h; simp [bytesP, beOf]
 | [.l m y], n, x, h => by simp only [lit?, Option.some.injEq, Prod.mk.injEq] at h; obtain ⟨rfl, rfl⟩ := h; simp [bytesP]
 | [.a j], n, x, h => by simp [lit?] at h
 | .l _ _ :: _ :: _, n, x, h => by simp [lit?] at h
 | .a _ :: _ :: _, n, x, h => by simp [lit?] at h
theorem beOf_inj {n x m y : Nat} (hx : x < 256 ^ n) (hy : y < 256 ^ m) : beOf n x = beOf m y ↔ n = m ∧ x = y := by
 constructor
 ·intro h
  have hl := congrArg List.length h
  rw [beOf_length, beOf_length] at hl
  subst hl
  have := congrArg numOf h
  rw [numOf_be _ _ hx, numOf_be _ _ hy] at this
  exact ⟨rfl, this⟩
 rintro ⟨rfl, rfl⟩; rfl
theorem samePs_ok {α : At} : ∀ {a b : List Pc}, samePs a b = true → bytesP α a = bytesP α b
 | [], [], _ => rfl
 | .l n x :: a, .l m y :: b, h => by
  simp only [samePs, Bool.and_eq_true, beq_of, decide_eq_true_eq] at h
  obtain ⟨⟨rfl, rfl⟩, h3⟩ := h
  simp only [bytesP, samePs_ok h3]
 | .a i :: a, .a j :: b, h => by
  simp only [samePs, Bool.and_eq_true, beq_of, decide_eq_true_eq] at h
  obtain ⟨rfl, h3⟩ := h
  simp only [bytesP, samePs_ok h3]
 | .l _ _ :: _, .a _ :: _, h => by simp [samePs] at h
 | .a _ :: _, .l _ _ :: _, h => by simp [samePs] at h
 | [], _ :: _, h => by simp [samePs] at h
 | .l _ _ :: _, [], h => by simp [samePs] at h
 | .a _ :: _, [], h => by simp [samePs] at h
theorem eqS_ok {α : At} {a b : List Pc} {c : Bool} (h : eqS a b = some c) : decide (bytesP α a = bytesP α b) = c := by
 unfold eqS at h
 split at h
 ·rename_i n x m y ha hb
  cases hc : (Nat.blt x (256 ^ n) && Nat.blt y (256 ^ m)) with
  | false => rw [hc] at h; cases h
  | true =>
   rw [hc] at h
   simp only [cond_true, Option.some.injEq] at h
   subst h
   rw [Bool.and_eq_true] at hc
   rw [lit?_ok ha, lit?_ok hb, decide_eq_decide.2 (beOf_inj (by simpa [Nat.blt_eq] using hc.1) (by simpa [Nat.blt_eq] using hc.2)), beq_of, beq_of, Bool.decide_and]
 cases hs : samePs a b with
 | false => rw [hs] at h; cases h
 | true =>
  rw [hs] at h
  simp only [cond_true, Option.some.injEq] at h
  subst h
  simp [samePs_ok hs]
-- digits
theorem digs_acc : ∀ (n x : Nat) (acc : List Nat), digs n x acc = digs n x [] ++ acc
 | 0, x, acc => by simp [digs]
 | n + 1, x, acc => by
  simp only [digs]
  rw [digs_acc n (x / 256) (x % 256 :: acc), digs_acc n (x / 256) [x % 256]]
  simp
theorem digs_be : ∀ (n x : Nat), (digs n x []).map UInt8.ofNat = beOf n x
 | 0, x => by simp [digs, beOf]
 | n + 1, x => by
  simp only [digs]
  rw [digs_acc, List.map_append, digs_be n (x / 256), beOf_succ]
  congr 1
  simp only [List.map_cons, List.map_nil]
  rw [u8_ofNat_mod _ _ (Nat.mod_mod _ _)]
theorem digs_lt : ∀ (n x : Nat), ∀ d ∈ digs n x [], d < 256
 | 0, x => by simp [digs]
 | n + 1, x => by
  simp only [digs]
  rw [digs_acc]
  intro d hd
  simp only [List.mem_append, List.mem_singleton] at hd
  rcases hd with hd | rfl
  ·exact digs_lt n _ d hd
  exact Nat.mod_lt _ (by decide)
theorem digs_length (n x : Nat) : (digs n x []).length = n := by
 have := congrArg List.length (digs_be n x)
 rwa [List.length_map, beOf_length] at this
theorem lessD_eq : ∀ (a b : List Nat), (∀ d ∈ a, d < 256) → (∀ d ∈ b, d < 256) → lessD a b = Op.bytesLess (a.map UInt8.ofNat) (b.map UInt8.ofNat)
 | a, [], _, _ => by cases a <;> simp [lessD, Op.bytesLess]
 | [], b :: y, _, _ => by simp [lessD, Op.bytesLess]
 | a :: x, b :: y, ha, hb => by
  have h1 := ha a (by simp)
  have h2 := hb b (by simp)
  simp only [lessD, List.map_cons, Op.bytesLess]
  rw [lessD_eq x y (fun d hd => ha d (by simp [hd])) (fun d hd => hb d (by simp [hd]))]
  congr 1
  ·rw [Bool.eq_iff_iff]
   simp [Nat.blt_eq, UInt8.lt_iff_toNat_lt, UInt8.toNat_ofNat', Nat.mod_eq_of_lt h1, Nat.mod_eq_of_lt h2]
  congr 1
  rw [beq_of, Bool.eq_iff_iff]
  simp only [decide_eq_true_eq, beq_iff_eq]
  constructor
  ·rintro rfl; rfl
  intro e
  have := congrArg UInt8.toNat e
  simpa [UInt8.toNat_ofNat', Nat.mod_eq_of_lt h1, Nat.mod_eq_of_lt h2] using this
theorem ltS_ok {α : At} {a b : List Pc} {c : Bool} (h : ltS a b = some c) : Op.bytesLess (bytesP α a) (bytesP α b) = c := by
 unfold ltS at h
 split at h
 ·rename_i n x m y ha hb
  cases h
  rw [lit?_ok ha, lit?_ok hb, ← digs_be, ← digs_be, lessD_eq _ _ (digs_lt _ _) (digs_lt _ _)]
 cases h
theorem numD_eq : ∀ (l : List Nat) (x : Nat), (∀ d ∈ l, d < 256) → numD l x = (l.map UInt8.ofNat).foldl (fun n c => n * 256 + c.toNat) x
 | [], x, _ => rfl
 | c :: r, x, h => by
  have h1 := h c (by simp)
  simp only [numD, List.map_cons, List.foldl_cons]
  rw [numD_eq r _ (fun d hd => h d (by simp [hd]))]
  simp [UInt8.toNat_ofNat', Nat.mod_eq_of_lt h1]
theorem numD_num (l : List Nat) (h : ∀ d ∈ l, d < 256) : numD l 0 = numOf (l.map UInt8.ofNat) := numD_eq l 0 h
-- lengths
theorem lenS_ok (α : At) : ∀ (ps : List Pc), (((bytesP α ps).length : Nat) : Int) = ((lenS ps).1 : Int) + lenP α (lenS ps).2
 | [] => by simp [bytesP, lenS, lenP]
 | .l n x :: r => by
  have := lenS_ok α r
  simp only [bytesP, lenS, List.length_append, beOf_length]
  omega
 | .a j :: r => by
  have := lenS_ok α r
  simp only [bytesP, lenS, List.length_append, lenP]
  omega
theorem lenP_le {pr : Pr} {α : At} (hα : AtOk pr α) : ∀ (us : List Nat), (sumLo pr us : Int) ≤ lenP α us ∧ lenP α us ≤ (sumHi pr us : Int)
 | [] => by simp [lenP, sumLo, sumHi]
 | j :: r => by
  have := lenP_le hα r
  have := hα.len j
  simp only [lenP, sumLo, sumHi]
  omega
theorem lenV_ok {α : At} {μ : Mu} (ps : List Pc) : conc α μ (lenV ps) = some (.int .i64 (bytesP α ps).length) := by
 have := lenS_ok α ps
 unfold lenV
 split
 ·rename_i c h
  rw [h] at this
  simp only [lenP] at this
  rw [mk_i]
  congr 2
  simp only [Int.ofNat_eq_natCast]
  omega
 rename_i c us _ h
 rw [h] at this
 simp only [conc]
 congr 2
 simp only [Int.ofNat_eq_natCast] at this ⊢
 omega
section
variable {P : Program} {α : At} {fr : Fr} {o : Oper} {σ σ' : St} {v : V} {x y z : Operand} {t u : TypeId}
theorem ba_append (s s' : List UInt8) : (⟨s.toArray⟩ ++ ⟨s'.toArray⟩ : ByteArray) = ⟨(s ++ s').toArray⟩ := by
 apply ByteArray.ext
 simp
theorem ba_list (s : List UInt8) : (⟨s.toArray⟩ : ByteArray).toList = s := by
 simp
theorem beq_dec (p q : List UInt8) : (p == q) = decide (p = q) := by rw [Bool.eq_iff_iff]; simp
theorem k_str {pr : Pr} (hα : AtOk pr α) {op : BinOp} {a b : List Pc} (ho : o.op = .binOp op t x y u) (hx : opnd fr x = .ok (.s a)) (hy : opnd fr y = .ok (.s b)) (h : strOp pr op a b = .ok v) : OpOk P α fr o σ σ v := by
 have run : ∀ (A : Act) (w : World) (r : Value), A.eval x = .string ⟨(bytesP α a).toArray⟩ → A.eval y = .string ⟨(bytesP α b).toArray⟩ → (Op.stringOp op ⟨(bytesP α a).toArray⟩ ⟨(bytesP α b).toArray⟩).run P w = .ok r w → Ex P A o w r w := by
  intro A w r h1 h2 h3
  have hg : (eqGuard op t x y (.string ⟨(bytesP α a).toArray⟩) (.string ⟨(bytesP α b).toArray⟩)).run P w = .ok () w := by
   unfold eqGuard; cases op <;> simp
  have hb : Go.binOp op t (.string ⟨(bytesP α a).toArray⟩) (.string ⟨(bytesP α b).toArray⟩) = Op.stringOp op ⟨(bytesP α a).toArray⟩ ⟨(bytesP α b).toArray⟩ := by
   cases op <;> rfl
  unfold Ex
  simp [execOp, ho, h1, h2, hg, hb, h3]
 have fin : ∀ (r : Value), (∀ μ, conc α μ v = some r) → (∀ w, (Op.stringOp op ⟨(bytesP α a).toArray⟩ ⟨(bytesP α b).toArray⟩).run P w = .ok r w) → OpOk P α fr o σ σ v := by
  intro r h1 h2
  exact OpOk.pure fun μ w A hf => ⟨r, run A w r (conc_s (opnd_ok hf hx)) (conc_s (opnd_ok hf hy)) (h2 w), h1 μ⟩
 have le : ∀ (p q : List UInt8), (Op.bytesLess p q || decide (p = q)) = !Op.bytesLess q p := by
  intro p
  induction p with
  | nil => intro q; cases q <;> simp [Op.bytesLess]
  | cons c p ih =>
   intro q
   cases q with
   | nil => simp [Op.bytesLess]
   | cons d q =>
    simp only [Op.bytesLess]
    rcases Nat.lt_trichotomy c.toNat d.toNat with hlt | heq | hgt
    ·have h1 : decide (c < d) = true := by simpa [UInt8.lt_iff_toNat_lt] using hlt
     have h2 : decide (d < c) = false := by simp [UInt8.lt_iff_toNat_lt]; omega
     have h3 : (d == c) = false := by simp; intro e; subst e; omega
     simp [h1, h2, h3]
    ·have e : c = d := UInt8.toNat.inj heq
     subst e
     have h1 : decide (c < c) = false := by simp
     simp [ih q]
    have h1 : decide (c < d) = false := by simp [UInt8.lt_iff_toNat_lt]; omega
    have h2 : decide (d < c) = true := by simpa [UInt8.lt_iff_toNat_lt] using hgt
    have h3 : (c == d) = false := by simp; intro e; subst e; omega
    have h4 : c ≠ d := by intro e; subst e; omega
    simp [h1, h2, h3, h4]
 unfold strOp at h
 cases op with
 | add =>
  obtain ⟨h1, h2⟩ := cond_ok h
  cases h2
  refine fin (.string ⟨(bytesP α a ++ bytesP α b).toArray⟩) (fun μ => by rw [mk_s, bytesP_cat]) fun w => ?_
  have e1 := lenS_ok α a
  have e2 := lenS_ok α b
  have l1 := lenP_le hα (lenS a).2
  have l2 := lenP_le hα (lenS b).2
  have h1 := Nat.le_of_ble_eq_true h1
  have sz : ∀ s : List UInt8, (⟨s.toArray⟩ : ByteArray).size = s.length := fun s => rfl
  have hm : ¬ ((((bytesP α a).length + (bytesP α b).length : Nat) : Int) > IntKind.i64.max) := by
   have : IntKind.i64.max = 9223372036854775807 := by decide
   rw [this]
   omega
  simp only [Op.stringOp, sz, hm, if_false, ba_append]
  rfl
 | eql =>
  cases hc : eqS a b with
  | none => rw [hc] at h; cases h
  | some c =>
   rw [hc] at h
   cases h
   refine fin (.bool c) (fun μ => mk_b c) fun w => ?_
   rw [← eqS_ok (α := α) hc]
   simp only [Op.stringOp, ba_list, beq_dec]
   rfl
 | neq =>
  cases hc : eqS a b with
  | none => rw [hc] at h; cases h
  | some c =>
   rw [hc] at h
   cases h
   refine fin (.bool (!c)) (fun μ => mk_b _) fun w => ?_
   rw [← eqS_ok (α := α) hc]
   simp only [Op.stringOp, ba_list, beq_dec]
   rfl
 | lss =>
  cases hc : ltS a b with
  | none => simp only [hc] at h; cases h
  | some c =>
   simp only [hc] at h
   cases h
   refine fin (.bool c) (fun μ => mk_b _) fun w => ?_
   simp only [Op.stringOp, ba_list, ltS_ok (α := α) hc]
   rfl
 | geq =>
  cases hc : ltS a b with
  | none => simp only [hc] at h; cases h
  | some c =>
   simp only [hc] at h
   cases h
   refine fin (.bool (!c)) (fun μ => mk_b _) fun w => ?_
   simp only [Op.stringOp, ba_list, ltS_ok (α := α) hc]
   rfl
 | gtr =>
  cases hc : ltS b a with
  | none => simp only [hc] at h; cases h
  | some c =>
   simp only [hc] at h
   cases h
   refine fin (.bool c) (fun μ => mk_b _) fun w => ?_
   have := le (bytesP α a) (bytesP α b)
   rw [ltS_ok (α := α) hc] at this
   simp only [Op.stringOp, ba_list]
   have e : (bytesP α a == bytesP α b) = decide (bytesP α a = bytesP α b) := beq_dec _ _
   rw [e, this, Bool.not_not]
   rfl
 | leq =>
  cases hc : ltS b a with
  | none => simp only [hc] at h; cases h
  | some c =>
   simp only [hc] at h
   cases h
   refine fin (.bool (!c)) (fun μ => mk_b _) fun w => ?_
   have := le (bytesP α a) (bytesP α b)
   rw [ltS_ok (α := α) hc] at this
   simp only [Op.stringOp, ba_list]
   have e : (bytesP α a == bytesP α b) = decide (bytesP α a = bytesP α b) := beq_dec _ _
   rw [e, this]
   rfl
 | _ => cases h
theorem k_q {pr : Pr} (hα : AtOk pr α) {op : BinOp} {k k' : IntKind} {c b : Int} {us : List Nat} (ho : o.op = .binOp op t x y u) (hx : opnd fr x = .ok (.q k c us)) (hy : opnd fr y = .ok (.i k' b)) (h : qBin pr σ op k c us k' b = .ok (σ', v)) : OpOk P α fr o σ σ' v := by
 unfold qBin at h
 obtain ⟨h1, hq⟩ := cond_ok h
 clear h
 obtain rfl := beqK_eq h1
 have hx' : ∀ μ (A : Act), FrA α μ fr A → A.eval x = .int k (c + lenP α us) := fun μ A hf => conc_q (opnd_ok hf hx)
 have hy' : ∀ μ (A : Act), FrA α μ fr A → A.eval y = .int k b := fun μ A hf => conc_i (opnd_ok hf hy)
 have hl := lenP_le hα us
 have cmp : ∀ {r : Bool}, v = .b r → σ' = σ → (∀ (A : Act) (w : World), A.eval x = .int k (c + lenP α us) → A.eval y = .int k b → Ex P A o w (.bool r) w) → OpOk P α fr o σ σ' v := by
  rintro r rfl rfl hh
  exact OpOk.pure fun μ w A hf => ⟨_, hh A w (hx' μ A hf) (hy' μ A hf), mk_b _⟩
 have tool : ∀ (r : Bool), cmpQ op (c + .ofNat (sumLo pr us)) (c + .ofNat (sumHi pr us)) b = some r → (match cmpQ op (c + .ofNat (sumLo pr us)) (c + .ofNat (sumHi pr us)) b with | some r => Res.ok (σ, V.b r) | none => .no "q ?") = .ok (σ', v) → v = .b r ∧ σ' = σ := by
  intro r hr hh
  rw [hr] at hh
  cases hh
  exact ⟨rfl, rfl⟩
 have some' : (match cmpQ op (c + .ofNat (sumLo pr us)) (c + .ofNat (sumHi pr us)) b with | some r => Res.ok (σ, V.b r) | none => .no "q ?") = .ok (σ', v) → ∃ r, cmpQ op (c + .ofNat (sumLo pr us)) (c + .ofNat (sumHi pr us)) b = some r := by
  intro hh
  cases hr : cmpQ op (c + .ofNat (sumLo pr us)) (c + .ofNat (sumHi pr us)) b with
  | none => rw [hr] at hh; cases hh
  | some r => exact ⟨r, rfl⟩
 cases op with
 | add =>
  obtain ⟨h2, h3⟩ := cond_ok hq
  cases h3
  simp only [Bool.and_eq_true, ilt_eq, decide_eq_true_eq] at h2
  obtain ⟨⟨h2, h3⟩, h5⟩ := h2
  obtain rfl := beqK_eq h5
  simp only [Int.ofNat_eq_natCast] at h3
  refine OpOk.pure fun μ w A hf => ⟨_, ex_add ho (hx' μ A hf) (hy' μ A hf) (i64_in (by omega)), ?_⟩
  simp only [conc]
  congr 2
  omega
 | lss =>
  obtain ⟨r, hr⟩ := some' hq
  obtain ⟨e1, e2⟩ := tool r hr hq
  refine cmp e1 e2 fun A w a1 a2 => ex_lss ho a1 a2 ?_
  simp only [cmpQ, ilt_eq, Int.ofNat_eq_natCast] at hr
  by_cases q1 : c + sumHi pr us < b
  ·simp [q1] at hr; subst hr; simp; omega
  by_cases q2 : c + sumLo pr us < b
  ·simp [q1, q2] at hr
  simp [q1, q2] at hr; subst hr; simp; omega
 | geq =>
  obtain ⟨r, hr⟩ := some' hq
  obtain ⟨e1, e2⟩ := tool r hr hq
  refine cmp e1 e2 fun A w a1 a2 => ex_geq ho a1 a2 ?_
  simp only [cmpQ, ilt_eq, Int.ofNat_eq_natCast] at hr
  by_cases q1 : c + sumHi pr us < b
  ·simp [q1] at hr; subst hr; simp; omega
  by_cases q2 : c + sumLo pr us < b
  ·simp [q1, q2] at hr
  simp [q1, q2] at hr; subst hr; simp; omega
 | gtr =>
  obtain ⟨r, hr⟩ := some' hq
  obtain ⟨e1, e2⟩ := tool r hr hq
  refine cmp e1 e2 fun A w a1 a2 => ex_gtr ho a1 a2 ?_
  simp only [cmpQ, ilt_eq, Int.ofNat_eq_natCast] at hr
  by_cases q1 : b < c + sumLo pr us
  ·simp [q1] at hr; subst hr; simp; omega
  by_cases q2 : b < c + sumHi pr us
  ·simp [q1, q2] at hr
  simp [q1, q2] at hr; subst hr; simp; omega
 | leq =>
  obtain ⟨r, hr⟩ := some' hq
  obtain ⟨e1, e2⟩ := tool r hr hq
  refine cmp e1 e2 fun A w a1 a2 => ex_leq ho a1 a2 ?_
  simp only [cmpQ, ilt_eq, Int.ofNat_eq_natCast] at hr
  by_cases q1 : b < c + sumLo pr us
  ·simp [q1] at hr; subst hr; simp; omega
  by_cases q2 : b < c + sumHi pr us
  ·simp [q1, q2] at hr
  simp [q1, q2] at hr; subst hr; simp; omega
 | eql =>
  obtain ⟨r, hr⟩ := some' hq
  obtain ⟨e1, e2⟩ := tool r hr hq
  refine cmp e1 e2 fun A w a1 a2 => ex_eql ho a1 a2 ?_
  simp only [cmpQ, ilt_eq, Int.ofNat_eq_natCast, ← Bool.decide_or] at hr
  by_cases q1 : b < c + sumLo pr us ∨ c + sumHi pr us < b
  ·simp [q1] at hr; subst hr; simp; omega
  simp [q1] at hr
 | neq =>
  obtain ⟨r, hr⟩ := some' hq
  obtain ⟨e1, e2⟩ := tool r hr hq
  refine cmp e1 e2 fun A w a1 a2 => ex_neq ho a1 a2 ?_
  simp only [cmpQ, ilt_eq, Int.ofNat_eq_natCast, ← Bool.decide_or] at hr
  by_cases q1 : b < c + sumLo pr us ∨ c + sumHi pr us < b
  ·simp [q1] at hr; subst hr; simp; omega
  simp [q1] at hr
 | _ => obtain ⟨r, hr⟩ := some' hq; simp [cmpQ] at hr
theorem k_iq {pr : Pr} (hα : AtOk pr α) {op : BinOp} {k k' : IntKind} {c b : Int} {us : List Nat} (ho : o.op = .binOp op t x y u) (hx : opnd fr x = .ok (.i k b)) (hy : opnd fr y = .ok (.q k' c us)) (h : iqBin pr σ op k b k' c us = .ok (σ', v)) : OpOk P α fr o σ σ' v := by
 unfold iqBin at h
 obtain ⟨h1, hq⟩ := cond_ok h
 clear h
 obtain rfl := beqK_eq h1
 have hx' : ∀ μ (A : Act), FrA α μ fr A → A.eval x = .int k b := fun μ A hf => conc_i (opnd_ok hf hx)
 have hy' : ∀ μ (A : Act), FrA α μ fr A → A.eval y = .int k (c + lenP α us) := fun μ A hf => conc_q (opnd_ok hf hy)
 have hl := lenP_le hα us
 by_cases hadd : op = .add
 ·subst hadd
  obtain ⟨h2, h3⟩ := cond_ok hq
  cases h3
  simp only [Bool.and_eq_true, ilt_eq, decide_eq_true_eq] at h2
  obtain ⟨⟨h2, h3⟩, h5⟩ := h2
  obtain rfl := beqK_eq h5
  simp only [Int.ofNat_eq_natCast] at h3
  refine OpOk.pure fun μ w A hf => ⟨_, ex_add ho (hx' μ A hf) (hy' μ A hf) (i64_in (by omega)), ?_⟩
  simp only [conc]
  congr 2
  omega
 cases hf : flipB op with
 | none => cases op <;> first | exact absurd rfl hadd | (simp only [hf] at hq; cases hq) | cases hf
 | some op' =>
  replace hq : (match cmpQ op' (c + .ofNat (sumLo pr us)) (c + .ofNat (sumHi pr us)) b with
   | some r => Res.ok (σ, V.b r)
   | none => .no "q ?") = .ok (σ', v) := by
   cases op <;> first | exact absurd rfl hadd | (simp only [hf] at hq; exact hq)
  cases hr : cmpQ op' (c + .ofNat (sumLo pr us)) (c + .ofNat (sumHi pr us)) b with
  | none => rw [hr] at hq; cases hq
  | some r =>
   rw [hr] at hq
   cases hq
   have cmp : (∀ (A : Act) (w : World), A.eval x = .int k b → A.eval y = .int k (c + lenP α us) → Ex P A o w (.bool r) w) → OpOk P α fr o σ σ (.b r) := fun hh =>
    OpOk.pure fun μ w A hf => ⟨_, hh A w (hx' μ A hf) (hy' μ A hf), mk_b _⟩
   cases op with
   | lss =>
    cases hf
    refine cmp fun A w a1 a2 => ex_lss ho a1 a2 ?_
    simp only [cmpQ, ilt_eq, Int.ofNat_eq_natCast] at hr
    by_cases q1 : b < c + sumLo pr us
    ·simp [q1] at hr; subst hr; simp; omega
    by_cases q2 : b < c + sumHi pr us
    ·simp [q1, q2] at hr
    simp [q1, q2] at hr; subst hr; simp; omega
   | gtr =>
    cases hf
    refine cmp fun A w a1 a2 => ex_gtr ho a1 a2 ?_
    simp only [cmpQ, ilt_eq, Int.ofNat_eq_natCast] at hr
    by_cases q1 : c + sumHi pr us < b
    ·simp [q1] at hr; subst hr; simp; omega
    by_cases q2 : c + sumLo pr us < b
    ·simp [q1, q2] at hr
    simp [q1, q2] at hr; subst hr; simp; omega
   | leq =>
    cases hf
    refine cmp fun A w a1 a2 => ex_leq ho a1 a2 ?_
    simp only [cmpQ, ilt_eq, Int.ofNat_eq_natCast] at hr
    by_cases q1 : c + sumHi pr us < b
    ·simp [q1] at hr; subst hr; simp; omega
    by_cases q2 : c + sumLo pr us < b
    ·simp [q1, q2] at hr
    simp [q1, q2] at hr; subst hr; simp; omega
   | geq =>
    cases hf
    refine cmp fun A w a1 a2 => ex_geq ho a1 a2 ?_
    simp only [cmpQ, ilt_eq, Int.ofNat_eq_natCast] at hr
    by_cases q1 : b < c + sumLo pr us
    ·simp [q1] at hr; subst hr; simp; omega
    by_cases q2 : b < c + sumHi pr us
    ·simp [q1, q2] at hr
    simp [q1, q2] at hr; subst hr; simp; omega
   | eql =>
    cases hf
    refine cmp fun A w a1 a2 => ex_eql ho a1 a2 ?_
    simp only [cmpQ, ilt_eq, Int.ofNat_eq_natCast, ← Bool.decide_or] at hr
    by_cases q1 : b < c + sumLo pr us ∨ c + sumHi pr us < b
    ·simp [q1] at hr; subst hr; simp; omega
    simp [q1] at hr
   | neq =>
    cases hf
    refine cmp fun A w a1 a2 => ex_neq ho a1 a2 ?_
    simp only [cmpQ, ilt_eq, Int.ofNat_eq_natCast, ← Bool.decide_or] at hr
    by_cases q1 : b < c + sumLo pr us ∨ c + sumHi pr us < b
    ·simp [q1] at hr; subst hr; simp; omega
    simp [q1] at hr
   | _ => cases hf
end
end Go.Eng
/- The evaluator's comparisons, parts and other operations that change nothing, beside the model's. -/
namespace Go.Eng
open Go Go.RowKit Go.Pm
theorem conc_p0 {α : At} {μ : Mu} {x : Value} (h : conc α μ (.p none) = some x) : x = .pointer none := by simp only [conc, Option.some.injEq] at h; exact h.symm
theorem conc_p {α : At} {μ : Mu} {k o : Nat} {x : Value} (h : conc α μ (.p (some (k, o))) = some x) : ∃ b cap, μ k = some (b, cap) ∧ x = .pointer (some ⟨b, o, none⟩) := by
 simp only [conc, Option.map_eq_some_iff] at h
 obtain ⟨⟨b, cap⟩, h1, h2⟩ := h
 exact ⟨b, cap, h1, h2.symm⟩
theorem mk_p {α : At} {μ : Mu} {k o b cap : Nat} (h : μ k = some (b, cap)) : conc α μ (.p (some (k, o))) = some (.pointer (some ⟨b, o, none⟩)) := by simp only [conc, h, Option.map_some]
theorem conc_sl {α : At} {μ : Mu} {a : Option (Nat × Nat)} {n : Nat} {cp : Cp} {x : Value} (h : conc α μ (.sl a n cp) = some x) :
  (a = none ∧ n = 0 ∧ cp = .k 0 ∧ x = .slice none 0 0) ∨ ∃ k o b cap, a = some (k, o) ∧ μ k = some (b, cap) ∧ ((∃ c, cp = .k c ∧ x = .slice (some ⟨b, o, none⟩) n c) ∨ (∃ e, cp = .u e ∧ x = .slice (some ⟨b, o, none⟩) n (cap - e))) := by
 rcases a with _ | ⟨k, o⟩
 ·left
  simp only [conc] at h
  split at h
  ·cases h; exact ⟨rfl, rfl, rfl, rfl⟩
  cases h
 right
 cases cp with
 | k c =>
  simp only [conc, Option.map_eq_some_iff] at h
  obtain ⟨⟨b, cap⟩, h1, h2⟩ := h
  exact ⟨k, o, b, cap, rfl, h1, .inl ⟨c, rfl, h2.symm⟩⟩
 | u e =>
  simp only [conc, Option.map_eq_some_iff] at h
  obtain ⟨⟨b, cap⟩, h1, h2⟩ := h
  exact ⟨k, o, b, cap, rfl, h1, .inr ⟨e, rfl, h2.symm⟩⟩
theorem conc_m {α : At} {μ : Mu} {a : Option Nat} {x : Value} (h : conc α μ (.m a) = some x) : (a = none ∧ x = .map none) ∨ ∃ k b cap, a = some k ∧ μ k = some (b, cap) ∧ x = .map (some b) := by
 cases a with
 | none => left; simp only [conc, Option.some.injEq] at h; exact ⟨rfl, h.symm⟩
 | some k =>
  right
  simp only [conc, Option.map_eq_some_iff] at h
  obtain ⟨⟨b, cap⟩, h1, h2⟩ := h
  exact ⟨k, b, cap, rfl, h1, h2.symm⟩
theorem conc_f {α : At} {μ : Mu} {fn : Fn} {a b : List V} {x : Value} (h : conc α μ (.f fn a b) = some x) : ∃ fn' xs ys, concFn μ fn = some fn' ∧ concL α μ a = some xs ∧ concL α μ b = some ys ∧ x = .func fn' xs.toArray ys.toArray := by
 simp only [conc] at h
 split at h
 ·rename_i f' a' b' h1 h2 h3
  cases h
  exact ⟨f', a', b', h1, h2, h3, rfl⟩
 cases h
theorem conc_t {α : At} {μ : Mu} {ty : TypeId} {v : V} {x : Value} (h : conc α μ (.t ty v) = some x) : ∃ y, conc α μ v = some y ∧ x = .iface ty y := by
 simp only [conc, Option.map_eq_some_iff] at h
 obtain ⟨y, h1, h2⟩ := h
 exact ⟨y, h1, h2.symm⟩
theorem conc_g {α : At} {μ : Mu} {cs : List V} {x : Value} (h : conc α μ (.g cs) = some x) : ∃ l, concL α μ cs = some l ∧ x = .agg l.toArray := by
 simp only [conc, Option.map_eq_some_iff] at h
 obtain ⟨y, h1, h2⟩ := h
 exact ⟨y, h1, h2.symm⟩
theorem conc_u {α : At} {μ : Mu} {cs : List V} {x : Value} (h : conc α μ (.u cs) = some x) : ∃ l, concL α μ cs = some l ∧ x = .tuple l.toArray := by
 simp only [conc, Option.map_eq_some_iff] at h
 obtain ⟨y, h1, h2⟩ := h
 exact ⟨y, h1, h2.symm⟩
theorem conc_nf {α : At} {μ : Mu} {x : Value} (h : conc α μ .nf = some x) : x = .nilFunc := by simp only [conc, Option.some.injEq] at h; exact h.symm
theorem conc_ni {α : At} {μ : Mu} {x : Value} (h : conc α μ .ni = some x) : x = .nilIface := by simp only [conc, Option.some.injEq] at h; exact h.symm
structure EqRun (P : Program) (t : TypeId) (xo yo : Operand) (X Y : Value) (c : Bool) (w : World) : Prop where
 guard : ∀ op, (eqGuard op t xo yo X Y).run P w = .ok () w
 eql : (Go.binOp .eql t X Y).run P w = .ok (.bool c) w
 neq : (Go.binOp .neq t X Y).run P w = .ok (.bool (!c)) w
section
variable {P : Program} {α : At} {μ : Mu} {C : Nat → O} {fr : Fr} {o : Oper} {σ σ' : St} {w : World} {v : V} {x y z : Operand} {t u : TypeId} {M : Nat → Prop} {N : Nat}
theorem eqRun_mk {X Y : Value} {c : Bool} (hg : ∀ op, (eqGuard op t x y X Y).run P w = .ok () w) (h1 : ∀ (f : Bool → Bool) op, (op = .eql ∧ f = id ∨ op = .neq ∧ f = (!·)) → Go.binOp op t X Y = (do let r ← Op.equal t X Y; pure (.bool (f r)))) (he : (Op.equal t X Y).run P w = .ok c w) : EqRun P t x y X Y c w := by
 refine ⟨hg, ?_, ?_⟩
 ·rw [h1 id .eql (.inl ⟨rfl, rfl⟩)]; simp [he]
 rw [h1 (!·) .neq (.inr ⟨rfl, rfl⟩)]; simp [he]
theorem equal_of (d : TypeDesc) (X Y : Value) (c : Bool) (_ : P.underlying t = some d) (h : ∀ n, (Op.equalIn (n + 1) t X Y).run P w = .ok c w) : (Op.equal t X Y).run P w = .ok c w := h 9999
theorem frozen_no {b i : Nat} {arr : Array Value} {ty : TypeId} (h : w.heap[b]? = some (.cells arr ty (0, 0))) : w.frozen? ⟨b, i, none⟩ = false := by simp [World.frozen?, h]
set_option maxHeartbeats 2000000 in
theorem eqV_ok {pr : Pr} (hp : PrOk pr P) {a b : V} {c : Bool} (h : eqV pr σ t x y a b = .ok (σ', c)) : Rd σ σ' ∧
  (Pre P α μ C σ w M N → Sub σ' M → ∀ X Y, conc α μ a = some X → conc α μ b = some Y → EqRun P t x y X Y c w) := by
 obtain ⟨i, hi, hb⟩ := bind_ok h
 clear h
 have hT := ti_ok hp hi
 split at hb <;> try (cases hb; done)
 ·rename_i hd; cases hb
  refine ⟨Rd.refl _, fun _ _ X Y hX hY => ?_⟩
  rw [conc_b hX, conc_b hY]
  have hu := hT.und (by rw [hd]; simp); rw [hd] at hu
  exact eqRun_mk (fun op => by cases op <;> simp [eqGuard]) (by rintro f op (⟨rfl, rfl⟩ | ⟨rfl, rfl⟩) <;> rfl) (equal_of _ _ _ _ hu fun n => by simp [Op.equalIn, run_underlying hu])
 ·rename_i b' hd; cases hb
  refine ⟨Rd.refl _, fun _ _ X Y hX hY => ?_⟩
  have hu := hT.und (by rw [hd]; simp); rw [hd] at hu
  rw [conc_p0 hX]
  rcases b' with _ | ⟨k, o⟩
  ·rw [conc_p0 hY]
   exact eqRun_mk (fun op => by cases op <;> simp [eqGuard]) (by rintro f op (⟨rfl, rfl⟩ | ⟨rfl, rfl⟩) <;> rfl) (equal_of _ _ _ _ hu fun n => by simp [Op.equalIn, run_underlying hu])
  obtain ⟨b, cap, -, rfl⟩ := conc_p hY
  exact eqRun_mk (fun op => by cases op <;> simp [eqGuard]) (by rintro f op (⟨rfl, rfl⟩ | ⟨rfl, rfl⟩) <;> rfl) (equal_of _ _ _ _ hu fun n => by simp [Op.equalIn, run_underlying hu])
 ·rename_i hd; cases hb
  refine ⟨Rd.refl _, fun _ _ X Y hX hY => ?_⟩
  have hu := hT.und (by rw [hd]; simp); rw [hd] at hu
  rename_i q
  obtain ⟨b, cap, -, rfl⟩ := conc_p hX
  rw [conc_p0 hY]
  exact eqRun_mk (fun op => by cases op <;> simp [eqGuard]) (by rintro f op (⟨rfl, rfl⟩ | ⟨rfl, rfl⟩) <;> rfl) (equal_of _ _ _ _ hu fun n => by simp [Op.equalIn, run_underlying hu])
 ·rename_i e k o k' o' hd
  have hu := hT.und (by rw [hd]; simp); rw [hd] at hu
  obtain ⟨ie, hie, h⟩ := bind_ok hb
  clear hb
  have hE := ti_ok hp hie
  obtain ⟨inf, hinf, hsz, -⟩ := hE.info
  rw [beq_of] at h
  by_cases hz : ie.sz = 0
  ·simp [hz] at h
  simp only [hz, decide_false, cond_false, beq_of] at h
  have hso : ∀ w, (sizeOf e).run P w = .ok ie.sz w := fun w => Go.Pm.run_sizeOf (by rw [hinf]; simp [hsz]) w
  by_cases hk : k = k'
  ·simp only [hk, decide_true, cond_true] at h
   cases h
   refine ⟨Rd.refl _, fun _ _ X Y hX hY => ?_⟩
   obtain ⟨b, cap, h1, rfl⟩ := conc_p hX
   obtain ⟨b', cap', h2, rfl⟩ := conc_p hY
   subst hk
   rw [h1] at h2; cases h2
   refine eqRun_mk (fun op => by cases op <;> simp [eqGuard]) (by rintro f op (⟨rfl, rfl⟩ | ⟨rfl, rfl⟩) <;> rfl) (equal_of _ _ _ _ hu fun n => ?_)
   simp [Op.equalIn, run_underlying hu, hso, hz, sameAddr]
   rw [Bool.eq_iff_iff]; simp
  simp only [hk, decide_false, cond_false] at h
  split at h
  ·rename_i L1 t1 g1 L2 t2 g2 ho1 ho2
   cases h
   refine ⟨(Rd.rd σ k).trans (Rd.rd _ k'), fun hpre hs X Y hX hY => ?_⟩
   obtain ⟨b, cap, h1, rfl⟩ := conc_p hX
   obtain ⟨b', cap', h2, rfl⟩ := conc_p hY
   have hk1 : M k := hs k (.inl (by show (Nat.lor (Nat.lor σ.r (2 ^ k)) (2 ^ k')).testBit k = true; rw [bit_lor, bit_lor]; simp))
   have hk2 : M k' := hs k' (.inl (by show (Nat.lor (Nat.lor σ.r (2 ^ k)) (2 ^ k')).testBit k' = true; rw [bit_lor]; simp))
   obtain ⟨b1, cap1, xs1, arr1, fz1, a1, a2, a3, a4, a5, a6, -⟩ := hpre.cells hk1 ho1
   obtain ⟨b2, cap2, xs2, arr2, fz2, c1, c2, c3, c4, c5, c6, -⟩ := hpre.cells hk2 ho2
   rw [a1] at h1; cases h1
   rw [c1] at h2; cases h2
   have hne : b ≠ b' := by
    intro e'; subst e'
    exact hk (hpre.sim.inj k k' b cap cap' (by rw [hpre.ag k hk1, ho1]; simp) (by rw [hpre.ag k' hk2, ho2]; simp) a1 c1)
   have z1 := a6 rfl; have z2 := c6 rfl
   subst z1; subst z2
   refine eqRun_mk (fun op => by cases op <;> simp [eqGuard]) (by rintro f op (⟨rfl, rfl⟩ | ⟨rfl, rfl⟩) <;> rfl) (equal_of _ _ _ _ hu fun n => ?_)
   have s1 : w.shape? b = some (t1, arr1.size) := by simp [World.shape?, a2]
   have s2 : w.shape? b' = some (t2, arr2.size) := by simp [World.shape?, c2]
   have f1 : ∀ i, w.frozen? ⟨b, i, none⟩ = false := fun i => frozen_no a2
   have f2 : ∀ i, w.frozen? ⟨b', i, none⟩ = false := fun i => frozen_no c2
   simp [Op.equalIn, run_underlying hu, hso, hz, sameAddr, hne, frozen, Sem.run, f1, f2, noView, viewAt, shape, s1, s2, mayBeOne, stringish]
  cases h
 ·rename_i hd; cases hb
  refine ⟨Rd.refl _, fun _ _ X Y hX hY => ?_⟩
  have hu := hT.und (by rw [hd]; simp); rw [hd] at hu
  rcases conc_sl hX with ⟨-, -, -, rfl⟩ | ⟨_, _, _, _, e, -⟩
  ·rcases conc_sl hY with ⟨rfl, -, -, rfl⟩ | ⟨k, o, b, cap, rfl, -, ⟨_, _, rfl⟩ | ⟨_, _, rfl⟩⟩
   ·exact eqRun_mk (fun op => by cases op <;> simp [eqGuard]) (by rintro f op (⟨rfl, rfl⟩ | ⟨rfl, rfl⟩) <;> rfl) (equal_of _ _ _ _ hu fun n => by simp [Op.equalIn, run_underlying hu])
   ·exact eqRun_mk (fun op => by cases op <;> simp [eqGuard]) (by rintro f op (⟨rfl, rfl⟩ | ⟨rfl, rfl⟩) <;> rfl) (equal_of _ _ _ _ hu fun n => by simp [Op.equalIn, run_underlying hu])
   exact eqRun_mk (fun op => by cases op <;> simp [eqGuard]) (by rintro f op (⟨rfl, rfl⟩ | ⟨rfl, rfl⟩) <;> rfl) (equal_of _ _ _ _ hu fun n => by simp [Op.equalIn, run_underlying hu])
  cases e
 ·rename_i hd; cases hb
  refine ⟨Rd.refl _, fun _ _ X Y hX hY => ?_⟩
  have hu := hT.und (by rw [hd]; simp); rw [hd] at hu
  rcases conc_sl hY with ⟨-, -, -, rfl⟩ | ⟨_, _, _, _, e, -⟩
  ·rcases conc_sl hX with ⟨e, -, -, rfl⟩ | ⟨k, o, b, cap, e, -, ⟨_, _, rfl⟩ | ⟨_, _, rfl⟩⟩
   ·cases e
   ·exact eqRun_mk (fun op => by cases op <;> simp [eqGuard]) (by rintro f op (⟨rfl, rfl⟩ | ⟨rfl, rfl⟩) <;> rfl) (equal_of _ _ _ _ hu fun n => by simp [Op.equalIn, run_underlying hu])
   exact eqRun_mk (fun op => by cases op <;> simp [eqGuard]) (by rintro f op (⟨rfl, rfl⟩ | ⟨rfl, rfl⟩) <;> rfl) (equal_of _ _ _ _ hu fun n => by simp [Op.equalIn, run_underlying hu])
  cases e
 ·rename_i hd; cases hb
  refine ⟨Rd.refl _, fun _ _ X Y hX hY => ?_⟩
  have hu := hT.und (by rw [hd]; simp); rw [hd] at hu
  rcases conc_sl hY with ⟨-, -, -, rfl⟩ | ⟨_, _, _, _, e, -⟩
  ·simp only [conc, Option.map_eq_some_iff] at hX
   obtain ⟨y, -, rfl⟩ := hX
   split
   ·exact eqRun_mk (fun op => by cases op <;> simp [eqGuard]) (by rintro f op (⟨rfl, rfl⟩ | ⟨rfl, rfl⟩) <;> rfl) (equal_of _ _ _ _ hu fun n => by simp [Op.equalIn, run_underlying hu])
   exact eqRun_mk (fun op => by cases op <;> simp [eqGuard]) (by rintro f op (⟨rfl, rfl⟩ | ⟨rfl, rfl⟩) <;> rfl) (equal_of _ _ _ _ hu fun n => by simp [Op.equalIn, run_underlying hu])
  cases e
 ·rename_i hd; cases hb
  refine ⟨Rd.refl _, fun _ _ X Y hX hY => ?_⟩
  have hu := hT.und (by rw [hd]; simp); rw [hd] at hu
  rcases conc_m hX with ⟨-, rfl⟩ | ⟨_, _, _, e, -⟩
  ·rcases conc_m hY with ⟨rfl, rfl⟩ | ⟨k, b, cap, rfl, -, rfl⟩
   ·exact eqRun_mk (fun op => by cases op <;> simp [eqGuard]) (by rintro f op (⟨rfl, rfl⟩ | ⟨rfl, rfl⟩) <;> rfl) (equal_of _ _ _ _ hu fun n => by simp [Op.equalIn, run_underlying hu])
   exact eqRun_mk (fun op => by cases op <;> simp [eqGuard]) (by rintro f op (⟨rfl, rfl⟩ | ⟨rfl, rfl⟩) <;> rfl) (equal_of _ _ _ _ hu fun n => by simp [Op.equalIn, run_underlying hu])
  cases e
 ·rename_i hd; cases hb
  refine ⟨Rd.refl _, fun _ _ X Y hX hY => ?_⟩
  have hu := hT.und (by rw [hd]; simp); rw [hd] at hu
  rcases conc_m hY with ⟨-, rfl⟩ | ⟨_, _, _, e, -⟩
  ·rcases conc_m hX with ⟨e, rfl⟩ | ⟨k, b, cap, e, -, rfl⟩
   ·cases e
   exact eqRun_mk (fun op => by cases op <;> simp [eqGuard]) (by rintro f op (⟨rfl, rfl⟩ | ⟨rfl, rfl⟩) <;> rfl) (equal_of _ _ _ _ hu fun n => by simp [Op.equalIn, run_underlying hu])
  cases e
 ·rename_i hd; cases hb
  refine ⟨Rd.refl _, fun _ _ X Y hX hY => ?_⟩
  have hu := hT.und (by rw [hd]; simp); rw [hd] at hu
  rw [conc_nf hX, conc_nf hY]
  exact eqRun_mk (fun op => by cases op <;> simp [eqGuard]) (by rintro f op (⟨rfl, rfl⟩ | ⟨rfl, rfl⟩) <;> rfl) (equal_of _ _ _ _ hu fun n => by simp [Op.equalIn, run_underlying hu])
 ·rename_i hd; cases hb
  refine ⟨Rd.refl _, fun _ _ X Y hX hY => ?_⟩
  have hu := hT.und (by rw [hd]; simp); rw [hd] at hu
  rw [conc_nf hX]
  obtain ⟨_, _, _, -, -, -, rfl⟩ := conc_f hY
  exact eqRun_mk (fun op => by cases op <;> simp [eqGuard]) (by rintro f op (⟨rfl, rfl⟩ | ⟨rfl, rfl⟩) <;> rfl) (equal_of _ _ _ _ hu fun n => by simp [Op.equalIn, run_underlying hu])
 ·rename_i hd; cases hb
  refine ⟨Rd.refl _, fun _ _ X Y hX hY => ?_⟩
  have hu := hT.und (by rw [hd]; simp); rw [hd] at hu
  rw [conc_nf hY]
  obtain ⟨_, _, _, -, -, -, rfl⟩ := conc_f hX
  exact eqRun_mk (fun op => by cases op <;> simp [eqGuard]) (by rintro f op (⟨rfl, rfl⟩ | ⟨rfl, rfl⟩) <;> rfl) (equal_of _ _ _ _ hu fun n => by simp [Op.equalIn, run_underlying hu])
 ·rename_i hd
  obtain ⟨hc, hb⟩ := cond_ok hb
  cases hb
  refine ⟨Rd.refl _, fun _ _ X Y hX hY => ?_⟩
  have hu := hT.und (by rw [hd]; simp); rw [hd] at hu
  rw [conc_ni hX, conc_ni hY]
  refine eqRun_mk (fun op => ?_) (by rintro f op (⟨rfl, rfl⟩ | ⟨rfl, rfl⟩) <;> rfl) (equal_of _ _ _ _ hu fun n => by simp [Op.equalIn, run_underlying hu])
  rw [Bool.or_eq_true] at hc
  rcases hc with hc | hc
  ·cases x <;> first | (cases hc; done) | (cases op <;> simp [eqGuard])
  cases y <;> first | (cases hc; done) | (cases op <;> simp [eqGuard])
 ·rename_i hd; cases hb
  refine ⟨Rd.refl _, fun _ _ X Y hX hY => ?_⟩
  have hu := hT.und (by rw [hd]; simp); rw [hd] at hu
  rw [conc_ni hX]
  obtain ⟨_, -, rfl⟩ := conc_t hY
  exact eqRun_mk (fun op => by cases op <;> simp [eqGuard]) (by rintro f op (⟨rfl, rfl⟩ | ⟨rfl, rfl⟩) <;> rfl) (equal_of _ _ _ _ hu fun n => by simp [Op.equalIn, run_underlying hu])
 rename_i hd; cases hb
 refine ⟨Rd.refl _, fun _ _ X Y hX hY => ?_⟩
 have hu := hT.und (by rw [hd]; simp); rw [hd] at hu
 rw [conc_ni hY]
 obtain ⟨_, -, rfl⟩ := conc_t hX
 exact eqRun_mk (fun op => by cases op <;> simp [eqGuard]) (by rintro f op (⟨rfl, rfl⟩ | ⟨rfl, rfl⟩) <;> rfl) (equal_of _ _ _ _ hu fun n => by simp [Op.equalIn, run_underlying hu])
end
end Go.Eng
/- The evaluator's parts, addresses and lengths, beside the model's. -/
namespace Go.Eng
open Go Go.RowKit Go.Pm
section
variable {P : Program} {α : At} {μ : Mu} {C : Nat → O} {fr : Fr} {o : Oper} {σ σ' : St} {w : World} {v : V} {x y z : Operand} {t u : TypeId} {M : Nat → Prop} {N : Nat} {pr : Pr}
theorem TyOk.size {i : TI} (h : TyOk P t i) (w : World) : (sizeOf t).run P w = .ok i.sz w := by
 obtain ⟨inf, h1, h2, -⟩ := h.info
 exact Go.Pm.run_sizeOf (by rw [h1]; simp [h2]) w
theorem TyOk.isAgg {i : TI} (h : TyOk P t i) (w : World) : (Go.isAgg t).run P w = .ok i.agg w := by
 have hu := h.ok
 rw [h.agg]
 simp only [Go.isAgg, Sem.run_bind, run_underlying hu, Result.andThen_ok]
 cases i.d <;> rfl
theorem wholeOrOne_ok {agg : Bool} {vs : List V} (h : wholeOrOne agg vs = .ok v) : (agg = true ∧ v = .g vs) ∨ (agg = false ∧ vs = [v]) := by
 unfold wholeOrOne at h
 cases agg with
 | true => cases h; exact .inl ⟨rfl, rfl⟩
 | false =>
  right
  simp only [cond_false] at h
  split at h
  ·cases h; exact ⟨rfl, rfl⟩
  cases h
theorem part_ok {i : TI} (h : TyOk P t i) {cs vs : List V} {xs : List Value} (hc : concL α μ cs = some xs) {off : Nat} (ht : takeL i.sz (dropL off cs) = some vs) (hv : wholeOrOne i.agg vs = .ok v) :
  ∃ X, (part t xs.toArray off).run P w = .ok X w ∧ conc α μ v = some X := by
 rw [dropL_eq] at ht
 obtain ⟨rfl, hl⟩ := takeL_eq _ _ _ ht
 have hcc := concL_take i.sz (concL_drop off hc)
 have hlen := concL_length hc
 rcases wholeOrOne_ok hv with ⟨ha, rfl⟩ | ⟨ha, hone⟩
 ·refine ⟨.agg ((xs.drop off).take i.sz).toArray, ?_, by simp only [conc, hcc, Option.map_some]⟩
  have e1 := h.isAgg w
  rw [ha] at e1
  simp only [part, Sem.run_bind, e1, Result.andThen_ok, if_true, h.size, Sem.run_pure]
  congr 2
  simp [List.extract_eq_take_drop]
 rw [hone] at hcc
 obtain ⟨X, ys, h1, h2, h3⟩ := concL_cons hcc
 refine ⟨X, ?_, h1⟩
 have e1 := h.isAgg w
 rw [ha] at e1
 have hx : xs[off]? = some X := by
  have := congrArg (·[0]?) h3
  simp only [List.getElem?_cons_zero] at this
  have hsz : 0 < i.sz := by
   rcases Nat.eq_zero_or_pos i.sz with h0 | h0
   ·rw [h0] at hone; simp at hone
   exact h0
  rw [List.getElem?_take_of_lt hsz, List.getElem?_drop] at this
  simpa using this
 simp only [part, Sem.run_bind, e1, Result.andThen_ok, Bool.false_eq_true, if_false]
 simp [hx]
theorem fieldsOf_ok {i : TI} {fs : List Field} (h : fieldsOf i = .ok fs) : ∃ a, i.d = .struct a ∧ fs = a.toList := by
 unfold fieldsOf at h
 split at h
 ·rename_i a hd; cases h; exact ⟨a, hd, rfl⟩
 cases h
theorem fieldOf_ok (hp : PrOk pr P) {a : V} {X : Value} {f : Nat} (h : fieldOf pr t a f = .ok v) (hx : conc α μ a = some X) : ∃ Y, (Instr.field t X f).run P w = .ok Y w ∧ conc α μ v = some Y := by
 have hh__ := bind_ok h; clear h; obtain ⟨i, hi, h⟩ := hh__
 have hh__ := bind_ok h; clear h; obtain ⟨fs, hf, h⟩ := hh__
 have hT := ti_ok hp hi
 obtain ⟨arr, hd, rfl⟩ := fieldsOf_ok hf
 have hu := hT.ok; rw [hd] at hu
 split at h
 ·rename_i fd cs hfd
  have hh__ := bind_ok h; clear h; obtain ⟨ifd, hifd, h⟩ := hh__
  split at h
  ·rename_i vs hvs
   obtain ⟨l, h1, rfl⟩ := conc_g hx
   obtain ⟨Y, h2, h3⟩ := part_ok (w := w) (ti_ok hp hifd) h1 hvs h
   refine ⟨Y, ?_, h3⟩
   have hfd' : arr[f]? = some fd := by simpa using hfd
   simp [Instr.field, run_underlying hu, hfd', asAgg, h2]
  cases h
 cases h
theorem fieldAt_ok (hp : PrOk pr P) {a : V} {X : Value} {f : Nat} (h : fieldAt pr t a f = .ok v) (hx : conc α μ a = some X) : ∃ Y, (Instr.fieldAt t X f).run P w = .ok Y w ∧ conc α μ v = some Y := by
 have hh__ := bind_ok h; clear h; obtain ⟨i, hi, h⟩ := hh__
 have hh__ := bind_ok h; clear h; obtain ⟨fs, hf, h⟩ := hh__
 have hT := ti_ok hp hi
 obtain ⟨arr, hd, rfl⟩ := fieldsOf_ok hf
 have hu := hT.ok; rw [hd] at hu
 split at h
 ·rename_i fd k off hfd
  have hh__ := bind_ok h; clear h; obtain ⟨ifd, hifd, h⟩ := hh__
  rw [beq_of] at h
  by_cases hz : ifd.sz = 0
  ·simp [hz] at h
  simp only [hz, decide_false, cond_false] at h
  cases h
  obtain ⟨b, cap, h1, rfl⟩ := conc_p hx
  have hfd' : arr[f]? = some fd := by simpa using hfd
  refine ⟨_, ?_, mk_p h1⟩
  have hs := (ti_ok hp hifd).size w
  simp [Instr.fieldAt, run_underlying hu, hfd', Instr.sureAddr, fieldPlace, hs, hz, addr_add]
 cases h
theorem natOf_ok {a : V} {n : Nat} {X : Value} (h : natOf a = .ok n) (hx : conc α μ a = some X) : ∃ k, X = .int k (n : Int) := by
 unfold natOf at h
 split at h
 ·cases h; exact ⟨_, conc_i hx⟩
 cases h
theorem indexAt_ok (hα : AtOk pr α) (hp : PrOk pr P) {a b : V} {X Y : Value} (h : indexAt pr t a b = .ok v) (hx : conc α μ a = some X) (hy : conc α μ b = some Y) : ∃ Z, (Instr.indexAt t X Y).run P w = .ok Z w ∧ conc α μ v = some Z := by
 have hh__ := bind_ok h; clear h; obtain ⟨i, hi, h⟩ := hh__
 have hh__ := bind_ok h; clear h; obtain ⟨j, hj, h⟩ := hh__
 have hT := ti_ok hp hi
 obtain ⟨k, rfl⟩ := natOf_ok hj hy
 split at h
 ·rename_i n e k' off hd
  have hu := hT.ok; rw [hd] at hu
  have hh__ := bind_ok h; clear h; obtain ⟨ie, hie, h⟩ := hh__
  have hh__ := cond_ok h; clear h; obtain ⟨hlt, h⟩ := hh__
  cases h
  have hlt : j < n := by simpa [Nat.blt_eq] using hlt
  obtain ⟨b', cap, h1, rfl⟩ := conc_p hx
  refine ⟨_, ?_, mk_p h1⟩
  have hs := (ti_ok hp hie).size w
  simp [Instr.indexAt, asIntOf, run_underlying hu, Instr.sureAddr, hlt, hs, addr_add]
 ·rename_i n e g off hd
  have hu := hT.ok; rw [hd] at hu
  have hh__ := bind_ok h; clear h; obtain ⟨ie, hie, h⟩ := hh__
  have hh__ := cond_ok h; clear h; obtain ⟨hlt, h⟩ := hh__
  cases h
  have hlt : j < n := by simpa [Nat.blt_eq] using hlt
  simp only [conc, Option.some.injEq] at hx
  subst hx
  have hs := (ti_ok hp hie).size w
  exact ⟨_, by simp [Instr.indexAt, asIntOf, run_underlying hu, Instr.sureAddr, hlt, hs, addr_add]; rfl, by simp only [conc]⟩
 ·rename_i e k' off n cp hd
  have hu := hT.ok; rw [hd] at hu
  have hh__ := bind_ok h; clear h; obtain ⟨ie, hie, h⟩ := hh__
  have hh__ := cond_ok h; clear h; obtain ⟨hlt, h⟩ := hh__
  cases h
  have hlt : j < n := by simpa [Nat.blt_eq] using hlt
  have hs := (ti_ok hp hie).size w
  rcases conc_sl hx with ⟨e', -⟩ | ⟨_, _, b', cap, e', h1, ⟨c, -, rfl⟩ | ⟨c, -, rfl⟩⟩
  ·cases e'
  ·cases e'
   exact ⟨_, by simp [Instr.indexAt, asIntOf, run_underlying hu, hlt, hs, addr_add], mk_p h1⟩
  cases e'
  exact ⟨_, by simp [Instr.indexAt, asIntOf, run_underlying hu, hlt, hs, addr_add], mk_p h1⟩
 ·rename_i e r hd
  have hu := hT.ok; rw [hd] at hu
  have hh__ := bind_ok h; clear h; obtain ⟨ie, hie, h⟩ := hh__
  split at h
  ·rename_i n cs hw
   have hh__ := cond_ok h; clear h; obtain ⟨hlt, h⟩ := hh__
   cases h
   simp only [Bool.and_eq_true, Nat.blt_eq] at hlt
   obtain ⟨-, h1, h2, -⟩ := hα.win r n cs hw
   have hs := (ti_ok hp hie).size w
   rw [Nat.eq_of_beq_eq_true hlt.2] at hs
   have h2 := h2 (by intro e; rw [e] at hlt; simp at hlt)
   simp only [conc, Option.some.injEq, h2] at hx
   subst hx
   have hlt' : j < (α.win r).2.2.1 := Nat.lt_of_lt_of_le hlt.1 h1
   exact ⟨_, by simp [Instr.indexAt, asIntOf, run_underlying hu, hlt', hs, addr_add]; rfl, by simp only [conc]⟩
  cases h
 cases h
theorem index_ok (hp : PrOk pr P) {a b : V} {X Y : Value} (h : index pr t a b = .ok v) (hx : conc α μ a = some X) (hy : conc α μ b = some Y) : ∃ Z, (Instr.index t X Y).run P w = .ok Z w ∧ conc α μ v = some Z := by
 have hh__ := bind_ok h; clear h; obtain ⟨i, hi, h⟩ := hh__
 have hh__ := bind_ok h; clear h; obtain ⟨j, hj, h⟩ := hh__
 have hT := ti_ok hp hi
 obtain ⟨k, rfl⟩ := natOf_ok hj hy
 split at h
 ·rename_i n e cs hd
  have hu := hT.ok; rw [hd] at hu
  have hh__ := bind_ok h; clear h; obtain ⟨ie, hie, h⟩ := hh__
  have hh__ := cond_ok h; clear h; obtain ⟨hlt, h⟩ := hh__
  have hlt : j < n := by simpa [Nat.blt_eq] using hlt
  split at h
  ·rename_i vs hvs
   obtain ⟨l, h1, rfl⟩ := conc_g hx
   obtain ⟨Z, h2, h3⟩ := part_ok (w := w) (ti_ok hp hie) h1 hvs h
   refine ⟨Z, ?_, h3⟩
   have hs := (ti_ok hp hie).size w
   simp [Instr.index, asIntOf, run_underlying hu, hlt, hs, h2]
  cases h
 ·rename_i ps hd
  have hu := hT.ok; rw [hd] at hu
  split at h
  ·rename_i n y hl
   have hh__ := cond_ok h; clear h; obtain ⟨hlt, h⟩ := hh__
   cases h
   have hlt : j < n := by simpa [Nat.blt_eq] using hlt
   rw [conc_s hx, lit?_ok hl]
   refine ⟨_, ?_, mk_i _ _⟩
   have hg : (⟨(beOf n y).toArray⟩ : ByteArray)[j]? = some (UInt8.ofNat (y / 256 ^ (n - 1 - j))) := by
    have hsz : (⟨(beOf n y).toArray⟩ : ByteArray).size = n := by show (beOf n y).toArray.size = n; simp [beOf_length]
    rw [getElem?_pos _ _ (by rw [hsz]; exact hlt)]
    show some ((beOf n y).toArray[j]'_) = _
    simp [beOf]
   simp [Instr.index, asIntOf, run_underlying hu, hg, UInt8.toNat_ofNat']
  cases h
 cases h
end
end Go.Eng
/- The evaluator's rows: parts of them, new ones, and what is appended; beside the model's. -/
namespace Go.Eng
open Go Go.RowKit Go.Pm
section
variable {P : Program} {α : At} {μ μ' : Mu} {c c' : Nat → O} {fr : Fr} {o : Oper} {σ σ' : St} {w w' : World} {v : V} {x y z : Operand} {t u : TypeId} {M : Nat → Prop} {N : Nat} {pr : Pr} {k : Nat}
theorem zc_ok (hp : PrOk pr P) {i : TI} {l : List V} (hi : ti pr t = .ok i) (h : zc i = .ok l) : ∃ inf z0, P.info? t = some inf ∧ inf.size = i.sz ∧ inf.bytes = i.bytes ∧ inf.zero = some z0 ∧ (∀ α μ, concL α μ l = some z0.cells.toList) ∧ allLeaf l = true ∧ z0.cells.size = i.sz ∧ l.length = i.sz ∧
  (∀ w, (zeroValue t).run P w = .ok z0 w) := by
 unfold zc at h
 split at h
 ·rename_i l' hz
  have hh__ := cond_ok h; clear h; obtain ⟨hl, h⟩ := hh__
  cases h
  obtain ⟨inf, h1, h2, h3, -, h5⟩ := (ti_ok hp hi).info
  obtain ⟨z0, h6, h7, -⟩ := h5 _ hz
  have h8 := fun α μ => (leaves_ok (α := α) (μ := μ) h7).1
  have hl : l.length = i.sz := by simpa [beq_of] using hl
  have hlen := concL_length (h8 ⟨fun _ => [], fun _ => (0, 0, 0, 0), fun _ => [], fun _ => none, fun _ => none⟩ (fun _ => none))
  refine ⟨inf, z0, h1, h2, h3, h6, h8, (leaves_ok (α := ⟨fun _ => [], fun _ => (0, 0, 0, 0), fun _ => [], fun _ => none, fun _ => none⟩) (μ := fun _ => none) h7).2, by simp at hlen; omega, hl, fun w => ?_⟩
  simp [zeroValue, typeInfo, h1, h6]
 cases h
-- bounds
theorem bound_ok {b : Option V} {X : Option Value} {d y n : Nat} (h : bound b d y = .ok n) (hx : ∀ v, b = some v → ∃ x, X = some x ∧ conc α μ v = some x) (hn : b = none → X = none) : (b = none ∧ X = none ∧ n = d) ∨ (∃ k, X = some (.int k (n : Int)) ∧ n ≤ y ∧ b.isSome = true) := by
 cases b with
 | none => cases h; exact .inl ⟨rfl, hn rfl, rfl⟩
 | some v =>
  right
  simp only [bound] at h
  have hh__ := bind_ok h; clear h; obtain ⟨m, hm, h⟩ := hh__
  have hh__ := cond_ok h; clear h; obtain ⟨hle, h⟩ := hh__
  cases h
  obtain ⟨x, rfl, h2⟩ := hx v rfl
  obtain ⟨k, rfl⟩ := natOf_ok hm h2
  exact ⟨k, rfl, Nat.le_of_ble_eq_true hle, rfl⟩
def ConcO (α : At) (μ : Mu) (b : Option V) (X : Option Value) : Prop := match b, X with
 | none, none => True
 | some v, some x => conc α μ v = some x
 | _, _ => False
theorem optO_ok {A : Act} (hf : FrA α μ fr A) {q : Option Operand} {b : Option V} (h : optO fr q = .ok b) : ConcO α μ b (q.map A.eval) := by
 cases q with
 | none => cases h; trivial
 | some q =>
  simp only [optO] at h
  have hh__ := bind_ok h; clear h; obtain ⟨v0, hv, h⟩ := hh__
  cases h
  exact opnd_ok hf hv
theorem bound_ok' {b : Option V} {X : Option Value} {d y n : Nat} (h : bound b d y = .ok n) (hc : ConcO α μ b X) : (b = none ∧ X = none ∧ n = d) ∨ (∃ k, X = some (.int k (n : Int)) ∧ n ≤ y ∧ b.isSome = true) := by
 refine bound_ok (α := α) (μ := μ) h (fun v e => ?_) (fun e => ?_)
 ·subst e; cases X with
  | none => exact hc.elim
  | some x => exact ⟨x, rfl, hc⟩
 subst e; cases X with
 | none => rfl
 | some x => exact hc.elim
theorem run_bound {k : IntKind} {n y : Nat} (h : n ≤ y) (code : BoundsCode) : (Instr.sliceBound (.int k (n : Int)) y code).run P w = .ok n w := by
 have : (0 : Int) ≤ (n : Int) ∧ (n : Int) ≤ (y : Int) := by omega
 simp [Instr.sliceBound, asIntOf, h]
theorem bounds_ok {l h m : Option V} {L H Mx : Option Value} {len lim cap : Nat} {r : Nat × Nat × Nat} (e : bounds len lim l h m = .ok r) (hl : ConcO α μ l L) (hh : ConcO α μ h H) (hm : ConcO α μ m Mx) (hcap : lim ≤ cap) (isS : Bool) :
  (Instr.sliceBounds isS len cap L H Mx).run P w = .ok (r.1, r.2.1, if m.isSome then r.2.2 else cap) w ∧ (m = none → r.2.2 = lim) ∧ (m.isSome → r.2.2 ≤ lim) ∧ (h.isSome → r.2.1 ≤ r.2.2) ∧ (h = none → r.2.1 = len) ∧ (l = none → r.1 = 0) ∧ (l.isSome → r.1 ≤ r.2.1) := by
 unfold bounds at e
 have hh__ := bind_ok e; clear e; obtain ⟨m', hm', e⟩ := hh__
 have hh__ := bind_ok e; clear e; obtain ⟨h', hh', e⟩ := hh__
 have hh__ := bind_ok e; clear e; obtain ⟨l', hl', e⟩ := hh__
 cases e
 have e3 := bound_ok' hl' hl
 rcases bound_ok' hm' hm with ⟨rfl, rfl, rfl⟩ | ⟨km, rfl, hmle, hms⟩
 ·-- no max
  have e2 : bound h len m' = .ok h' := by cases h <;> exact hh'
  rcases bound_ok' e2 hh with ⟨rfl, rfl, rfl⟩ | ⟨kh, rfl, hhle, hhs⟩
  ·rcases e3 with ⟨rfl, rfl, rfl⟩ | ⟨kl, rfl, hlle, hls⟩
   ·exact ⟨by simp [Instr.sliceBounds], by simp, by simp, by simp, by simp, by simp, by simp⟩
   exact ⟨by simp [Instr.sliceBounds, run_bound hlle], by simp, by simp, by simp, by simp, (fun e => by subst e; cases hls), fun _ => hlle⟩
  rcases e3 with ⟨rfl, rfl, rfl⟩ | ⟨kl, rfl, hlle, hls⟩
  ·exact ⟨by simp [Instr.sliceBounds, run_bound (Nat.le_trans hhle hcap)], by simp, by simp, fun _ => hhle, (fun e => by subst e; cases hhs), by simp, by simp⟩
  exact ⟨by simp [Instr.sliceBounds, run_bound (Nat.le_trans hhle hcap), run_bound hlle], by simp, by simp, fun _ => hhle, (fun e => by subst e; cases hhs), (fun e => by subst e; cases hls), fun _ => hlle⟩
 obtain ⟨mv, rfl⟩ := Option.isSome_iff_exists.1 hms
 cases h with
 | none => cases hh'
 | some hv =>
  rcases bound_ok' hh' hh with ⟨e, -⟩ | ⟨kh, rfl, hhle, hhs⟩
  ·cases e
  rcases e3 with ⟨rfl, rfl, rfl⟩ | ⟨kl, rfl, hlle, hls⟩
  ·exact ⟨by simp [Instr.sliceBounds, run_bound (Nat.le_trans hmle hcap), run_bound hhle], by simp, fun _ => hmle, fun _ => hhle, by simp, by simp, by simp⟩
  exact ⟨by simp [Instr.sliceBounds, run_bound (Nat.le_trans hmle hcap), run_bound hhle, run_bound hlle], by simp, fun _ => hmle, fun _ => hhle, by simp, (fun e => by subst e; cases hls), fun _ => hlle⟩
theorem sliceOf_conc {k0 o0 l h m sz b cap : Nat} (hμ : μ k0 = some (b, cap)) : conc α μ (sliceOf (some (k0, o0)) l h m sz) = some (.slice (some (if m = l then ⟨b, o0, none⟩ else ⟨b, o0 + l * sz, none⟩)) (h - l) (m - l)) := by
 unfold sliceOf
 rw [beq_of]
 by_cases e : m = l
 ·simp only [e, decide_true, cond_true, conc, hμ, Option.map_some, if_true]
 simp only [e, decide_false, cond_false, Option.map_some, conc, hμ, if_false]
theorem slice_ok (hp : PrOk pr P) {a : V} {X : Value} {l h m : Option V} {L H Mx : Option Value} (e : slice pr σ t a l h m = .ok (σ', v)) (hx : conc α μ a = some X) (hl : ConcO α μ l L) (hh : ConcO α μ h H) (hm : ConcO α μ m Mx) :
  Rd σ σ' ∧ (Pre P α μ c σ w M N → Sub σ' M → ∃ Y, (Instr.sliceAt t X L H Mx).run P w = .ok Y w ∧ conc α μ v = some Y) := by
 unfold slice at e
 have hh__ := bind_ok e; clear e; obtain ⟨i, hi, e⟩ := hh__
 have hT := ti_ok hp hi
 split at e
 ·rename_i ps hd
  have hu := hT.ok; rw [hd] at hu
  have hh__ := bind_ok e; clear e; obtain ⟨v0, hv, e⟩ := hh__
  cases e
  refine ⟨Rd.refl _, fun _ _ => ?_⟩
  unfold cutS at hv
  split at hv
  ·rename_i n x' hlit
   have hh__ := bind_ok hv; clear hv; obtain ⟨r, hr, hv⟩ := hh__
   cases hv
   have hMx : Mx = none := by cases Mx with
    | none => rfl
    | some _ => exact hm.elim
   subst hMx
   obtain ⟨h1, h2, -, h3, h4, h5, h6⟩ := bounds_ok (P := P) (w := w) hr hl hh hm (Nat.le_refl _) false
   have h2 := h2 rfl
   have hle1 : r.2.1 ≤ n := by
    cases h with
    | none => rw [h4 rfl]; exact Nat.le_refl _
    | some _ => have := h3 rfl; omega
   have hle2 : r.1 ≤ r.2.1 := by
    cases l with
    | none => rw [h5 rfl]; exact Nat.zero_le _
    | some _ => exact h6 rfl
   rw [conc_s hx, lit?_ok hlit]
   refine ⟨_, ?_, mk_s _⟩
   have hsz : (⟨(beOf n x').toArray⟩ : ByteArray).size = n := by show (beOf n x').toArray.size = n; simp [beOf_length]
   simp only [Instr.sliceAt, Sem.run_bind, run_underlying hu, Result.andThen_ok, Instr.slice]
   simp only [Option.isSome_none, Bool.false_eq_true, if_false, hsz, h1, Sem.run_bind, Result.andThen_ok, Sem.run_pure]
   congr 2
   rw [bytesP_lit]
   have hsub : ∀ d ∈ ((digs n x' []).drop r.1).take (r.2.1 - r.1), d < 256 := fun d hd => digs_lt n x' d (List.mem_of_mem_drop (List.mem_of_mem_take hd))
   rw [numD_num _ hsub]
   have hlen : (((digs n x' []).drop r.1).take (r.2.1 - r.1)).length = r.2.1 - r.1 := by simp [digs_length]; omega
   have hbe := be_numOf ((((digs n x' []).drop r.1).take (r.2.1 - r.1)).map UInt8.ofNat)
   rw [List.length_map, hlen] at hbe
   rw [hbe]
   apply ByteArray.ext
   rw [ByteArray.data_extract]
   apply Array.ext'
   rw [← digs_be]
   simp [List.extract_eq_take_drop, List.map_drop, List.map_take]
  cases hv
 ·rename_i e' a' len c0 hd
  have hu := hT.ok; rw [hd] at hu
  have hh__ := bind_ok e; clear e; obtain ⟨ie, hie, e⟩ := hh__
  have hh__ := bind_ok e; clear e; obtain ⟨r, hr, e⟩ := hh__
  cases e
  refine ⟨Rd.refl _, fun _ _ => ?_⟩
  have hs := (ti_ok hp hie).size w
  obtain ⟨h1, h2, h2', -⟩ := bounds_ok (P := P) (w := w) hr hl hh hm (Nat.le_refl _) true
  have hmm : (if m.isSome then r.2.2 else c0) = r.2.2 := by
   cases m with
   | none => simp [h2 rfl]
   | some _ => simp
  rw [hmm] at h1
  rcases conc_sl hx with ⟨rfl, rfl, hc0, rfl⟩ | ⟨k0, o0, b, cap, rfl, hμ, ⟨c1, hc1, rfl⟩ | ⟨_, hc1, -⟩⟩
  ·cases hc0
   refine ⟨.slice none (r.2.1 - r.1) (r.2.2 - r.1), ?_, ?_⟩
   ·simp [Instr.sliceAt, run_underlying hu, Instr.slice, h1, hs]
   have hle : r.2.2 = 0 := by
    cases m with
    | none => exact h2 rfl
    | some _ => have := h2' rfl; omega
   obtain ⟨-, -, -, h3, h4, h5, h6⟩ := bounds_ok (P := P) (w := w) hr hl hh hm (Nat.le_refl _) true
   have hle1 : r.2.1 = 0 := by
    cases h with
    | none => exact h4 rfl
    | some _ => have := h3 rfl; omega
   have hle2 : r.1 = 0 := by
    cases l with
    | none => exact h5 rfl
    | some _ => have := h6 rfl; omega
   simp only [sliceOf, hle, hle1, hle2, Option.map_none, Nat.sub_self]
   cases (Nat.beq 0 0) <;> simp only [cond_true, cond_false, conc]
  ·cases hc1
   refine ⟨_, ?_, sliceOf_conc hμ⟩
   simp only [Instr.sliceAt, Sem.run_bind, run_underlying hu, Result.andThen_ok, Instr.slice, h1, hs, Sem.run_pure, Option.map_some, addr_add]
   congr 2
   split <;> rfl
  cases hc1
 ·rename_i e' k0 o0 len c0 hd
  have hu := hT.ok; rw [hd] at hu
  have hh__ := bind_ok e; clear e; obtain ⟨ie, hie, e⟩ := hh__
  have hs := (ti_ok hp hie).size w
  split at e
  ·rename_i L' ty st ho
   have hh__ := cond_ok e; clear e; obtain ⟨hck, e⟩ := hh__
   simp only [Bool.and_eq_true, beq_of, decide_eq_true_eq] at hck
   obtain ⟨⟨hty, ho0⟩, hsz⟩ := hck
   have hsz : 0 < ie.sz := by simpa [Nat.blt_eq] using hsz
   unfold sliceU at e
   have hh__ := bind_ok e; clear e; obtain ⟨r, hr, e⟩ := hh__
   have hrd : Rd σ (rd σ k0) := Rd.rd σ k0
   have hσ : σ' = rd σ k0 := by
    cases m with
    | some _ => cases e; rfl
    | none =>
     simp only at e
     cases hb1 : Nat.beq r.1 0 with
     | true => rw [hb1] at e; cases e; rfl
     | false =>
      rw [hb1] at e
      cases hb2 : Nat.blt r.1 ((L'.length - o0) / ie.sz) with
      | true => rw [hb2] at e; cases e; rfl
      | false =>
       rw [hb2] at e
       simp only [cond_false] at e
       have hh__ := cond_ok e; clear e; obtain ⟨hb3, e⟩ := hh__
       cases e; rfl
   subst hσ
   refine ⟨hrd, fun hpre hs' => ?_⟩
   have hk : M k0 := hs' k0 (.inl (by show (Nat.lor σ.r (2 ^ k0)).testBit k0 = true; rw [bit_lor]; simp))
   obtain ⟨b, cap, xs, arr, fz, a1, a2, a3, a4, a5, a6, ⟨rest, a7, -⟩, a8⟩ := hpre.cells hk ho
   obtain ⟨inf, i1, i2⟩ := a8 rfl
   obtain ⟨inf', j1, j2, -⟩ := (ti_ok hp hie).info
   rw [hty] at i1
   rw [j1] at i1; cases i1
   rw [j2] at i2
   have hlen := concL_length a3
   have hLle : L'.length ≤ cap * ie.sz := by
    rw [← i2, ← Array.length_toList, a7, List.length_append]; omega
   have hlim : (L'.length - o0) / ie.sz ≤ cap - c0 := by
    rw [ho0]
    refine (Nat.le_of_lt_succ ((Nat.div_lt_iff_lt_mul hsz).2 ?_))
    have : (cap - c0) * ie.sz = cap * ie.sz - c0 * ie.sz := Nat.sub_mul _ _ _
    rw [Nat.succ_mul, this]
    omega
   obtain ⟨h1, h2, h2', h3, h4, h5, h6⟩ := bounds_ok (P := P) (w := w) hr hl hh hm hlim true
   rcases conc_sl hx with ⟨e0, -⟩ | ⟨_, _, b', cap', e0, hμ, ⟨_, hc1, -⟩ | ⟨c2, hc1, rfl⟩⟩
   ·cases e0
   ·cases hc1
   cases hc1
   cases e0
   rw [a1] at hμ; cases hμ
   have hrun : ∀ m', (if m.isSome then r.2.2 else cap - c0) = m' → (Instr.sliceAt t (.slice (some ⟨b, o0, none⟩) len (cap - c0)) L H Mx).run P w = .ok (.slice (some (if m' = r.1 then ⟨b, o0, none⟩ else ⟨b, o0 + r.1 * ie.sz, none⟩)) (r.2.1 - r.1) (m' - r.1)) w := by
    intro m' hm'
    subst hm'
    simp only [Instr.sliceAt, Sem.run_bind, run_underlying hu, Result.andThen_ok, Instr.slice, h1, hs, Sem.run_pure, Option.map_some, addr_add]
    congr 2
    exact (apply_ite some _ _ _).symm
   refine ⟨_, hrun _ rfl, ?_⟩
   cases m with
   | some mv =>
    cases e
    exact sliceOf_conc a1
   | none =>
    simp only [Option.isSome_none, Bool.false_eq_true, if_false]
    simp only [beq_of] at e
    by_cases hb1 : r.1 = 0
    ·simp only [hb1, decide_true, cond_true] at e
     cases e
     simp only [conc, a1, Option.map_some, hb1, Nat.zero_mul, Nat.add_zero, Nat.sub_zero]
     congr 3
     split <;> rfl
    simp only [hb1, decide_false, cond_false] at e
    cases hb2 : Nat.blt r.1 ((L'.length - o0) / ie.sz) with
    | true =>
     rw [hb2] at e
     cases e
     have hb2 : r.1 < (L'.length - o0) / ie.sz := by simpa [Nat.blt_eq] using hb2
     have hne : ¬ (cap - c0 = r.1) := by omega
     simp only [conc, a1, Option.map_some, hne, if_false]
     congr 2
     omega
    | false =>
     rw [hb2] at e
     simp only [cond_false] at e
     have hh__ := cond_ok e; clear e; obtain ⟨hb3, e⟩ := hh__
     cases e
     have hb3 : r.2.1 = r.1 := by simpa using hb3
     simp only [conc, a1, Option.map_some, hb3, Nat.sub_self]
     congr 1
     by_cases hq : cap - c0 = r.1
     ·simp [hq]
     simp [hq]
  cases e
 ·rename_i n e' k0 o0 hd
  have hu := hT.ok; rw [hd] at hu
  have hh__ := bind_ok e; clear e; obtain ⟨ie, hie, e⟩ := hh__
  have hh__ := bind_ok e; clear e; obtain ⟨r, hr, e⟩ := hh__
  cases e
  refine ⟨Rd.refl _, fun _ _ => ?_⟩
  have hs := (ti_ok hp hie).size w
  obtain ⟨h1, h2, h2', -⟩ := bounds_ok (P := P) (w := w) hr hl hh hm (Nat.le_refl _) false
  have hmm : (if m.isSome then r.2.2 else n) = r.2.2 := by
   cases m with
   | none => simp [h2 rfl]
   | some _ => simp
  rw [hmm] at h1
  obtain ⟨b, cap, hμ, rfl⟩ := conc_p hx
  refine ⟨_, ?_, sliceOf_conc hμ⟩
  simp only [Instr.sliceAt, Sem.run_bind, run_underlying hu, Result.andThen_ok, Instr.sureAddr, h1, hs, Sem.run_pure, addr_add]
 cases e
end
end Go.Eng
/- The evaluator's new blocks, loads and stores as operations, beside the model's. -/
namespace Go.Eng
open Go Go.RowKit Go.Pm
section
variable {P : Program} {α : At} {μ μ' : Mu} {c c' : Nat → O} {fr : Fr} {o : Oper} {σ σ' : St} {w w' : World} {v : V} {x y z : Operand} {t u : TypeId} {M : Nat → Prop} {N : Nat} {pr : Pr} {k : Nat}
theorem Post.after_rd {σ1 : St} (hr : Rd σ σ1) (p : Post P α μ c σ1 w μ' c' σ' w' M N) : Post P α μ c σ w μ' c' σ' w' M N :=
 ⟨p.pre, fun k hk => p.out k (by rw [hr.nx]; exact hk), p.keep, fun k b x h1 h2 h3 => by
  rcases p.born k b x (by rw [hr.nx]; exact h1) h2 h3 with h | ⟨j, y, a1, a2, a3, a4⟩
  ·exact .inl h
  exact .inr ⟨j, y, a1, by rw [← hr.nx]; exact a2, a3, a4⟩, p.frame, p.size, p.os, p.tape, p.output⟩
theorem Pre.after_rd {σ1 : St} (hr : Rd σ σ1) (p : Pre P α μ c σ w M N) : Pre P α μ c σ1 w M N := (hr.post p).pre
theorem Wf.after_rd {σ1 : St} (hr : Rd σ σ1) (h : Wf σ) : Wf σ1 := hr.tr.wf h
theorem sub_new {O' : O} (h : Sub (new σ O').1 M) : M σ.nx := h σ.nx (.inr (by show (Nat.lor σ.w (2 ^ σ.nx)).testBit σ.nx = true; rw [bit_lor]; simp))
theorem OpOk.new {σ1 : St} (hr : Rd σ σ1) {O' : O} (h : ∀ μ c w M N a, Pre P α μ c σ w M N → Sub (new σ1 O').1 M → FrA α μ fr a → ∃ ob cap w' X, Made w w' ob ∧ Ran P a o w X w' ∧
   ∀ μ' : Mu, μ.Le μ' → μ' σ1.nx = some (w.heap.size, cap) → ObjR P α μ' cap O' ob ∧ conc α μ' v = some X) : OpOk P α fr o σ (new σ1 O').1 v := by
 refine ⟨hr.tr.trans (tr_new σ1 O'), fun μ c w M N a hp wf hs hN hf => ?_⟩
 obtain ⟨ob, cap, w', X, hm, hran, hh⟩ := h μ c w M N a hp hs hf
 have hp1 := hp.after_rd hr
 have hfr : μ σ1.nx = none := hp1.fresh σ1.nx (Nat.le_refl _) (by have : σ1.nx + 1 ≤ N := hN; omega)
 have hle : μ.Le (upd μ σ1.nx (some (w.heap.size, cap))) := fun j y hj => by
  rw [upd_ne _ _ (by intro e; subst e; rw [hfr] at hj; cases hj)]; exact hj
 obtain ⟨h1, h2⟩ := hh _ hle (upd_same _ _ _)
 obtain ⟨h3, -⟩ := Post.new hp1 (wf.after_rd hr) (sub_new hs) hN hm h1
 exact ⟨X, w', _, _, hran, h3.after_rd hr, h2⟩
theorem objR_new {L : List V} {xs : List Value} {ty : TypeId} {cap : Nat} (hc : concL α μ L = some xs) (hl : allLeaf L = true) : ObjR P α μ cap (.cells L ty false false) (.cells xs.toArray ty (0, 0)) :=
 ⟨xs, xs.toArray, (0, 0), hc, hl, rfl, fun _ => rfl, fun i _ h => by simp at h, by simp⟩
theorem k_alloc (hp : PrOk pr P) (ho : o.op = .alloc t) (h : (ti pr t).bind (fun i => (zc i).bind fun z => let (σ, k) := new σ (.cells z t false false); Res.ok (σ, V.p (some (k, 0)))) = .ok (σ', v)) : OpOk P α fr o σ σ' v := by
 have hh__ := bind_ok h; clear h; obtain ⟨i, hi, h⟩ := hh__
 have hh__ := bind_ok h; clear h; obtain ⟨z0, hz, h⟩ := hh__
 cases h
 obtain ⟨inf, zv, h1, h2, h3, h4, h5, h6, h7, h8, h9⟩ := zc_ok hp hi hz
 refine OpOk.new (Rd.refl _) fun μ c w M N a _ _ hf => ⟨_, 0, _, _, made_alloc w (.cells zv.cells t), .inl (ex_alloc ho ?_), fun μ' hle hμ => ⟨?_, mk_p hμ⟩⟩
 ·simp [Instr.alloc, h9, newVar, newRow]
 have := objR_new (P := P) (cap := 0) (ty := t) (h5 α μ') h6
 simpa using this
theorem leaf_cells {a : V} {X : Value} (hl : allLeaf (cellsOf a) = true) (hx : conc α μ a = some X) : concL α μ (cellsOf a) = some X.cells.toList := by
 rcases leaf_of_conc hx (fun _ => trivial) with h | ⟨vs, rfl⟩
 ·exact h
 simp [cellsOf, allLeaf, isLeaf] at hl
theorem k_box (ho : o.op = .box t x) (h : (opnd fr x).bind (fun v => cond (allLeaf (cellsOf v)) (let (σ, k) := new σ (.cells (cellsOf v) t false false); Res.ok (σ, V.p (some (k, 0)))) (.no "box")) = .ok (σ', v)) : OpOk P α fr o σ σ' v := by
 have hh__ := bind_ok h; clear h; obtain ⟨a, ha, h⟩ := hh__
 have hh__ := cond_ok h; clear h; obtain ⟨hl, h⟩ := hh__
 cases h
 refine OpOk.new (Rd.refl _) fun μ c w M N A _ _ hf => ⟨_, 0, _, _, made_alloc w (.cells (A.eval x).cells t), .inl (ex_box ho rfl ?_), fun μ' hle hμ => ⟨?_, mk_p hμ⟩⟩
 ·simp [Instr.box, newVar, newRow]
 have := objR_new (P := P) (cap := 0) (ty := t) (leaf_cells hl (conc_mono hle _ (opnd_ok hf ha))) hl
 simpa using this
theorem k_load (hp : PrOk pr P) (ho : o.op = .load t x) {k0 o0 : Nat} (hx : opnd fr x = .ok (.p (some (k0, o0)))) (h : loadT pr σ t k0 o0 = .ok (σ', v)) : OpOk P α fr o σ σ' v := by
 unfold loadT at h
 have hh__ := bind_ok h; clear h; obtain ⟨i, hi, h⟩ := hh__
 have hh__ := bind_ok h; clear h; obtain ⟨r, hr, h⟩ := hh__
 obtain ⟨σ1, vs⟩ := r
 have hh__ := bind_ok h; clear h; obtain ⟨v1, hv, h⟩ := hh__
 cases h
 have hT := ti_ok hp hi
 have hrd : σ' = rd σ k0 := by
  unfold loadN at hr
  split at hr
  ·split at hr
   ·cases hr; rfl
   cases hr
  cases hr
 subst hrd
 refine OpOk.read (Rd.rd σ k0) fun μ c w M N A hpre hs hf => ?_
 obtain ⟨-, b, cap, xs, h1, h2, h3, h4, h5, h6⟩ := loadN_ok hpre hs hr
 obtain ⟨b', cap', e1, e2⟩ := conc_p (opnd_ok hf hx)
 rw [h1] at e1; cases e1
 have hag := hT.isAgg w
 rcases wholeOrOne_ok hv with ⟨ha, rfl⟩ | ⟨ha, hone⟩
 ·rw [ha] at hag
  refine ⟨.agg xs.toArray, ex_load ho e2 ?_, by simp only [conc, h2, Option.map_some]⟩
  simp only [Instr.loadAt, Instr.sureAddr, Sem.run_bind, Sem.run_pure, Result.andThen_ok, loadVar, hag, if_true, hT.size, h6]
 rw [ha] at hag
 rw [hone] at h2
 obtain ⟨X, ys, a1, a2, rfl⟩ := concL_cons h2
 refine ⟨X, ex_load ho e2 ?_, a1⟩
 have hc := h5 0 X (by simp)
 simp only [Nat.add_zero] at hc
 simp [Instr.loadAt, Instr.sureAddr, loadVar, hag, load, Sem.run, hc]
theorem OpOk.store {k0 o0 : Nat} {vs : List V} (hr : storeN σ k0 o0 vs = .ok σ')
  (h : ∀ μ c w M N a, Pre P α μ c σ w M N → FrA α μ fr a → ∃ xs, concL α μ vs = some xs ∧ ∀ b cap w', μ k0 = some (b, cap) → (storeCells ⟨b, o0, none⟩ xs).run P w = .ok () w' → ∃ X, Ran P a o w X w' ∧ conc α μ v = some X) : OpOk P α fr o σ σ' v := by
 have htr : Tr σ σ' := by
  unfold storeN at hr
  split at hr
  ·rename_i L ty gr st ho
   have hh__ := cond_ok hr; clear hr; obtain ⟨hl, hr⟩ := hh__
   split at hr
   ·cases hr
    exact tr_wr _ (by rw [ho]; simp)
   cases hr
  cases hr
 refine ⟨htr, fun μ c w M N a hpre _ hs _ hf => ?_⟩
 obtain ⟨xs, h1, h2⟩ := h μ c w M N a hpre hf
 obtain ⟨-, b, cap, w', c', h3, h4, h5⟩ := storeN_ok hpre hs hr h1
 obtain ⟨X, h6, h7⟩ := h2 b cap w' h3 h4
 exact ⟨X, w', μ, c', h6, h5, h7⟩
theorem k_store (hp : PrOk pr P) (ho : o.op = .store t x y) {k0 o0 : Nat} {a : V} (hx : opnd fr x = .ok (.p (some (k0, o0)))) (hy : opnd fr y = .ok a) (h : (ti pr t).bind (fun i => cond (Nat.beq (cellsOf a).length i.sz) ((storeN σ k0 o0 (cellsOf a)).bind fun σ => Res.ok (σ, und)) (.no "store: size")) = .ok (σ', v)) : OpOk P α fr o σ σ' v := by
 have hh__ := bind_ok h; clear h; obtain ⟨i, hi, h⟩ := hh__
 have hh__ := cond_ok h; clear h; obtain ⟨hsz, h⟩ := hh__
 have hh__ := bind_ok h; clear h; obtain ⟨σ1, hst, h⟩ := hh__
 cases h
 have hT := ti_ok hp hi
 have hsz : (cellsOf a).length = i.sz := by simpa [beq_of] using hsz
 have hl : allLeaf (cellsOf a) = true := by
  unfold storeN at hst
  split at hst
  ·have hh__ := cond_ok hst; clear hst; obtain ⟨hl, hst⟩ := hh__; exact hl
  cases hst
 refine OpOk.store hst fun μ c w M N A hpre hf => ⟨_, leaf_cells hl (opnd_ok hf hy), fun b cap w' hμ hrun => ⟨undef, .inr ⟨ex_store (p := .pointer (some ⟨b, o0, none⟩)) ho ?_ rfl ?_, rfl⟩, by simp only [und, conc, concL, Option.map_some]; rfl⟩⟩
 ·obtain ⟨b', cap', e1, e2⟩ := conc_p (opnd_ok hf hx)
  rw [hμ] at e1; cases e1
  exact e2
 have hlen := concL_length (leaf_cells hl (opnd_ok hf hy))
 have : (A.eval y).cells.size = i.sz := by simp at hlen; omega
 simp only [Instr.storeAt, Instr.sureAddr, Sem.run_bind, Sem.run_pure, Result.andThen_ok, storeVar, hT.size, this, ne_eq, not_true_eq_false, if_false, hrun]
end
end Go.Eng
/- The evaluator's structs and new rows, beside the model's. -/
namespace Go.Eng
open Go Go.RowKit Go.Pm
theorem foldl_set : ∀ (vs : List Value) (s off : Nat) (arr : Array Value), off + s + vs.length ≤ arr.size →
  ((vs.zipIdx s).foldl (fun (cs : Array Value) (p : Value × Nat) => cs.setIfInBounds (off + p.2) p.1) arr).toList = arr.toList.take (off + s) ++ vs ++ arr.toList.drop (off + s + vs.length)
 | [], s, off, arr, h => by simp
 | v :: vs, s, off, arr, h => by
  simp only [List.zipIdx_cons, List.foldl_cons]
  rw [foldl_set vs (s + 1) off (arr.setIfInBounds (off + s) v) (by simp at h ⊢; omega)]
  have e := list_seg_step arr.toList (off + s) v vs (by simp at h ⊢; omega)
  simpa [Array.toList_setIfInBounds, Nat.add_assoc] using e
theorem foldl_set_arr (vs : Array Value) (off : Nat) (arr : Array Value) (h : off + vs.size ≤ arr.size) :
  (vs.zipIdx.foldl (fun (cs : Array Value) (p : Value × Nat) => cs.setIfInBounds (off + p.2) p.1) arr).toList = arr.toList.take off ++ vs.toList ++ arr.toList.drop (off + vs.size) := by
 rw [← Array.foldl_toList, Array.toList_zipIdx]
 have := foldl_set vs.toList 0 off arr (by simpa using h)
 simpa using this
section
variable {P : Program} {α : At} {μ μ' : Mu} {c c' : Nat → O} {fr : Fr} {o : Oper} {σ σ' : St} {w w' : World} {v : V} {x y z : Operand} {t u : TypeId} {M : Nat → Prop} {N : Nat} {pr : Pr} {k : Nat}
def PartsR (α : At) (μ : Mu) : List (Nat × V) → List (Nat × Value) → Prop
 | [], [] => True
 | (i, v) :: l, (j, x) :: r => i = j ∧ conc α μ v = some x ∧ PartsR α μ l r
 | _, _ => False
theorem parts_ok {A : Act} (hf : FrA α μ fr A) : ∀ {l : List (Nat × Operand)} {ps : List (Nat × V)}, parts fr l = .ok ps → PartsR α μ ps (l.map fun p => (p.1, A.eval p.2))
 | [], ps, h => by cases h; trivial
 | (i, x) :: l, ps, h => by
  simp only [parts] at h
  have hh__ := bind_ok h; clear h; obtain ⟨v0, hv, h⟩ := hh__
  have hh__ := bind_ok h; clear h; obtain ⟨ps', hps, h⟩ := hh__
  cases h
  exact ⟨rfl, opnd_ok hf hv, parts_ok hf hps⟩
theorem fill_ok (place place' : Nat → Option (Nat × Nat)) (hpl : ∀ i p, place i = some p → place' i = some p) : ∀ {ps : List (Nat × V)} {vs : List (Nat × Value)} {L L' : List V} {xs : List Value}, fillL place L ps = .ok L' → PartsR α μ ps vs → concL α μ L = some xs → allLeaf L = true →
  ∃ xs', Instr.fill place' xs.toArray vs = some xs'.toArray ∧ concL α μ L' = some xs' ∧ allLeaf L' = true
 | [], [], L, L', xs, h, _, hc, hl => by cases h; exact ⟨xs, rfl, hc, hl⟩
 | (i, v) :: ps, (j, X) :: vs, L, L', xs, h, hR, hc, hl => by
  obtain ⟨rfl, hv, hR'⟩ := hR
  simp only [fillL] at h
  split at h
  ·rename_i off sz hpi
   have hh__ := cond_ok h; clear h; obtain ⟨hk, h⟩ := hh__
   rw [Bool.and_eq_true, beq_of, decide_eq_true_eq] at hk
   split at h
   ·rename_i L1 hput
    obtain ⟨rfl, hle⟩ := putL_eq _ _ _ _ hput
    have hcv := leaf_cells hk.2 hv
    have hlv := concL_length hcv
    have hlx := concL_length hc
    have hsz : X.cells.size = sz := by simp at hlv; omega
    have hc1 : concL α μ (L.take off ++ cellsOf v ++ L.drop (off + (cellsOf v).length)) = some (xs.take off ++ X.cells.toList ++ xs.drop (off + (cellsOf v).length)) :=
     concL_append (concL_append (concL_take off hc) hcv) (concL_drop _ hc)
    have hl1 : allLeaf (L.take off ++ cellsOf v ++ L.drop (off + (cellsOf v).length)) = true := by
     have h2 := hk.2
     rw [allLeaf_iff] at hl h2 ⊢
     intro u hu
     simp only [List.mem_append] at hu
     rcases hu with (hu | hu) | hu
     ·exact hl u (List.mem_of_mem_take hu)
     ·exact h2 u hu
     exact hl u (List.mem_of_mem_drop hu)
    obtain ⟨xs', a1, a2, a3⟩ := fill_ok place place' hpl h hR' hc1 hl1
    refine ⟨xs', ?_, a2, a3⟩
    simp only [Instr.fill, hpl i _ hpi]
    have hcond : (decide (X.cells.size ≠ sz) || decide (off + X.cells.size > xs.toArray.size)) = false := by
     simp [hsz]; omega
    rw [if_neg (by rw [hcond]; simp)]
    rw [← a1]
    congr 1
    apply Array.ext'
    have hset := foldl_set_arr X.cells off xs.toArray (by simp; omega)
    rw [hset]
    have : (cellsOf v).length = X.cells.size := by omega
    rw [this]
   cases h
  cases h
 | [], _ :: _, _, _, _, _, hR, _, _ => hR.elim
 | _ :: _, [], _, _, _, _, hR, _, _ => hR.elim
theorem places_ok (hp : PrOk pr P) : ∀ {fs : List Field} {pl : List (Nat × Nat)}, places pr fs = .ok pl → fs.mapM (fun f => (P.info? f.type).map fun i => (f.offset, i.size)) = some pl
 | [], pl, h => by cases h; rfl
 | f :: fs, pl, h => by
  simp only [places] at h
  have hh__ := bind_ok h; clear h; obtain ⟨i, hi, h⟩ := hh__
  have hh__ := bind_ok h; clear h; obtain ⟨l, hl, h⟩ := hh__
  cases h
  obtain ⟨inf, h1, h2, -⟩ := (ti_ok hp hi).info
  simp [List.mapM_cons, h1, h2, places_ok hp hl]
theorem build_ok (hp : PrOk pr P) {ps : List (Nat × V)} {vs : Array (Nat × Value)} (h : build pr t ps = .ok v) (hR : PartsR α μ ps vs.toList) : ∃ X, (Instr.build t vs).run P w = .ok X w ∧ conc α μ v = some X := by
 unfold build at h
 have hh__ := bind_ok h; clear h; obtain ⟨i, hi, h⟩ := hh__
 have hh__ := bind_ok h; clear h; obtain ⟨z0, hz, h⟩ := hh__
 have hT := ti_ok hp hi
 obtain ⟨inf, zv, h1, h2, h3, h4, h5, h6, h7, h8, h9⟩ := zc_ok hp hi hz
 split at h
 ·rename_i fs hd
  have hu := hT.ok; rw [hd] at hu
  have hh__ := bind_ok h; clear h; obtain ⟨pl, hpl, h⟩ := hh__
  have hh__ := bind_ok h; clear h; obtain ⟨L, hL, h⟩ := hh__
  cases h
  obtain ⟨xs', a1, a2, a3⟩ := fill_ok (fun k => pl[k]?) (fun k => pl.toArray[k]?) (fun i p h => by simpa using h) hL hR (h5 α μ) h6
  refine ⟨.agg xs'.toArray, run_build w t vs _ ?_, by simp only [conc, a2, Option.map_some]⟩
  unfold Program.built
  simp only [h1, hu, h4, places_ok hp hpl]
  simpa using a1
 ·rename_i n e hd
  have hu := hT.ok; rw [hd] at hu
  have hh__ := bind_ok h; clear h; obtain ⟨ie, hie, h⟩ := hh__
  have hh__ := bind_ok h; clear h; obtain ⟨L, hL, h⟩ := hh__
  cases h
  obtain ⟨inf', j1, j2, -⟩ := (ti_ok hp hie).info
  obtain ⟨xs', a1, a2, a3⟩ := fill_ok (fun k => some (k * ie.sz, ie.sz)) (fun k => some (k * ie.sz, ie.sz)) (fun i p h => h) hL hR (h5 α μ) h6
  refine ⟨.agg xs'.toArray, run_build w t vs _ ?_, by simp only [conc, a2, Option.map_some]⟩
  unfold Program.built
  simp only [h1, hu, h4, j1, j2]
  simpa using a1
 cases h
theorem k_build (hp : PrOk pr P) {ps : Array (Nat × Operand)} (ho : o.op = .build t ps) (h : (parts fr ps.toList).bind (fun l => (build pr t l).bind fun v => Res.ok (σ, v)) = .ok (σ', v)) : OpOk P α fr o σ σ' v := by
 have hh__ := bind_ok h; clear h; obtain ⟨l, hl, h⟩ := hh__
 have hh__ := bind_ok h; clear h; obtain ⟨v0, hv, h⟩ := hh__
 cases h
 refine OpOk.pure fun μ w A hf => ?_
 have hR := parts_ok hf hl
 obtain ⟨X, h1, h2⟩ := build_ok (w := w) (vs := ps.map fun p => (p.1, A.eval p.2)) hp hv (by simpa using hR)
 exact ⟨X, ex_buildN ho rfl h1, h2⟩
theorem zeros_conc {z : List V} {xs : List Value} (h : concL α μ z = some xs) : ∀ n, concL α μ (zeros z n) = some (List.replicate n xs).flatten
 | 0 => by simp [zeros, concL]
 | n + 1 => by
  simp only [zeros, List.replicate_succ, List.flatten_cons]
  exact concL_append h (zeros_conc h n)
theorem zeros_leaf {z : List V} (h : allLeaf z = true) : ∀ n, allLeaf (zeros z n) = true
 | 0 => rfl
 | n + 1 => by
  have := zeros_leaf h n
  rw [allLeaf_iff] at h this ⊢
  intro v hv
  simp only [zeros, List.mem_append] at hv
  rcases hv with hv | hv
  ·exact h v hv
  exact this v hv
theorem flat_get {β : Type} (xs : List β) : ∀ (n i : Nat), i < n * xs.length → (List.replicate n xs).flatten[i]? = xs[i % xs.length]?
 | 0, i, h => by simp at h
 | n + 1, i, h => by
  simp only [List.replicate_succ, List.flatten_cons]
  by_cases hi : i < xs.length
  ·rw [List.getElem?_append_left hi, Nat.mod_eq_of_lt hi]
  rw [List.getElem?_append_right (by omega), flat_get xs n (i - xs.length) (by rw [Nat.succ_mul] at h; omega)]
  congr 1
  exact (Nat.mod_eq_sub_mod (by omega)).symm
theorem madeCells_flat (zc : Array Value) (n : Nat) : (madeCells zc (n * zc.size)).toList = (List.replicate n zc.toList).flatten := by
 apply List.ext_getElem?
 intro i
 by_cases hi : i < n * zc.size
 ·rw [flat_get _ _ _ (by simpa using hi)]
  have hz : 0 < zc.size := by
   rcases Nat.eq_zero_or_pos zc.size with h | h
   ·rw [h] at hi; omega
   exact h
  have hm := Nat.mod_lt i hz
  simp only [madeCells, Array.getElem?_toList, Array.getElem?_map, Array.getElem?_range, hi, if_true, Option.map_some, Array.length_toList]
  rw [Array.getElem?_eq_getElem hm, getElem!_pos zc (i % zc.size) hm]
 rw [List.getElem?_eq_none (by simp [madeCells]; omega), List.getElem?_eq_none (by simp; omega)]
theorem k_makeSlice (hp : PrOk pr P) {l cc : V} (ho : o.op = .makeSlice t x y) (hx : opnd fr x = .ok l) (hy : opnd fr y = .ok cc) (h : makeSlice pr σ t l cc = .ok (σ', v)) : OpOk P α fr o σ σ' v := by
 unfold makeSlice at h
 have hh__ := bind_ok h; clear h; obtain ⟨i, hi, h⟩ := hh__
 have hT := ti_ok hp hi
 split at h
 ·rename_i e hd
  have hu := hT.ok; rw [hd] at hu
  have hh__ := bind_ok h; clear h; obtain ⟨ie, hie, h⟩ := hh__
  have hh__ := bind_ok h; clear h; obtain ⟨z0, hz, h⟩ := hh__
  have hh__ := bind_ok h; clear h; obtain ⟨ln, hln, h⟩ := hh__
  have hh__ := bind_ok h; clear h; obtain ⟨cp, hcp, h⟩ := hh__
  have hh__ := cond_ok h; clear h; obtain ⟨hb, h⟩ := hh__
  cases h
  simp only [Bool.and_eq_true] at hb
  obtain ⟨⟨b1, b2⟩, b3⟩ := hb
  have b1 := Nat.le_of_ble_eq_true b1
  have b2 := Nat.le_of_ble_eq_true b2
  have b3 := Nat.le_of_ble_eq_true b3
  obtain ⟨inf, zv, h1, h2, h3, h4, h5, h6, h7, h8, h9⟩ := zc_ok hp hie hz
  refine OpOk.new (Rd.refl _) fun μ c w M N A _ _ hf => ?_
  obtain ⟨k1, e1⟩ := natOf_ok hln (opnd_ok hf hx)
  obtain ⟨k2, e2⟩ := natOf_ok hcp (opnd_ok hf hy)
  have hrun := run_make (P := P) w t e inf zv hu h1 h4 k1 k2 ln cp (by omega) (by omega) (by rw [h3, Int.mul_comm, ← Int.natCast_mul]; omega) (by omega)
  simp only [Int.toNat_natCast] at hrun
  refine ⟨_, cp, _, _, made_alloc w _, .inl (ex_make ho e1 e2 hrun), fun μ' hle hμ => ⟨?_, by simp only [conc, hμ, Option.map_some]⟩⟩
  have hcz := zeros_conc (h5 α μ') cp
  have := objR_new (P := P) (cap := cp) (ty := e) hcz (zeros_leaf h6 cp)
  rw [← madeCells_flat, h7, ← h2] at this
  simpa using this
 cases h
theorem k_buildSlice (hp : PrOk pr P) {ps : Array (Nat × Operand)} {len : Nat} (ho : o.op = .buildSlice t len ps) {l : List (Nat × V)} (hl : parts fr ps.toList = .ok l) (h : buildSlice pr σ t len l = .ok (σ', v)) : OpOk P α fr o σ σ' v := by
 unfold buildSlice at h
 have hh__ := bind_ok h; clear h; obtain ⟨i, hi, h⟩ := hh__
 have hT := ti_ok hp hi
 split at h
 ·rename_i e hd
  have hu := hT.ok; rw [hd] at hu
  have hh__ := bind_ok h; clear h; obtain ⟨ie, hie, h⟩ := hh__
  have hh__ := bind_ok h; clear h; obtain ⟨z0, hz, h⟩ := hh__
  have hh__ := bind_ok h; clear h; obtain ⟨L, hL, h⟩ := hh__
  have hh__ := cond_ok h; clear h; obtain ⟨hb, h⟩ := hh__
  cases h
  have hb := Nat.le_of_ble_eq_true hb
  obtain ⟨inf, zv, h1, h2, h3, h4, h5, h6, h7, h8, h9⟩ := zc_ok hp hie hz
  refine OpOk.new (Rd.refl _) fun μ c w M N A _ _ hf => ?_
  have hR := parts_ok hf hl
  obtain ⟨xs', a1, a2, a3⟩ := fill_ok (α := α) (μ := μ) (fun k => some (k * ie.sz, ie.sz)) (fun k => some (k * ie.sz, ie.sz)) (fun i p h => h) hL hR (zeros_conc (h5 α μ) len) (zeros_leaf h6 len)
  have hrun : (Instr.buildSlice t len (ps.map fun p => (p.1, A.eval p.2))).run P w = .ok (.slice (some ⟨w.heap.size, 0, none⟩) len len) (w.alloc (.cells xs'.toArray e)) := by
   have a1' : Instr.fill (fun i => some (i * ie.sz, ie.sz)) (madeCells zv.cells (len * ie.sz)) (ps.map fun p => (p.1, A.eval p.2)).toList = some xs'.toArray := by
    rw [← a1]
    congr 1
    ·apply Array.ext'
     rw [← h7, madeCells_flat]
    simp
   by_cases h0 : len * ie.sz = 0
   ·have : madeCells zv.cells (len * ie.sz) = #[] := by rw [h0]; simp [madeCells]
    rw [this] at a1'
    simp [Instr.buildSlice, run_underlying hu, (ti_ok hp hie).size, h0, newRow]
    simp at a1'
    have hr0 : Array.map (fun _ => (default : Value)) (Array.range 0) = #[] := by simp [Array.range_zero']
    rw [hr0, a1']
    simp
   have hle : ¬ len * ie.sz > 2 ^ 24 := by omega
   have a2' : Instr.fill (fun i => some (i * inf.size, inf.size)) ((Array.range (len * inf.size)).map (zv.cells[· % zv.cells.size]!)) (ps.map fun p => (p.1, A.eval p.2)).toList = some xs'.toArray := by
    rw [h2]; exact a1'
   have hle' : ¬ len * inf.size > 2 ^ 24 := by rw [h2]; exact hle
   have h0' : ¬ len * inf.size = 0 := by rw [h2]; exact h0
   simp only [Instr.buildSlice, Sem.run_bind, run_underlying hu, Result.andThen_ok, sizeOf, typeInfo, Sem.run_pure]
   simp [h1, hle', h0', zeroValue, typeInfo, h4, newRow]
   simp at a2'
   rw [a2']
   simp
  have hex : Ex P A o w (.slice (some ⟨w.heap.size, 0, none⟩) len len) (w.alloc (.cells xs'.toArray e)) := by
   unfold Ex; simp [execOp, ho]
   have : (Array.map (fun x => match x with | (i, x) => (i, A.eval x)) ps) = ps.map fun p => (p.1, A.eval p.2) := rfl
   rw [hrun]
   rfl
  refine ⟨_, len, _, _, made_alloc w _, .inl hex, fun μ' hle hμ => ⟨objR_new (concL_mono hle _ a2) a3, by simp only [conc, hμ, Option.map_some]⟩⟩
 cases h
end
end Go.Eng
/- The evaluator's append, copy and clear, beside the model's. -/
namespace Go.Eng
open Go Go.RowKit Go.Pm
theorem cellsD_conc {α : At} {μ : Mu} : ∀ (l : List Nat), concL α μ (cellsD l) = some (l.map fun (d : Nat) => Value.int .u8 (d : Int))
 | [] => by simp [cellsD, concL]
 | d :: l => concL_mk (mk_i _ _) (cellsD_conc l)
theorem cellsD_leaf : ∀ (l : List Nat), allLeaf (cellsD l) = true
 | [] => rfl
 | d :: l => by simp [cellsD, allLeaf, isLeaf, cellsD_leaf l]
theorem digs_cells (n x : Nat) : (digs n x []).map (fun (d : Nat) => Value.int .u8 (d : Int)) = (beOf n x).map (fun b => Value.int .u8 (b.toNat : Int)) := by
 rw [← digs_be, List.map_map]
 apply List.map_congr_left
 intro d hd
 have := digs_lt n x d hd
 simp [UInt8.toNat_ofNat', Nat.mod_eq_of_lt this]
section
variable {P : Program} {α : At} {μ μ' : Mu} {c c' : Nat → O} {fr : Fr} {o : Oper} {σ σ' : St} {w w' : World} {v : V} {x y z : Operand} {t u e : TypeId} {M : Nat → Prop} {N : Nat} {pr : Pr} {k : Nat}
theorem lenOf_ok {a : V} {n : Nat} {X : Value} (h : lenOf a = .ok n) (hx : conc α μ a = some X) (w : World) : (Builtin.lenOf X).run P w = .ok n w := by
 unfold lenOf at h
 split at h
 ·cases h
  rcases conc_sl hx with ⟨-, rfl, -, rfl⟩ | ⟨_, _, _, _, -, -, ⟨_, -, rfl⟩ | ⟨_, -, rfl⟩⟩ <;> simp [Builtin.lenOf]
 ·cases h
  simp only [conc, Option.map_eq_some_iff] at hx
  obtain ⟨_, _, rfl⟩ := hx
  split <;> simp [Builtin.lenOf]
 ·split at h
  ·rename_i m y hl
   cases h
   rw [conc_s hx, lit?_ok hl]
   have : (⟨(beOf n y).toArray⟩ : ByteArray).size = n := by show (beOf n y).toArray.size = n; simp [beOf_length]
   simp [Builtin.lenOf, this]
  cases h
 cases h
theorem loadN_rd {off n : Nat} {vs : List V} (e : loadN σ k off n = .ok (σ', vs)) : σ' = rd σ k := by
 unfold loadN at e
 split at e
 ·split at e
  ·cases e; rfl
  cases e
 cases e
theorem firsts_ok {a : V} {n sz : Nat} {vs : List V} (hn : lenOf a = .ok n ∨ ∃ m, lenOf a = .ok m ∧ n ≤ m) (h : firsts σ sz n a = .ok (σ', vs)) : Rd σ σ' ∧ (Pre P α μ c σ w M N → Sub σ' M → ∀ X, conc α μ a = some X → ∃ xs, concL α μ vs = some xs ∧ allLeaf vs = true ∧ xs.length = n * sz ∧
  ∀ w', w'.heap = w.heap → (Builtin.firstCells sz n X).run P w' = .ok xs.toArray w') := by
 have hnle : ∃ m, lenOf a = .ok m ∧ n ≤ m := by
  rcases hn with h | h
  ·exact ⟨n, h, Nat.le_refl _⟩
  exact h
 clear hn
 unfold firsts at h
 split at h
 ·cases h
  refine ⟨Rd.refl _, fun _ _ X hX => ?_⟩
  rcases conc_sl hX with ⟨-, rfl, -, rfl⟩ | ⟨_, _, _, _, e, -⟩
  ·obtain ⟨m, h1, h2⟩ := hnle
   cases h1
   have : n = 0 := by omega
   subst this
   exact ⟨[], by simp [concL], rfl, by simp, fun w' _ => by simp [Builtin.firstCells]⟩
  cases e
 ·rename_i k0 o0 _ _
  have hr := loadN_rd h
  subst hr
  refine ⟨Rd.rd _ _, fun hpre hs X hX => ?_⟩
  obtain ⟨-, b, cap, xs, h1, h2, h3, h4, h5, h6⟩ := loadN_ok hpre hs h
  refine ⟨xs, h2, h4, h3, fun w' hw => ?_⟩
  have hrun : (loadCells ⟨b, o0, none⟩ (n * sz)).run P w' = .ok xs.toArray w' := by
   have := run_loadCells_list (P := P) w' ⟨b, o0, none⟩ xs (fun j v hj => by
    have e1 : (⟨b, o0, none⟩ : Addr).add j = ⟨b, o0 + j, none⟩ := addr_add _ _ _
    rw [e1]
    have := h5 j v hj
    simpa [World.cell?, hw] using this)
   rwa [h3] at this
  rcases conc_sl hX with ⟨e, -⟩ | ⟨_, _, b', cap', e, hμ, ⟨_, -, rfl⟩ | ⟨_, -, rfl⟩⟩
  ·cases e
  ·cases e; rw [h1] at hμ; cases hμ; simpa [Builtin.firstCells] using hrun
  cases e; rw [h1] at hμ; cases hμ; simpa [Builtin.firstCells] using hrun
 ·have hh__ := cond_ok h; clear h; obtain ⟨h0, h⟩ := hh__
  cases h
  have h0 : n = 0 := by simpa [beq_of] using h0
  subst h0
  refine ⟨Rd.refl _, fun _ _ X hX => ⟨[], by simp [concL], rfl, by simp, fun w' _ => ?_⟩⟩
  simp only [conc, Option.map_eq_some_iff] at hX
  obtain ⟨_, _, rfl⟩ := hX
  split <;> simp [Builtin.firstCells, loadCells, loadCellsFrom]
 ·split at h
  ·rename_i m y hl
   have hh__ := cond_ok h; clear h; obtain ⟨h1, h⟩ := hh__
   split at h
   ·rename_i l hl'
    cases h
    have h1 : sz = 1 := by simpa [beq_of] using h1
    subst h1
    refine ⟨Rd.refl _, fun _ _ X hX => ?_⟩
    obtain ⟨rfl, hle⟩ := takeL_eq _ _ _ hl'
    rw [conc_s hX, lit?_ok hl]
    have hcc := concL_take (α := α) (μ := μ) n (cellsD_conc (α := α) (μ := μ) (digs m y []))
    have hlen := concL_length (cellsD_conc (α := α) (μ := μ) (digs m y []))
    refine ⟨_, hcc, ?_, ?_, fun w' _ => ?_⟩
    ·have := cellsD_leaf (digs m y [])
     rw [allLeaf_iff] at this ⊢
     exact fun v hv => this v (List.mem_of_mem_take hv)
    ·simp only [List.length_take, List.length_map, digs_length] at hlen ⊢
     unfold bytesL at hle
     omega
    simp only [Builtin.firstCells, Sem.run_pure]
    congr 1
    apply Array.ext'
    rw [digs_cells]
    simp [ByteArray.data_extract, List.extract_eq_take_drop, List.map_take]
   cases h
  cases h
 cases h
structure AppArgs (P : Program) (t t2 e : TypeId) (inf : TypeInfo) (zv : Value) (ts : Array TypeId) (as' : Array Value) (S X : Value) : Prop where
 t0 : ts[0]? = some t
 t1 : ts[1]? = some t2
 a0 : as'[0]? = some S
 a1 : as'[1]? = some X
 ht : P.underlying t = some (.slice e)
 ht2 : ∃ d, P.underlying t2 = some d ∧ isSeq d = true
 hi : P.info? e = some inf
 hz : inf.zero = some zv
theorem run_append_room' {t2 ty : TypeId} {inf : TypeInfo} {zv : Value} {ts : Array TypeId} {as' : Array Value} {X : Value} {base : Option Addr} {n cap m : Nat} {news : List Value} (H : AppArgs P t t2 e inf zv ts as' (.slice base n cap) X) (hl : (Builtin.lenOf X).run P w = .ok m w)
  (hf : (Builtin.firstCells inf.size m X).run P w = .ok news.toArray w) (hroom : n + m ≤ cap) (hst : match base with | some a => (storeCells (a.add (n * inf.size)) news).run P w = .ok () w' | none => w' = w) :
  (Builtin.append_ ts ty as').run P w = .ok (.slice base (n + m) cap) w' := by
 obtain ⟨t0, t1, a0, a1, ht, ⟨d, ht2, hs⟩, hi, hz⟩ := H
 have hd : ∀ k, d ≠ .int k := by intro k e; subst e; cases hs
 have hm : (match d with | .int _ => true | _ => false) = false := by cases d <;> first | rfl | exact absurd rfl (hd _)
 simp only [Builtin.append_, t0, a0, a1, t1]
 cases base with
 | none =>
  subst hst
  simp [run_underlying ht, run_underlying ht2, sizeOf, typeInfo, hi, hl, hroom, hf]
 | some a =>
  simp only at hst
  simp [run_underlying ht, run_underlying ht2, sizeOf, typeInfo, hi, hl, hroom, hf, hst]
theorem run_append_grow' {t2 ty : TypeId} {inf : TypeInfo} {zv : Value} {ts : Array TypeId} {as' : Array Value} {X : Value} {base : Option Addr} {n cap m : Nat} {olds news : List Value} (H : AppArgs P t t2 e inf zv ts as' (.slice base n cap) X) (hl : (Builtin.lenOf X).run P w = .ok m w)
  (hf : (Builtin.firstCells inf.size m X).run P w.drew = .ok news.toArray w.drew) (hfo : (Builtin.firstCells inf.size n (.slice base n cap)).run P w.drew = .ok olds.toArray w.drew) (hg : cap < n + m) (h63 : n + m ≤ 9223372036854775807) (hfit : Builtin.nextslicecap (n + m) cap * inf.bytes ≤ 281474976710656) :
  (Builtin.append_ ts ty as').run P w = .ok (.slice (some ⟨w.heap.size, 0, none⟩) (n + m) (grownCap w (n + m) cap e)) (w.drew.alloc (.cells (olds ++ news ++ (Builtin.zeroCells zv.cells (grownCap w (n + m) cap e - (n + m))).toList).toArray e)) := by
 obtain ⟨t0, t1, a0, a1, ht, ⟨d, ht2, hs⟩, hi, hz⟩ := H
 have hd : ∀ k, d ≠ .int k := by intro k e; subst e; cases hs
 have hm : (match d with | .int _ => true | _ => false) = false := by cases d <;> first | rfl | exact absurd rfl (hd _)
 have hn : ¬ (n + m ≤ cap) := by omega
 have h63' : ¬ (9223372036854775807 < ((n : Int) + (m : Int))) := by omega
 have h48' : ¬ (281474976710656 < Builtin.nextslicecap (n + m) cap * inf.bytes) := by omega
 simp only [Builtin.append_, t0, a0, a1, t1]
 simp [run_underlying ht, run_underlying ht2, sizeOf, typeInfo, zeroValue, hi, hz, hl, hn, h63', h48', Question.forced, hf, hfo, newRow, grownCap]
 congr 2
 apply Array.ext'
 simp [List.append_assoc]
theorem Post.move (h : Pre P α μ c σ w M N) (wf : Wf σ) (hk : M k) (hl : obj σ k ≠ .dead) (_ : M σ.nx) (hN : σ.nx + 1 ≤ N) {b cap : Nat} (hμ : μ k = some (b, cap)) {ob : Obj} (hw : Wrote w w' b ob) {x : O} (hx : ObjR P α (upd μ σ.nx (some (b, cap))) cap x ob) :
  Post P α μ c σ w (upd μ σ.nx (some (b, cap))) (upd (upd c k .dead) σ.nx x) (Eng.new (Eng.wr σ k .dead) x).1 w' M N ∧ μ.Le (upd μ σ.nx (some (b, cap))) := by
 have hfr : μ σ.nx = none := h.fresh σ.nx (Nat.le_refl _) (by omega)
 have hle : μ.Le (upd μ σ.nx (some (b, cap))) := fun j y hj => by
  rw [upd_ne _ _ (by intro e; subst e; rw [hfr] at hj; cases hj)]; exact hj
 have hkn : k ≠ σ.nx := by intro e; exact hl (wf k (by rw [e]; exact Nat.le_refl _))
 have hck : c k ≠ .dead := by rw [h.ag k hk]; exact hl
 have live : ∀ j, j ≠ σ.nx → upd (upd c k .dead) σ.nx x j ≠ .dead → c j ≠ .dead ∧ j ≠ k := fun j hj hd => by
  rw [upd_ne _ _ hj] at hd
  by_cases e : j = k
  ·subst e; rw [upd_same] at hd; exact absurd rfl hd
  rw [upd_ne _ _ e] at hd; exact ⟨hd, e⟩
 have bits : ∀ j, (Eng.new (Eng.wr σ k .dead) x).1.w.testBit j = (σ.w.testBit j || decide (j = k) || decide (j = σ.nx)) := fun j => by
  show (Nat.lor (Nat.lor σ.w (2 ^ k)) (2 ^ σ.nx)).testBit j = _
  rw [bit_lor, bit_lor]
 refine ⟨⟨⟨⟨fun j hj => ?_, fun i j b' x' y' h1 h2 h3 h4 => ?_, fun j i v hv => (h.sim.win j i v hv).imp fun x hx => ⟨hx.1, by rw [cell_other (hw.other _ (Ne.symm (h.sim.sep k b cap hck hμ j (win_ne hv))))]; exact hx.2⟩, fun j o ho hj => by rw [hw.other _ (Ne.symm (h.sim.sep k b cap hck hμ j hj))]; exact h.sim.full j o ho hj, fun i b' x' h1 h2 j hj => by
  by_cases e : i = σ.nx
  ·subst e
   rw [upd_same] at h2; cases h2
   exact h.sim.sep k b cap hck hμ j hj
  obtain ⟨d1, d2⟩ := live i e h1
  rw [upd_ne _ _ e] at h2
  exact h.sim.sep i b' x' d1 h2 j hj⟩, fun j hj => ?_, fun j h1 h2 => ?_⟩, fun j hj => ?_, fun j hj => ?_, fun j b' y h1 h2 hy => ?_, fun b' h1 h2 => ?_, by rw [hw.size]; exact Nat.le_refl _, hw.os, hw.tape, hw.output⟩, hle⟩
 ·by_cases e : j = σ.nx
  ·subst e
   rw [upd_same, upd_same]
   exact ⟨b, cap, ob, rfl, hw.at_, hx⟩
  obtain ⟨d1, d2⟩ := live j e hj
  rw [upd_ne _ _ e, upd_ne _ _ e, upd_ne _ _ d2]
  obtain ⟨b', cap', o', a1, a2, a3⟩ := h.sim.live j d1
  refine ⟨b', cap', o', a1, ?_, a3.mono hle⟩
  rw [hw.other b' (fun e' => ?_)]
  ·exact a2
  subst e'; exact d2 (h.sim.inj j k b' cap' cap d1 hck a1 hμ)
 ·by_cases e : i = σ.nx
  ·by_cases e' : j = σ.nx
   ·rw [e, e']
   obtain ⟨d1, d2⟩ := live j e' h2
   subst e
   rw [upd_same] at h3; cases h3
   rw [upd_ne _ _ e'] at h4
   exact absurd (h.sim.inj j k b y' cap d1 hck h4 hμ) d2
  obtain ⟨d1, d2⟩ := live i e h1
  by_cases e' : j = σ.nx
  ·subst e'
   rw [upd_same] at h4; cases h4
   rw [upd_ne _ _ e] at h3
   exact absurd (h.sim.inj i k b x' cap d1 hck h3 hμ) d2
  obtain ⟨d3, d4⟩ := live j e' h2
  rw [upd_ne _ _ e] at h3
  rw [upd_ne _ _ e'] at h4
  exact h.sim.inj i j b' x' y' d1 d3 h3 h4
 ·rw [obj_new]
  by_cases e : j = σ.nx
  ·subst e; rw [upd_same]; exact (if_pos rfl).symm
  rw [upd_ne _ _ e]
  have : (Eng.wr σ k .dead).nx = σ.nx := rfl
  rw [this, if_neg e, obj_wr]
  by_cases e' : j = k
  ·subst e'; rw [upd_same, if_pos rfl]
  rw [upd_ne _ _ e', if_neg e']; exact h.ag j hj
 ·have h1' : σ.nx + 1 ≤ j := h1
  rw [upd_ne _ _ (by omega)]
  exact h.fresh j (by omega) h2
 ·have : j ≠ σ.nx := by
   rcases hj with hj | hj
   ·omega
   have : σ.nx + 1 ≤ j := hj
   omega
  rw [upd_ne _ _ this]
 ·rw [bits] at hj
  have e1 : j ≠ k := by intro e; simp [e] at hj
  have e2 : j ≠ σ.nx := by intro e; simp [e] at hj
  rw [upd_ne _ _ e2, upd_ne _ _ e1]
 ·have : j = σ.nx := by
   have : j < σ.nx + 1 := h2
   omega
  subst this
  rw [upd_same] at hy; cases hy
  refine .inr ⟨k, cap, by rw [bits]; simp, ?_, hck, hμ⟩
  rcases Nat.lt_or_ge k σ.nx with h | h
  ·exact h
  exact absurd (wf k h) hl
 refine hw.other b' (fun e => ?_)
 subst e
 exact h2 k cap (by rw [bits]; simp) hck hμ
theorem made_drew (w : World) (ob : Obj) : Made w (w.drew.alloc ob) ob := by
 have h := made_alloc w.drew ob
 exact ⟨h.at_, h.other, h.size, h.os, h.tape, h.output⟩
theorem objR_grown {st : Bool} {L : List V} {xs : List Value} {n cap : Nat} {inf : TypeInfo} {zv : Value} (hc : concL α μ L = some xs) (hl : allLeaf L = true) (hi : P.info? e = some inf) (hz : zv.cells.size = inf.size) (hx : xs.length = n * inf.size) (hn : n ≤ cap) :
  ObjR P α μ cap (.cells L e true st) (.cells (xs ++ (Builtin.zeroCells zv.cells (cap - n)).toList).toArray e (0, 0)) := by
 refine ⟨xs, _, (0, 0), hc, hl, rfl, fun _ => rfl, fun i _ h => by simp at h, ⟨_, rfl⟩, inf, hi, ?_⟩
 simp only [List.size_toArray, List.length_append, hx, Array.length_toList, size_zeroCells, hz, ← Nat.add_mul]
 congr 1
 omega
theorem allLeaf_append {a b : List V} (ha : allLeaf a = true) (hb : allLeaf b = true) : allLeaf (a ++ b) = true := by
 rw [allLeaf_iff] at ha hb ⊢
 intro v hv
 rcases List.mem_append.1 hv with h | h
 ·exact ha v h
 exact hb v h
end
end Go.Eng
/- The evaluator's append, copy and clear as operations, beside the model's. -/
namespace Go.Eng
open Go Go.RowKit Go.Pm
section
variable {P : Program} {α : At} {μ μ' : Mu} {c c' : Nat → O} {fr : Fr} {o : Oper} {σ σ' : St} {w w' : World} {v : V} {x y z : Operand} {t u e : TypeId} {M : Nat → Prop} {N : Nat} {pr : Pr} {k : Nat}
theorem storeN_tr {k0 o0 : Nat} {vs : List V} (hr : storeN σ k0 o0 vs = .ok σ') : Tr σ σ' ∧ allLeaf vs = true := by
 unfold storeN at hr
 split at hr
 ·rename_i L ty gr st ho
  have hh__ := cond_ok hr; clear hr; obtain ⟨hl, hr⟩ := hh__
  split at hr
  ·cases hr
   exact ⟨tr_wr _ (by rw [ho]; simp), hl⟩
  cases hr
 cases hr
theorem OpOk.store2 {σ1 : St} (hr1 : Rd σ σ1) {k0 o0 : Nat} {vs : List V} (hr : storeN σ1 k0 o0 vs = .ok σ')
  (h : ∀ μ c w M N a, Pre P α μ c σ w M N → Sub σ' M → FrA α μ fr a → ∃ xs, concL α μ vs = some xs ∧ ∀ b cap w', μ k0 = some (b, cap) → (storeCells ⟨b, o0, none⟩ xs).run P w = .ok () w' → ∃ X, Ran P a o w X w' ∧ conc α μ v = some X) : OpOk P α fr o σ σ' v := by
 refine ⟨hr1.tr.trans (storeN_tr hr).1, fun μ c w M N a hpre _ hs _ hf => ?_⟩
 obtain ⟨xs, h1, h2⟩ := h μ c w M N a hpre hs hf
 obtain ⟨-, b, cap, w', c', h3, h4, h5⟩ := storeN_ok (hpre.after_rd hr1) hs hr h1
 obtain ⟨X, h6, h7⟩ := h2 b cap w' h3 h4
 exact ⟨X, w', μ, c', h6, h5.after_rd hr1, h7⟩
theorem OpOk.move {σ1 : St} (hr : Rd σ σ1) (hl : obj σ1 k ≠ .dead) {O' : O} (h : ∀ μ c w M N a, Pre P α μ c σ w M N → Sub (Eng.new (wr σ1 k .dead) O').1 M → FrA α μ fr a → ∃ X w', Ran P a o w X w' ∧
      ((∃ b cap ob, μ k = some (b, cap) ∧ Wrote w w' b ob ∧ ∀ μ' : Mu, μ.Le μ' → μ' σ1.nx = some (b, cap) → ObjR P α μ' cap O' ob ∧ conc α μ' v = some X) ∨
       (∃ ob cap, Made w w' ob ∧ ∀ μ' : Mu, μ.Le μ' → μ' σ1.nx = some (w.heap.size, cap) → ObjR P α μ' cap O' ob ∧ conc α μ' v = some X))) : OpOk P α fr o σ (Eng.new (wr σ1 k .dead) O').1 v := by
  have t2 : Tr σ1 (wr σ1 k .dead) := tr_wr _ hl
  refine ⟨hr.tr.trans (t2.trans (tr_new _ _)), fun μ c w M N a hp wf hs hN hf => ?_⟩
  obtain ⟨X, w', hran, hh⟩ := h μ c w M N a hp hs hf
  have hp1 := hp.after_rd hr
  have wf1 := wf.after_rd hr
  have hN' : σ1.nx + 1 ≤ N := hN
  have hM : M σ1.nx := sub_new (σ := wr σ1 k .dead) hs
  have hk : M k := hs k (.inr (by show (Nat.lor (Nat.lor σ1.w (2 ^ k)) (2 ^ σ1.nx)).testBit k = true; rw [bit_lor, bit_lor]; simp))
  have hfr : μ σ1.nx = none := hp1.fresh σ1.nx (Nat.le_refl _) (by omega)
  have hle : ∀ y, μ.Le (upd μ σ1.nx (some y)) := fun y j z hj => by
    rw [upd_ne _ _ (by intro e; subst e; rw [hfr] at hj; cases hj)]; exact hj
  rcases hh with ⟨b, cap, ob, h1, h2, h3⟩ | ⟨ob, cap, h2, h3⟩
  · obtain ⟨h4, h5⟩ := h3 _ (hle _) (upd_same _ _ _)
    obtain ⟨h6, -⟩ := Post.move hp1 wf1 hk hl hM hN' h1 h2 h4
    exact ⟨X, w', _, _, hran, h6.after_rd hr, h5⟩
  obtain ⟨h4, h5⟩ := h3 _ (hle _) (upd_same _ _ _)
  have p1 := Post.kill hp1 hk
  have wf2 : Wf (wr σ1 k .dead) := t2.wf wf1
  obtain ⟨p2, -⟩ := Post.new (σ := wr σ1 k .dead) p1.pre wf2 hM hN' h2 h4
  exact ⟨X, w', _, _, hran, (Post.trans hp1 wf1 p1 t2 p2 (tr_new _ _) hs).after_rd hr, h5⟩
theorem ex_append {cl : Call} {X : Value} {a : Act} (ho : o.op = .call cl) (hc : cl.callee = .builtin .append) (h : (Builtin.append_ cl.argTypes o.type (cl.args.map a.eval)).run P w = .ok X w') : Ex P a o w X w' := by
 obtain ⟨callee, args, ts⟩ := cl
 simp only at hc h
 subst hc
 unfold Ex
 simp [execOp, ho, resolve, invoke, Go.builtin, h]
theorem mk_slu {k o e n b cap : Nat} (h : μ k = some (b, cap)) : conc α μ (.sl (some (k, o)) n (.u e)) = some (.slice (some ⟨b, o, none⟩) n (cap - e)) := by simp only [conc, h, Option.map_some]
set_option maxHeartbeats 1000000 in
theorem k_append (hp : PrOk pr P) {cl : Call} {s a2 : V} {rest : List V} {t2 : TypeId} {ts : List TypeId} (ho : o.op = .call cl) (hc : cl.callee = .builtin .append) (hargs : opnds fr cl.args.toList = .ok (s :: a2 :: rest)) (hts : cl.argTypes.toList = t :: t2 :: ts)
  (h : append pr σ t t2 s a2 = .ok (σ', v)) : OpOk P α fr o σ σ' v := by
 unfold append at h
 have hh__ := bind_ok h; clear h; obtain ⟨i, hi, h⟩ := hh__
 have hh__ := bind_ok h; clear h; obtain ⟨ix, hix, h⟩ := hh__
 have hh__ := cond_ok h; clear h; obtain ⟨hseq, h⟩ := hh__
 have hT := ti_ok hp hi
 have hT2 := ti_ok hp hix
 split at h
 ·rename_i e' a len cap hd
  have hu := hT.ok; rw [hd] at hu
  have hh__ := bind_ok h; clear h; obtain ⟨ie, hie, h⟩ := hh__
  have hh__ := bind_ok h; clear h; obtain ⟨z0, hz, h⟩ := hh__
  have hh__ := bind_ok h; clear h; obtain ⟨n, hn, h⟩ := hh__
  have hh__ := bind_ok h; clear h; obtain ⟨r, hr, h⟩ := hh__
  obtain ⟨σ1, new'⟩ := r
  have hh__ := cond_ok h; clear h; obtain ⟨hfit, h⟩ := hh__
  obtain ⟨inf, zv, i1, i2, i3, i4, i5, i6, i7, i8, i9⟩ := zc_ok hp hie hz
  rw [Bool.and_eq_true] at hfit
  have hsz : 0 < ie.sz := by simpa [Nat.blt_eq] using hfit.2
  have hfits : len + n ≤ 1000000 ∧ ie.bytes ≤ 1000000 := by
   have := hfit.1
   unfold fits at this
   rw [Bool.and_eq_true] at this
   exact ⟨Nat.le_of_ble_eq_true this.1, Nat.le_of_ble_eq_true this.2⟩
  have hfirst := fun {μ c w M N} => firsts_ok (P := P) (α := α) (μ := μ) (c := c) (w := w) (M := M) (N := N) (.inl hn) hr
  have hrd1 : Rd σ σ1 := (hfirst (μ := fun _ => none) (c := fun _ => .dead) (w := default) (M := fun _ => True) (N := 0)).1
  have args : ∀ {μ : Mu} {A : Act}, FrA α μ fr A → ∃ S X, conc α μ (.sl a len cap) = some S ∧ conc α μ a2 = some X ∧ AppArgs P t t2 e' inf zv cl.argTypes (cl.args.map A.eval) S X := by
   intro μ A hf
   have hall := opnds_ok hf hargs
   obtain ⟨S, ys, b1, b2, b3⟩ := concL_cons hall
   obtain ⟨X, zs, b4, b5, b6⟩ := concL_cons b2
   subst b6
   refine ⟨S, X, b1, b4, ?_, ?_, ?_, ?_, hu, ⟨ix.d, hT2.ok, hseq⟩, i1, i4⟩
   ·rw [← Array.getElem?_toList, hts]; rfl
   ·rw [← Array.getElem?_toList, hts]; rfl
   ·rw [← Array.getElem?_toList, Array.toList_map, b3]; rfl
   rw [← Array.getElem?_toList, Array.toList_map, b3]; rfl
  have h63 : len + n ≤ 9223372036854775807 := by omega
  have hgf : ∀ q, q < len + n → Builtin.nextslicecap (len + n) q * inf.bytes ≤ 281474976710656 := fun q hq => growslice_fits hq (by
   rw [i3]
   have := Nat.mul_le_mul hfits.1 hfits.2
   omega)
  unfold appendTo at h
  split at h
  ·-- nil
   rw [beq_of] at h
   by_cases h0 : n = 0
   ·simp only [h0, decide_true, cond_true] at h
    cases h
    refine OpOk.read hrd1 fun μ c w M N A hpre hs hf => ?_
    obtain ⟨S, X, b1, b2, H⟩ := args hf
    obtain ⟨xs, c1, c2, c3, c4⟩ := hfirst.2 hpre hs X b2
    rcases conc_sl b1 with ⟨-, rfl, rfl, rfl⟩ | ⟨_, _, _, _, e0, -⟩
    ·refine ⟨_, ex_append ho hc ?_, b1⟩
     have := run_append_room' (w := w) (w' := w) (ty := o.type) H (lenOf_ok hn b2 w) (by rw [i2]; exact c4 w rfl) (by omega) rfl
     rw [h0] at this
     simpa using this
    cases e0
   simp only [h0, decide_false, cond_false, grow] at h
   cases h
   refine OpOk.new hrd1 fun μ c w M N A hpre hs hf => ?_
   obtain ⟨S, X, b1, b2, H⟩ := args hf
   have hs1 : Sub σ1 M := hs.of_tr (tr_new _ _)
   obtain ⟨xs, c1, c2, c3, c4⟩ := hfirst.2 hpre hs1 X b2
   rcases conc_sl b1 with ⟨-, rfl, rfl, rfl⟩ | ⟨_, _, _, _, e0, -⟩
   ·have hrun := run_append_grow' (w := w) (ty := o.type) (olds := []) H (lenOf_ok hn b2 w) (by rw [i2]; exact c4 w.drew rfl) (by simp [Builtin.firstCells]) (by omega) h63 (hgf 0 (by omega))
    refine ⟨_, grownCap w (0 + n) 0 e', _, _, made_drew w _, .inl (ex_append ho hc hrun), fun μ' hle hμ => ⟨?_, ?_⟩⟩
    ·have := objR_grown (P := P) (st := false) (e := e') (zv := zv) (n := n) (cap := grownCap w (0 + n) 0 e') (concL_mono hle _ c1) c2 i1 (by rw [i7, i2]) (by rw [c3, i2]) (by have := grownCap_ge w (0 + n) 0 e'; omega)
     simpa using this
    have := mk_slu (α := α) (o := 0) (e := 0) (n := n) hμ
    simp only [Nat.zero_add, Nat.sub_zero] at this ⊢
    exact this
   cases e0
  rename_i k0 o0
  split at h
  ·rename_i c0
   -- a known capacity
   unfold appendK at h
   cases hroom : Nat.ble (len + n) c0 with
   | true =>
    rw [hroom] at h
    have hroom := Nat.le_of_ble_eq_true hroom
    simp only [cond_true, beq_of] at h
    by_cases h0 : n = 0
    ·simp only [h0, decide_true, cond_true] at h
     cases h
     refine OpOk.read hrd1 fun μ c w M N A hpre hs hf => ?_
     obtain ⟨S, X, b1, b2, H⟩ := args hf
     obtain ⟨xs, c1, c2, c3, c4⟩ := hfirst.2 hpre hs X b2
     refine ⟨S, ex_append ho hc ?_, b1⟩
     have hxs : xs = [] := List.eq_nil_of_length_eq_zero (by rw [c3, h0]; simp)
     rcases conc_sl b1 with ⟨e0, -⟩ | ⟨k1, o1, b, cp, e0, hμ, ⟨c5, e5, rfl⟩ | ⟨_, e5, -⟩⟩
     ·cases e0
     ·cases e5
      have := run_append_room' (w := w) (w' := w) (ty := o.type) H (lenOf_ok hn b2 w) (by rw [i2]; exact c4 w rfl) hroom (by subst hxs; rfl)
      rw [h0] at this
      simpa using this
     cases e5
    simp only [h0, decide_false, cond_false] at h
    have hh__ := bind_ok h; clear h; obtain ⟨σ2, hst, h⟩ := hh__
    cases h
    refine OpOk.store2 hrd1 hst fun μ c w M N A hpre hs hf => ?_
    obtain ⟨S, X, b1, b2, H⟩ := args hf
    obtain ⟨xs, c1, c2, c3, c4⟩ := hfirst.2 hpre (hs.of_tr (storeN_tr hst).1) X b2
    refine ⟨xs, c1, fun b cp w' hμ hrun => ?_⟩
    rcases conc_sl b1 with ⟨e0, -⟩ | ⟨k1, o1, b', cp', e0, hμ', ⟨c5, e5, rfl⟩ | ⟨_, e5, -⟩⟩
    ·cases e0
    ·cases e5; cases e0
     rw [hμ] at hμ'; cases hμ'
     refine ⟨_, .inl (ex_append ho hc (run_append_room' (w := w) (w' := w') (ty := o.type) H (lenOf_ok hn b2 w) (by rw [i2]; exact c4 w rfl) hroom ?_)), by simp only [conc, hμ, Option.map_some]⟩
     show (storeCells ((⟨b, o0, none⟩ : Addr).add (len * inf.size)) xs).run P w = .ok () w'
     rw [addr_add, i2]; exact hrun
    cases e5
   | false =>
    rw [hroom] at h
    have hroom : c0 < len + n := by
     rcases Nat.lt_or_ge c0 (len + n) with h | h
     ·exact h
     rw [Nat.ble_eq_true_of_le h] at hroom; cases hroom
    simp only [cond_false] at h
    have hh__ := bind_ok h; clear h; obtain ⟨r2, hld, h⟩ := hh__
    obtain ⟨σ2, old⟩ := r2
    have hr2 := loadN_rd hld
    subst hr2
    simp only [grow] at h
    cases h
    have hrd2 : Rd σ (rd σ1 k0) := hrd1.trans (Rd.rd _ _)
    refine OpOk.new hrd2 fun μ c w M N A hpre hs hf => ?_
    obtain ⟨S, X, b1, b2, H⟩ := args hf
    have hs2 : Sub (rd σ1 k0) M := hs.of_tr (tr_new _ _)
    have hs1 : Sub σ1 M := hs2.of_tr (tr_rd _ _)
    obtain ⟨xs, c1, c2, c3, c4⟩ := hfirst.2 hpre hs1 X b2
    obtain ⟨-, b, cp, ys, d1, d2, d3, d4, d5, d6⟩ := loadN_ok (hpre.after_rd hrd1) hs2 hld
    rcases conc_sl b1 with ⟨e0, -⟩ | ⟨k1, o1, b', cp', e0, hμ', ⟨c5, e5, rfl⟩ | ⟨_, e5, -⟩⟩
    ·cases e0
    ·cases e5; cases e0
     rw [d1] at hμ'; cases hμ'
     have hfo : (Builtin.firstCells inf.size len (.slice (some ⟨b, o0, none⟩) len c0)).run P w.drew = .ok ys.toArray w.drew := run_firstCells_some (P := P) w.drew inf.size len ⟨b, o0, none⟩ len c0 ys (by rw [d3, i2]) (fun j u hj => by
      rw [addr_add]
      exact d5 j u hj)
     have hrun := run_append_grow' (w := w) (ty := o.type) H (lenOf_ok hn b2 w) (by rw [i2]; exact c4 w.drew rfl) hfo hroom h63 (hgf c0 hroom)
     refine ⟨_, grownCap w (len + n) c0 e', _, _, made_drew w _, .inl (ex_append ho hc hrun), fun μ' hle hμ => ⟨?_, ?_⟩⟩
     ·exact objR_grown (P := P) (e := e') (zv := zv) (concL_append (concL_mono hle _ d2) (concL_mono hle _ c1)) (allLeaf_append d4 c2) i1 (by rw [i7, i2]) (by rw [List.length_append, d3, c3, i2, Nat.add_mul]) (grownCap_ge w (len + n) c0 e')
     exact mk_slu (α := α) (o := 0) (e := 0) (n := len + n) hμ
    cases e5
  rename_i c0
  -- a capacity that is not known
  unfold appendU at h
  split at h
  ·rename_i L ty st hobj
   have hh__ := cond_ok h; clear h; obtain ⟨hck, h⟩ := hh__
   simp only [Bool.and_eq_true, beq_of, decide_eq_true_eq] at hck
   obtain ⟨rfl, ho0⟩ := hck
   have caps : ∀ {μ : Mu} {c w M N}, Pre P α μ c σ w M N → M k0 → ∃ b cp ys arr fz, μ k0 = some (b, cp) ∧ w.heap[b]? = some (.cells arr ty fz) ∧ concL α μ L = some ys ∧ allLeaf L = true ∧ (∀ i, i < arr.size → ¬ (fz.1 ≤ i ∧ i < fz.2)) ∧ (st = false → fz = (0, 0)) ∧ (∃ rest, arr.toList = ys ++ rest) ∧ arr.size = cp * ie.sz := by
    intro μ c w M N hpre hM
    obtain ⟨b, cp, ys, arr, fz, a1, a2, a3, a4, a5, a6, ⟨rest, a7, -⟩, a8⟩ := (hpre.after_rd hrd1).cells hM hobj
    obtain ⟨inf', j1, j2⟩ := a8 rfl
    rw [i1] at j1; cases j1
    exact ⟨b, cp, ys, arr, fz, a1, a2, a3, a4, a5, a6, ⟨rest, a7⟩, by rw [j2, i2]⟩
   cases hroom : Nat.ble (o0 + (len + n) * ie.sz) L.length with
   | true =>
    rw [hroom] at h
    have hroom := Nat.le_of_ble_eq_true hroom
    have roomOf : ∀ {μ : Mu} {c w M N}, Pre P α μ c σ w M N → M k0 → ∃ b cp, μ k0 = some (b, cp) ∧ len + n ≤ cp - c0 := by
     intro μ c w M N hpre hM
     obtain ⟨b, cp, ys, arr, fz, a1, a2, a3, a4, a5, a6, ⟨rest, a7⟩, a8⟩ := caps hpre hM
     refine ⟨b, cp, a1, ?_⟩
     have hl := concL_length a3
     have : (c0 + (len + n)) * ie.sz ≤ cp * ie.sz := by
      rw [← a8, ← Array.length_toList, a7, List.length_append, Nat.add_mul, ← ho0]; omega
     have := Nat.le_of_mul_le_mul_right this hsz
     omega
    simp only [cond_true, beq_of] at h
    by_cases h0 : n = 0
    ·simp only [h0, decide_true, cond_true] at h
     cases h
     refine OpOk.read (hrd1.trans (Rd.rd _ _)) fun μ c w M N A hpre hs hf => ?_
     have hM : M k0 := hs k0 (.inl (by show (Nat.lor σ1.r (2 ^ k0)).testBit k0 = true; rw [bit_lor]; simp))
     obtain ⟨S, X, b1, b2, H⟩ := args hf
     obtain ⟨xs, c1, c2, c3, c4⟩ := hfirst.2 hpre (hs.of_tr (tr_rd _ _)) X b2
     obtain ⟨b, cp, hμ, hle⟩ := roomOf hpre hM
     have hxs : xs = [] := List.eq_nil_of_length_eq_zero (by rw [c3, h0]; simp)
     refine ⟨S, ex_append ho hc ?_, b1⟩
     rcases conc_sl b1 with ⟨e0, -⟩ | ⟨k1, o1, b', cp', e0, hμ', ⟨c5, e5, rfl⟩ | ⟨_, e5, rfl⟩⟩
     ·cases e0
     ·cases e5
     cases e5; cases e0
     rw [hμ] at hμ'; cases hμ'
     have := run_append_room' (w := w) (w' := w) (ty := o.type) H (lenOf_ok hn b2 w) (by rw [i2]; exact c4 w rfl) hle (by subst hxs; rfl)
     rw [h0] at this
     simpa using this
    simp only [h0, decide_false, cond_false] at h
    have hh__ := bind_ok h; clear h; obtain ⟨σ2, hst, h⟩ := hh__
    cases h
    refine OpOk.store2 hrd1 hst fun μ c w M N A hpre hs hf => ?_
    have hM : M k0 := by
     unfold storeN at hst
     rw [hobj] at hst
     have hh__ := cond_ok hst; clear hst; obtain ⟨hl, hst⟩ := hh__
     split at hst
     ·cases hst
      exact hs k0 (.inr (by show (Nat.lor σ1.w (2 ^ k0)).testBit k0 = true; rw [bit_lor]; simp))
     cases hst
    obtain ⟨S, X, b1, b2, H⟩ := args hf
    obtain ⟨xs, c1, c2, c3, c4⟩ := hfirst.2 hpre (hs.of_tr (storeN_tr hst).1) X b2
    obtain ⟨b0, cp0, hμ0, hle⟩ := roomOf hpre hM
    refine ⟨xs, c1, fun b cp w' hμ hrun => ?_⟩
    rw [hμ0] at hμ; cases hμ
    rcases conc_sl b1 with ⟨e0, -⟩ | ⟨k1, o1, b', cp', e0, hμ', ⟨c5, e5, rfl⟩ | ⟨_, e5, rfl⟩⟩
    ·cases e0
    ·cases e5
    cases e5; cases e0
    rw [hμ0] at hμ'; cases hμ'
    refine ⟨_, .inl (ex_append ho hc (run_append_room' (w := w) (w' := w') (ty := o.type) H (lenOf_ok hn b2 w) (by rw [i2]; exact c4 w rfl) hle ?_)), by simp only [conc, hμ0, Option.map_some]⟩
    show (storeCells ((⟨_, _, none⟩ : Addr).add (len * inf.size)) xs).run P w = .ok () w'
    rw [addr_add, i2]; exact hrun
   | false =>
    rw [hroom] at h
    simp only [cond_false] at h
    have hh__ := cond_ok h; clear h; obtain ⟨hc0, h⟩ := hh__
    have hc0 : c0 = 0 := by simpa [beq_of] using hc0
    subst hc0
    have ho0 : o0 = 0 := by simpa using ho0
    subst ho0
    have hh__ := bind_ok h; clear h; obtain ⟨r2, hld, h⟩ := hh__
    obtain ⟨σ2, old⟩ := r2
    have hr2 := loadN_rd hld
    subst hr2
    simp only [grow] at h
    cases h
    have hrd2 : Rd σ (rd σ1 k0) := hrd1.trans (Rd.rd _ _)
    refine OpOk.move hrd2 (by rw [obj_rd, hobj]; simp) fun μ c w M N A hpre hs hf => ?_
    have hs2 : Sub (rd σ1 k0) M := (hs.of_tr (tr_new _ _)).of_tr (tr_wr _ (by rw [obj_rd, hobj]; simp))
    have hs1 : Sub σ1 M := hs2.of_tr (tr_rd _ _)
    have hM : M k0 := hs2 k0 (.inl (by show (Nat.lor σ1.r (2 ^ k0)).testBit k0 = true; rw [bit_lor]; simp))
    obtain ⟨S, X, b1, b2, H⟩ := args hf
    obtain ⟨xs, c1, c2, c3, c4⟩ := hfirst.2 hpre hs1 X b2
    obtain ⟨-, b, cp, ys, d1, d2, d3, d4, d5, d6⟩ := loadN_ok (hpre.after_rd hrd1) hs2 hld
    obtain ⟨b', cp', zs, arr, fz, a1, a2, a3, a4, a5, a6, ⟨rest', a7⟩, a8⟩ := caps hpre hM
    rw [d1] at a1; cases a1
    rcases conc_sl b1 with ⟨e0, -⟩ | ⟨k1, o1, b', cp', e0, hμ', ⟨c5, e5, rfl⟩ | ⟨_, e5, rfl⟩⟩
    ·cases e0
    ·cases e5
    cases e5; cases e0
    rw [d1] at hμ'; cases hμ'
    by_cases hin : len + n ≤ cp
    ·-- there is room
     have hst := run_storeCells_fz (P := P) b (len * ie.sz) ty fz xs 0 arr w a2 a5 (by rw [a8, c3]; have := Nat.mul_le_mul_right ie.sz hin; rw [Nat.add_mul] at this; omega) (leaves_one c2 c1)
     have hrun := run_append_room' (w := w) (ty := o.type) H (lenOf_ok hn b2 w) (by rw [i2]; exact c4 w rfl) (by simpa using hin) (by
      show (storeCells ((⟨b, 0, none⟩ : Addr).add (len * inf.size)) xs).run P w = .ok () _
      rw [addr_add, i2, Nat.zero_add]; exact hst)
     refine ⟨_, _, .inl (ex_append ho hc hrun), .inl ⟨b, cp, _, d1, wrote_setRow a2 _, fun μ' hle hμ => ⟨?_, mk_slu (α := α) (o := 0) (e := 0) (n := len + n) hμ⟩⟩⟩
     have hys : arr.toList.take (len * ie.sz + 0) = ys := by
      apply List.ext_getElem?
      intro j
      by_cases hj : j < len * ie.sz
      ·rw [Nat.add_zero, List.getElem?_take_of_lt hj]
       have hy : ys[j]? = some ys[j] := List.getElem?_eq_getElem (by omega)
       have := d5 j _ hy
       rw [Nat.zero_add, cell_of a2] at this
       rw [hy, Array.getElem?_toList]; exact this
      rw [List.getElem?_eq_none (by rw [List.length_take]; omega), List.getElem?_eq_none (by omega)]
     refine ⟨ys ++ xs, _, fz, concL_append (concL_mono hle _ d2) (concL_mono hle _ c1), allLeaf_append d4 c2, rfl, fun e => ?_, ?_, ⟨_, by rw [hys]⟩, inf, i1, ?_⟩
     ·exact a6 e
     ·intro i hi
      refine a5 i ?_
      have : (arr.toList.take (len * ie.sz + 0) ++ xs ++ arr.toList.drop (len * ie.sz + 0 + xs.length)).length = arr.size := by
       simp only [List.length_append, List.length_take, List.length_drop, Array.length_toList, a8, c3]
       have := Nat.mul_le_mul_right ie.sz hin; rw [Nat.add_mul] at this; omega
      rw [List.size_toArray, this] at hi; exact hi
     have : (arr.toList.take (len * ie.sz + 0) ++ xs ++ arr.toList.drop (len * ie.sz + 0 + xs.length)).length = arr.size := by
      simp only [List.length_append, List.length_take, List.length_drop, Array.length_toList, a8, c3]
      have := Nat.mul_le_mul_right ie.sz hin; rw [Nat.add_mul] at this; omega
     rw [List.size_toArray, this, a8, i2]
    have hfo : (Builtin.firstCells inf.size len (.slice (some ⟨b, 0, none⟩) len (cp - 0))).run P w.drew = .ok ys.toArray w.drew := run_firstCells_some (P := P) w.drew inf.size len ⟨b, 0, none⟩ len _ ys (by rw [d3, i2]) (fun j u hj => by
     rw [addr_add]
     exact d5 j u hj)
    have hrun := run_append_grow' (w := w) (ty := o.type) H (lenOf_ok hn b2 w) (by rw [i2]; exact c4 w.drew rfl) hfo (by omega) h63 (hgf _ (by omega))
    refine ⟨_, _, .inl (ex_append ho hc hrun), .inr ⟨_, grownCap w (len + n) (cp - 0) ty, made_drew w _, fun μ' hle hμ => ⟨?_, mk_slu (α := α) (o := 0) (e := 0) (n := len + n) hμ⟩⟩⟩
    exact objR_grown (P := P) (e := ty) (zv := zv) (concL_append (concL_mono hle _ d2) (concL_mono hle _ c1)) (allLeaf_append d4 c2) i1 (by rw [i7, i2]) (by rw [List.length_append, d3, c3, i2, Nat.add_mul]) (grownCap_ge w (len + n) _ ty)
  cases h
 cases h
end
end Go.Eng
