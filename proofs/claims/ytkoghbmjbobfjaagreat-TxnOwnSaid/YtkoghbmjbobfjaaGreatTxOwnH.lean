/- The evaluator's copy, clear, len, min and max, and conversions, beside the model's. -/
import Derived.Test.YtkoghbmjbobfjaaGreatTxOwnG
set_option maxRecDepth 100000
namespace Go.Eng
open Go Go.RowKit Go.Pm
section
variable {P : Program} {α : At} {μ μ' : Mu} {c c' : Nat → O} {fr : Fr} {o : Oper} {σ σ' : St} {w w' : World} {v : V} {x y z : Operand} {t u e : TypeId} {M : Nat → Prop} {N : Nat} {pr : Pr} {k : Nat}
theorem ex_builtin {cl : Call} {X : Value} {a : Act} {b : Builtin} (ho : o.op = .call cl) (hc : cl.callee = .builtin b) (f : Array TypeId → TypeId → Array Value → Sem Value) (hf : ∀ ts ty cs as', Go.builtin b ts ty cs as' = (do pure (.value (← f ts ty as')))) (h : (f cl.argTypes o.type (cl.args.map a.eval)).run P w = .ok X w') : Ex P a o w X w' := by
 obtain ⟨callee, args, ts⟩ := cl
 simp only at hc h
 subst hc
 unfold Ex
 simp [execOp, ho, resolve, invoke, hf, h]
theorem arg0 {A : Act} {cl : Call} {s : V} {rest : List V} (hf : FrA α μ fr A) (h : opnds fr cl.args.toList = .ok (s :: rest)) : ∃ S, conc α μ s = some S ∧ (cl.args.map A.eval)[0]? = some S := by
 obtain ⟨S, ys, b1, b2, b3⟩ := concL_cons (opnds_ok hf h)
 exact ⟨S, b1, by rw [← Array.getElem?_toList, Array.toList_map, b3]; rfl⟩
theorem arg1 {A : Act} {cl : Call} {s s2 : V} {rest : List V} (hf : FrA α μ fr A) (h : opnds fr cl.args.toList = .ok (s :: s2 :: rest)) : ∃ S, conc α μ s2 = some S ∧ (cl.args.map A.eval)[1]? = some S := by
 obtain ⟨S, ys, b1, b2, b3⟩ := concL_cons (opnds_ok hf h)
 obtain ⟨X, zs, b4, b5, b6⟩ := concL_cons b2
 exact ⟨X, b4, by rw [← Array.getElem?_toList, Array.toList_map, b3, b6]; rfl⟩
theorem ty0 {cl : Call} {ts : List TypeId} (h : cl.argTypes.toList = t :: ts) : cl.argTypes[0]? = some t := by rw [← Array.getElem?_toList, h]; rfl
theorem k_copy (hp : PrOk pr P) {cl : Call} {d s : V} {rest : List V} {ts : List TypeId} (ho : o.op = .call cl) (hc : cl.callee = .builtin .copy) (hargs : opnds fr cl.args.toList = .ok (d :: s :: rest)) (hts : cl.argTypes.toList = t :: ts) (h : copy pr σ t d s = .ok (σ', v)) : OpOk P α fr o σ σ' v := by
 unfold copy at h
 have hh__ := bind_ok h; clear h; obtain ⟨i, hi, h⟩ := hh__
 have hT := ti_ok hp hi
 split at h
 ·rename_i e' a dl cp hd
  have hu := hT.ok; rw [hd] at hu
  have hh__ := bind_ok h; clear h; obtain ⟨ie, hie, h⟩ := hh__
  have hh__ := bind_ok h; clear h; obtain ⟨sn, hsn, h⟩ := hh__
  have hh__ := bind_ok h; clear h; obtain ⟨r, hr, h⟩ := hh__
  obtain ⟨σ1, cs⟩ := r
  have hmin : (cond (Nat.ble sn dl) sn dl) = Nat.min sn dl := by
   cases hb : Nat.ble sn dl with
   | true => rw [cond_true]; exact (Nat.min_eq_left (Nat.le_of_ble_eq_true hb)).symm
   | false =>
    rw [cond_false]
    have : ¬ sn ≤ dl := fun h => by rw [Nat.ble_eq_true_of_le h] at hb; cases hb
    exact (Nat.min_eq_right (by omega)).symm
  rw [hmin] at hr h
  have hnle : Nat.min sn dl ≤ sn := Nat.min_le_left _ _
  have hfirst := fun {μ c w M N} => firsts_ok (P := P) (α := α) (μ := μ) (c := c) (w := w) (M := M) (N := N) (.inr ⟨sn, hsn, hnle⟩) hr
  have hrd1 : Rd σ σ1 := (hfirst (μ := fun _ => none) (c := fun _ => .dead) (w := default) (M := fun _ => True) (N := 0)).1
  have ex : ∀ {A : Act} {w w' : World} {S : Value} {base : Option Addr} {cc : Nat} {xs : List Value}, (cl.args.map A.eval)[0]? = some (.slice base dl cc) → (cl.args.map A.eval)[1]? = some S → (Builtin.lenOf S).run P w = .ok sn w → (Builtin.firstCells ie.sz (Nat.min sn dl) S).run P w = .ok xs.toArray w →
    (match base with | some a => (storeCells a xs).run P w = .ok () w' | none => w' = w) → Ex P A o w (.int .i64 (Nat.min sn dl : Nat)) w' := by
   intro A w w' S base cc xs h0 h1 h2 h3 h4
   refine ex_builtin ho hc Builtin.copy_ (fun _ _ _ _ => rfl) ?_
   simp only [Builtin.copy_, ty0 hts, h0, h1]
   cases base with
   | none => subst h4; simp [run_underlying hu, h2, (ti_ok hp hie).size, h3, goInt]
   | some a =>
    simp only at h4
    simp [run_underlying hu, h2, (ti_ok hp hie).size, h3, h4, goInt]
  dsimp only at h
  split at h
  ·cases h
   refine OpOk.read hrd1 fun μ c w M N A hpre hs hf => ?_
   obtain ⟨D, d1, d2⟩ := arg0 hf hargs
   obtain ⟨S, s1, s2⟩ := arg1 hf hargs
   obtain ⟨xs, c1, c2, c3, c4⟩ := hfirst.2 hpre hs S s1
   rcases conc_sl d1 with ⟨-, rfl, -, rfl⟩ | ⟨_, _, _, _, e0, -⟩
   ·exact ⟨_, ex d2 s2 (lenOf_ok hsn s1 w) (c4 w rfl) rfl, mk_i _ _⟩
   cases e0
  rename_i k0 o0
  rw [beq_of] at h
  by_cases h0 : Nat.min sn dl = 0
  ·simp only [h0, decide_true, cond_true] at h
   cases h
   refine OpOk.read hrd1 fun μ c w M N A hpre hs hf => ?_
   obtain ⟨D, d1, d2⟩ := arg0 hf hargs
   obtain ⟨S, s1, s2⟩ := arg1 hf hargs
   obtain ⟨xs, c1, c2, c3, c4⟩ := hfirst.2 hpre hs S s1
   have hxs : xs = [] := List.eq_nil_of_length_eq_zero (by rw [c3, h0]; simp)
   subst hxs
   refine ⟨.int .i64 (Nat.min sn dl : Nat), ?_, by rw [h0]; exact mk_i _ _⟩
   rcases conc_sl d1 with ⟨e0, -⟩ | ⟨_, _, b, cp', e0, hμ, ⟨cc, -, rfl⟩ | ⟨cc, -, rfl⟩⟩
   ·cases e0
   ·exact ex d2 s2 (lenOf_ok hsn s1 w) (c4 w rfl) rfl
   exact ex d2 s2 (lenOf_ok hsn s1 w) (c4 w rfl) rfl
  simp only [h0, decide_false, cond_false] at h
  have hh__ := bind_ok h; clear h; obtain ⟨σ2, hst, h⟩ := hh__
  cases h
  refine OpOk.store2 hrd1 hst fun μ c w M N A hpre hs hf => ?_
  obtain ⟨D, d1, d2⟩ := arg0 hf hargs
  obtain ⟨S, s1, s2⟩ := arg1 hf hargs
  obtain ⟨xs, c1, c2, c3, c4⟩ := hfirst.2 hpre (hs.of_tr (storeN_tr hst).1) S s1
  refine ⟨xs, c1, fun b cap w' hμ hrun => ⟨_, .inl ?_, mk_i _ _⟩⟩
  rcases conc_sl d1 with ⟨e0, -⟩ | ⟨_, _, b', cp', e0, hμ', ⟨cc, -, rfl⟩ | ⟨cc, -, rfl⟩⟩
  ·cases e0
  ·cases e0; rw [hμ] at hμ'; cases hμ'
   exact ex d2 s2 (lenOf_ok hsn s1 w) (c4 w rfl) hrun
  cases e0; rw [hμ] at hμ'; cases hμ'
  exact ex d2 s2 (lenOf_ok hsn s1 w) (c4 w rfl) hrun
 cases h
theorem zeroCells_flat (zc : Array Value) (n : Nat) : (Builtin.zeroCells zc n).toList = (List.replicate n zc.toList).flatten := madeCells_flat zc n
theorem entsR_length : ∀ {es : List (V × V × Nat)} {l : List MapEntry}, entsR α μ es l → es.length = l.length
 | [], [], _ => rfl
 | (_, _, _) :: es, _ :: l, h => by simp [entsR_length h.2.2.2]
 | [], _ :: _, h => h.elim
 | (_, _, _) :: _, [], h => h.elim
theorem k_len (hα : AtOk pr α) (hp : PrOk pr P) {cl : Call} {s : V} {rest : List V} {ts : List TypeId} (ho : o.op = .call cl) (hc : cl.callee = .builtin .len) (hargs : opnds fr cl.args.toList = .ok (s :: rest)) (hts : cl.argTypes.toList = t :: ts)
  (h : builtin pr σ .len (t :: ts) (s :: rest) = .ok (σ', v)) : OpOk P α fr o σ σ' v := by
 simp only [builtin] at h
 have hh__ := bind_ok h; clear h; obtain ⟨i, hi, h⟩ := hh__
 have hT := ti_ok hp hi
 have ex : ∀ {A : Act} {w : World} {X : Value}, (Builtin.len_ cl.argTypes o.type (cl.args.map A.eval)).run P w = .ok X w → Ex P A o w X w := fun hh => ex_builtin ho hc Builtin.len_ (fun _ _ _ _ => rfl) hh
 split at h
 ·rename_i ps hd; cases h
  have hu := hT.ok; rw [hd] at hu
  refine OpOk.pure fun μ w A hf => ?_
  obtain ⟨S, s1, s2⟩ := arg0 hf hargs
  rw [conc_s s1] at s2
  refine ⟨_, ex ?_, lenV_ok ps⟩
  have hsz : (⟨(bytesP α ps).toArray⟩ : ByteArray).size = (bytesP α ps).length := rfl
  simp [Builtin.len_, ty0 hts, s2, run_underlying hu, goInt, hsz]
 ·rename_i n e' hd; cases h
  have hu := hT.ok; rw [hd] at hu
  refine OpOk.pure fun μ w A hf => ?_
  obtain ⟨S, s1, s2⟩ := arg0 hf hargs
  exact ⟨_, ex (by simp [Builtin.len_, ty0 hts, s2, run_underlying hu, goInt]), mk_i _ _⟩
 ·rename_i e' a n cp hd; cases h
  have hu := hT.ok; rw [hd] at hu
  refine OpOk.pure fun μ w A hf => ?_
  obtain ⟨S, s1, s2⟩ := arg0 hf hargs
  refine ⟨.int .i64 n, ex ?_, mk_i _ _⟩
  rcases conc_sl s1 with ⟨-, rfl, -, rfl⟩ | ⟨_, _, _, _, -, -, ⟨_, -, rfl⟩ | ⟨_, -, rfl⟩⟩ <;> simp [Builtin.len_, ty0 hts, s2, run_underlying hu, goInt]
 ·rename_i e' k0 o0 ee ll sz hd; cases h
  have hu := hT.ok; rw [hd] at hu
  refine OpOk.pure fun μ w A hf => ?_
  obtain ⟨S, s1, s2⟩ := arg0 hf hargs
  refine ⟨.int .i64 0, ex ?_, mk_i _ _⟩
  simp only [conc, Option.map_eq_some_iff] at s1
  obtain ⟨_, _, rfl⟩ := s1
  split at s2 <;> simp [Builtin.len_, ty0 hts, s2, run_underlying hu, goInt]
 ·rename_i e' r hd
  have hu := hT.ok; rw [hd] at hu
  split at h
  ·rename_i n cs hw
   cases h
   refine OpOk.pure fun μ w A hf => ?_
   obtain ⟨S, s1, s2⟩ := arg0 hf hargs
   simp only [conc, Option.some.injEq] at s1
   subst s1
   exact ⟨_, ex (by simp [Builtin.len_, ty0 hts, s2, run_underlying hu, goInt]), (hα.win r _ cs hw).2.2.2 μ⟩
  cases h
 ·rename_i kt et hd; cases h
  have hu := hT.ok; rw [hd] at hu
  refine OpOk.pure fun μ w A hf => ?_
  obtain ⟨S, s1, s2⟩ := arg0 hf hargs
  rcases conc_m s1 with ⟨-, rfl⟩ | ⟨_, _, _, e0, -⟩
  ·exact ⟨.int .i64 0, ex (by simp [Builtin.len_, ty0 hts, s2, run_underlying hu, goInt]), mk_i _ _⟩
  cases e0
 ·rename_i kt et r hd
  have hu := hT.ok; rw [hd] at hu
  split at h
  ·rename_i es clock hobj
   cases h
   refine OpOk.read (Rd.rd _ _) fun μ c w M N A hpre hs hf => ?_
   have hM : M r := hs r (.inl (by show (Nat.lor σ.r (2 ^ r)).testBit r = true; rw [bit_lor]; simp))
   obtain ⟨b, cap, ob, m1, m2, l, rfl, m3⟩ := hpre.get hM hobj (by simp)
   obtain ⟨S, s1, s2⟩ := arg0 hf hargs
   rcases conc_m s1 with ⟨e0, -⟩ | ⟨_, b', cap', e0, hμ, rfl⟩
   ·cases e0
   cases e0; rw [m1] at hμ; cases hμ
   have hlen := entsR_length m3
   refine ⟨.int .i64 es.length, ex ?_, mk_i _ _⟩
   simp [Builtin.len_, ty0 hts, s2, run_underlying hu, goInt, getObj, Sem.run, m2, hlen]
  cases h
 cases h
theorem k_clear (hp : PrOk pr P) {cl : Call} {a : Option (Nat × Nat)} {n : Nat} {cp : Cp} {rest : List V} {ts : List TypeId} (ho : o.op = .call cl) (hc : cl.callee = .builtin .clear) (hargs : opnds fr cl.args.toList = .ok (.sl a n cp :: rest)) (hts : cl.argTypes.toList = t :: ts)
  (h : builtin pr σ .clear (t :: ts) (.sl a n cp :: rest) = .ok (σ', v)) : OpOk P α fr o σ σ' v := by
 simp only [builtin] at h
 have hh__ := bind_ok h; clear h; obtain ⟨i, hi, h⟩ := hh__
 have hT := ti_ok hp hi
 have ex : ∀ {A : Act} {w w' : World} {X : Value}, (Builtin.clear_ cl.argTypes o.type (cl.args.map A.eval)).run P w = .ok X w' → Ex P A o w X w' := fun hh => ex_builtin ho hc Builtin.clear_ (fun _ _ _ _ => rfl) hh
 have hund : ∀ μ : Mu, conc α μ (.u []) = some (.tuple #[]) := fun μ => by simp [conc, concL]
 split at h
 ·cases h
  refine OpOk.pure fun μ w A hf => ?_
  obtain ⟨S, s1, s2⟩ := arg0 hf hargs
  rcases conc_sl s1 with ⟨-, rfl, -, rfl⟩ | ⟨_, _, _, _, e0, -⟩
  ·exact ⟨.tuple #[], ex (by simp [Builtin.clear_, ty0 hts, s2, run_underlying hT.ok]), hund μ⟩
  cases e0
 ·rename_i e' k0 o0 hd
  have hu := hT.ok; rw [hd] at hu
  rw [beq_of] at h
  by_cases h0 : n = 0
  ·simp only [h0, decide_true, cond_true] at h
   cases h
   refine OpOk.pure fun μ w A hf => ?_
   obtain ⟨S, s1, s2⟩ := arg0 hf hargs
   subst h0
   refine ⟨.tuple #[], ex ?_, hund μ⟩
   rcases conc_sl s1 with ⟨e0, -⟩ | ⟨_, _, b, cp', e0, hμ, ⟨cc, -, rfl⟩ | ⟨cc, -, rfl⟩⟩
   ·cases e0
   ·simp [Builtin.clear_, ty0 hts, s2, run_underlying hu]
   simp [Builtin.clear_, ty0 hts, s2, run_underlying hu]
  simp only [h0, decide_false, cond_false] at h
  have hh__ := bind_ok h; clear h; obtain ⟨ie, hie, h⟩ := hh__
  have hh__ := bind_ok h; clear h; obtain ⟨z0, hz, h⟩ := hh__
  have hh__ := bind_ok h; clear h; obtain ⟨σ1, hst, h⟩ := hh__
  cases h
  obtain ⟨inf, zv, i1, i2, i3, i4, i5, i6, i7, i8, i9⟩ := zc_ok hp hie hz
  refine OpOk.store2 (Rd.refl _) hst fun μ c w M N A hpre hs hf => ⟨_, zeros_conc (i5 α μ) n, fun b cap w' hμ hrun => ⟨.tuple #[], .inl (ex ?_), hund μ⟩⟩
  obtain ⟨S, s1, s2⟩ := arg0 hf hargs
  rw [← zeroCells_flat] at hrun
  obtain ⟨m, rfl⟩ : ∃ m, n = m + 1 := ⟨n - 1, by omega⟩
  rcases conc_sl s1 with ⟨e0, -⟩ | ⟨_, _, b', cp', e0, hμ', ⟨cc, -, rfl⟩ | ⟨cc, -, rfl⟩⟩
  ·cases e0
  ·cases e0; rw [hμ] at hμ'; cases hμ'
   simp [Builtin.clear_, ty0 hts, s2, run_underlying hu, i9, hrun]
  cases e0; rw [hμ] at hμ'; cases hμ'
  simp [Builtin.clear_, ty0 hts, s2, run_underlying hu, i9, hrun]
 cases h
end
end Go.Eng
/- The evaluator's conversions, maps, and small operations, beside the model's. -/
namespace Go.Eng
open Go Go.RowKit Go.Pm
theorem numV_ok {α : At} {μ : Mu} : ∀ {vs : List V} {n x m y : Nat}, numV vs n x = some (m, y) → ∃ ds : List Nat, (∀ d ∈ ds, d < 256) ∧ concL α μ vs = some (ds.map fun (d : Nat) => Value.int .u8 (d : Int)) ∧ m = n + ds.length ∧ y = numD ds x
 | [], n, x, m, y, h => by simp only [numV, Option.some.injEq, Prod.mk.injEq] at h; obtain ⟨rfl, rfl⟩ := h; exact ⟨[], by simp, by simp [concL], rfl, rfl⟩
 | a :: r, n, x, m, y, h => by
  simp only [numV] at h
  split at h
  ·rename_i c ho
   unfold octet at ho
   split at ho
   ·rename_i c'
    cases hb : Nat.blt c' 256 with
    | false => rw [hb] at ho; cases ho
    | true =>
     rw [hb] at ho
     cases ho
     have hb : c < 256 := by simpa [Nat.blt_eq] using hb
     obtain ⟨ds, h1, h2, h3, h4⟩ := numV_ok (α := α) (μ := μ) h
     refine ⟨c :: ds, fun d hd => ?_, concL_mk (mk_i _ _) h2, by simp; omega, h4⟩
     cases List.mem_cons.1 hd with
     | inl e => subst e; exact hb
     | inr e => exact h1 d e
   cases ho
  cases h
section
variable {P : Program} {α : At} {μ μ' : Mu} {c c' : Nat → O} {fr : Fr} {o : Oper} {σ σ' : St} {w w' : World} {v : V} {x y z : Operand} {t u e : TypeId} {M : Nat → Prop} {N : Nat} {pr : Pr} {k : Nat}
theorem ex_convert {X Y : Value} {a : Act} (ho : o.op = .convert t u x) (hx : a.eval x = X) (h : (Go.convert t u X).run P w = .ok Y w') : Ex P a o w Y w' := by
 unfold Ex; simp [execOp, ho, hx, h]
theorem drew_freeze {w : World} {b : Nat} {L : List Value} {t : TypeId} (hb : Blk w b L t) : Wrote w (w.freeze ⟨b, L.length, none⟩ 1) b (.cells L.toArray t (L.length, L.length + 1)) :=
 ⟨freeze_heap hb, fun j hj => freeze_other hj, by simp [World.freeze], by simp [World.freeze], by simp [World.freeze], by simp [World.freeze]⟩
theorem k_convert (hp : PrOk pr P) {a : V} (ho : o.op = .convert t u x) (hx : opnd fr x = .ok a) (h : convert pr σ t u a = .ok (σ', v)) : OpOk P α fr o σ σ' v := by
 unfold convert at h
 have hh__ := bind_ok h; clear h; obtain ⟨i, hi, h⟩ := hh__
 have hh__ := bind_ok h; clear h; obtain ⟨j, hj, h⟩ := hh__
 have hT := ti_ok hp hi
 have hU := ti_ok hp hj
 split at h
 ·rename_i k1 k2 k3 n hd1 hd2; cases h
  have h1 := hT.ok; rw [hd1] at h1
  have h2 := hU.ok; rw [hd2] at h2
  exact OpOk.pure fun μ w A hf => ⟨_, ex_int h1 h2 ho (conc_i (opnd_ok hf hx)) (wrp_eq _ _).symm, mk_i _ _⟩
 ·rename_i ps hd1 hd2; cases h
  have h1 := hT.ok; rw [hd1] at h1
  have h2 := hU.ok; rw [hd2] at h2
  refine OpOk.pure fun μ w A hf => ⟨_, ex_convert ho (conc_s (opnd_ok hf hx)) ?_, mk_s _⟩
  simp [Go.convert, run_underlying h1, run_underlying h2]
 ·rename_i e' ps hd1 hd2
  have h1 := hT.ok; rw [hd1] at h1
  have h2 := hU.ok; rw [hd2] at h2
  unfold toRow at h
  have hh__ := bind_ok h; clear h; obtain ⟨ie, hie, h⟩ := hh__
  split at h
  ·rename_i n yy hd3 hlit
   have hh__ := cond_ok h; clear h; obtain ⟨hs1, h⟩ := hh__
   cases h
   have hE := ti_ok hp hie
   have h3 := hE.ok; rw [hd3] at h3
   have hs1 : ie.sz = 1 := by simpa [beq_of] using hs1
   obtain ⟨inf, j1, j2, -⟩ := hE.info
   refine OpOk.new (Rd.refl _) fun μ c w M N A hpre hs hf => ?_
   have hval := conc_s (opnd_ok hf hx)
   rw [lit?_ok hlit] at hval
   have hsize : (⟨(beOf n yy).toArray⟩ : ByteArray).size = n := by show (beOf n yy).toArray.size = n; simp [beOf_length]
   let cp := grownCap w n 0 e'
   have hcp : n ≤ cp := grownCap_ge w n 0 e'
   let L : List Value := (beOf n yy).map (fun b => Value.int .u8 (b.toNat : Int)) ++ List.replicate (cp - n) (.int .u8 0)
   have hL : L.length = cp := by simp [L, beOf_length]; omega
   let w1 := w.drew.alloc (.cells L.toArray e')
   have hblk : Blk w1 w.heap.size L e' := blk_new w.drew L e'
   have hwr := drew_freeze hblk
   have hmade : Made w (w1.freeze ⟨w.heap.size, L.length, none⟩ 1) (.cells L.toArray e' (L.length, L.length + 1)) := by
    have hm := made_drew w (.cells L.toArray e')
    refine ⟨hwr.at_, fun j hj => ?_, ?_, ?_, ?_, ?_⟩
    ·rw [hwr.other j (by omega)]; exact hm.other j hj
    ·rw [hwr.size]; exact hm.size
    ·rw [hwr.os]; exact hm.os
    ·rw [hwr.tape]; exact hm.tape
    rw [hwr.output]; exact hm.output
   refine ⟨_, cp, _, .slice (some ⟨w.heap.size, 0, none⟩) n cp, hmade, .inl (ex_convert ho hval ?_), fun μ' hle hμ => ⟨?_, mk_slu (α := α) (o := 0) (e := 0) (n := n) hμ⟩⟩
   ·have hsh : w1.shape? w.heap.size = some (e', L.length) := by simp [World.shape?, hblk]
    have hw1 : w.drew.alloc (.cells ((List.map (fun b : UInt8 => Value.int IntKind.u8 (b.toNat : Int)) (beOf n yy)).toArray ++ Array.replicate (cp - n) (.int .u8 0)) e') = w1 := by
     show _ = w.drew.alloc (.cells L.toArray e')
     congr 2
     apply Array.ext'
     simp [L]
    have hq : (Question.appendCap n 0 e').cut (w.tape w.drawn (.appendCap n 0 e')) = cp := rfl
    simp [Go.convert, run_underlying h1, run_underlying h2, run_underlying h3, Conv.stringToBytes, hsize, Question.forced, newRow, markStringish, hq]
    rw [hw1, hsh]
    simp [freeze, Sem.run]
   refine ⟨(beOf n yy).map (fun b => Value.int .u8 (b.toNat : Int)), _, _, ?_, cellsD_leaf _, rfl, fun e => (by cases e), fun q hq hh => ?_, ⟨List.replicate (cp - n) (.int .u8 0), rfl⟩, inf, j1, ?_⟩
   ·have := cellsD_conc (α := α) (μ := μ') (digs n yy [])
    rw [digs_cells] at this
    exact this
   ·simp only [List.size_toArray] at hq
    simp only at hh
    omega
   rw [List.size_toArray, hL, j2, hs1, Nat.mul_one]
  cases h
 ·rename_i e' a' hd1 hd2
  have h1 := hT.ok; rw [hd1] at h1
  have h2 := hU.ok; rw [hd2] at h2
  unfold toText at h
  have hh__ := bind_ok h; clear h; obtain ⟨ie, hie, h⟩ := hh__
  have hE := ti_ok hp hie
  have h3 := hE.ok
  split at h
  ·rename_i n cp hd3; cases h
   rw [hd3] at h3
   refine OpOk.pure fun μ w A hf => ⟨_, ?_, mk_s _⟩
   have hx' := opnd_ok hf hx
   rcases conc_sl hx' with ⟨-, rfl, rfl, hxx⟩ | ⟨_, _, _, _, e0, -⟩
   ·exact ex_convert ho hxx (run_str_of_bytes (S := fun _ => True) (l := []) h1 h3 h2 (fun i hi => by simp at hi) rfl)
   cases e0
  ·rename_i k0 o0 ee ll sz hd3; cases h
   rw [hd3] at h3
   refine OpOk.pure fun μ w A hf => ⟨_, ?_, mk_s _⟩
   have hx' := opnd_ok hf hx
   simp only [conc, Option.map_eq_some_iff] at hx'
   obtain ⟨xx, -, hx'⟩ := hx'
   by_cases hq : xx.2 - ee = ll
   ·rw [if_pos hq] at hx'
    exact ex_convert ho hx'.symm (run_str_of_bytes (S := fun _ => True) (l := []) h1 h3 h2 (fun i hi => by simp at hi) rfl)
   rw [if_neg hq] at hx'
   exact ex_convert ho hx'.symm (run_str_of_bytes (S := fun _ => True) (l := []) h1 h3 h2 (fun i hi => by simp at hi) rfl)
  ·rename_i k0 o0 n cp hd3
   rw [hd3] at h3
   have hh__ := bind_ok h; clear h; obtain ⟨r, hr, h⟩ := hh__
   obtain ⟨σ1, vs⟩ := r
   dsimp only at h
   have hrd := loadN_rd hr
   subst hrd
   split at h
   ·rename_i m yy hnum
    cases h
    refine OpOk.read (Rd.rd _ _) fun μ c w M N A hpre hs hf => ⟨_, ?_, mk_s _⟩
    obtain ⟨-, b, cap, xs, a1, a2, a3, a4, a5, a6⟩ := loadN_ok hpre hs hr
    obtain ⟨ds, d1, d2, d3, d4⟩ := numV_ok (α := α) (μ := μ) hnum
    rw [a2] at d2
    have d2 := Option.some.inj d2
    have hm : m = ds.length := by omega
    have hb : bytesP α (lit m yy) = ds.map UInt8.ofNat := by
     rw [bytesP_lit, d4, numD_num _ d1, hm]
     have := be_numOf (ds.map UInt8.ofNat)
     rwa [List.length_map] at this
    rw [hb]
    have hbytes : Bytes w (fun _ => True) (some ⟨b, o0, none⟩) (ds.map UInt8.ofNat) := by
     intro i hi
     refine ⟨b, o0, rfl, trivial, ?_⟩
     have hi' : i < ds.length := by simpa using hi
     have := a5 i (.int .u8 (ds[i] : Int)) (by rw [d2]; simp [hi'])
     rw [this]
     have hlt := d1 ds[i] (List.getElem_mem _)
     simp [UInt8.toNat_ofNat', Nat.mod_eq_of_lt hlt]
    have hn : (ds.map UInt8.ofNat).length = n := by rw [← a3, d2]; simp
    have hx' := opnd_ok hf hx
    rcases conc_sl hx' with ⟨e0, -⟩ | ⟨_, _, b', cp', e0, hμ, ⟨cc, -, hxx⟩ | ⟨cc, -, hxx⟩⟩
    ·cases e0
    ·cases e0; rw [a1] at hμ; cases hμ
     exact ex_convert ho hxx (run_str_of_bytes h1 h3 h2 hbytes hn)
    cases e0; rw [a1] at hμ; cases hμ
    exact ex_convert ho hxx (run_str_of_bytes h1 h3 h2 hbytes hn)
   cases h
  cases h
 cases h
end
end Go.Eng
/- The evaluator's maps, beside the model's. -/
namespace Go.Eng
open Go Go.RowKit Go.Pm
theorem ba_beq (p q : List UInt8) : ((⟨p.toArray⟩ : ByteArray) == ⟨q.toArray⟩) = decide (p = q) := by
 rw [Bool.eq_iff_iff]
 change (p.toArray == q.toArray) = true ↔ _
 simp
section
variable {P : Program} {α : At} {μ μ' : Mu} {c c' : Nat → O} {fr : Fr} {o : Oper} {σ σ' : St} {w w' : World} {v : V} {x y z : Operand} {t u e : TypeId} {M : Nat → Prop} {N : Nat} {pr : Pr} {k : Nat}
def KeyV (d : TypeDesc) (K : Value) : Prop := (d = .string ∧ ∃ s, K = .string s) ∨ (∃ j, d = .int j ∧ ∃ q n, K = .int q n)
theorem eqKey_ok {d : TypeDesc} {a b : V} {A B : Value} {r : Bool} (h : eqKey d a b = .ok r) (ha : conc α μ a = some A) (hb : conc α μ b = some B) : Instr.sameNow d A B = some r ∧ (r = true → A = B) ∧ KeyV d A ∧ KeyV d B := by
 unfold eqKey at h
 split at h
 ·rename_i p q
  split at h
  ·rename_i cc hc
   cases h
   rw [conc_s ha, conc_s hb]
   have hh := eqS_ok (α := α) hc
   refine ⟨?_, fun hr => ?_, .inl ⟨rfl, _, rfl⟩, .inl ⟨rfl, _, rfl⟩⟩
   ·simp only [Instr.sameNow]
    rw [ba_beq, hh]
   subst hr
   rw [of_decide_eq_true hh]
  cases h
 ·rename_i j0 j a' j' b'
  have hh__ := cond_ok h; clear h; obtain ⟨hk, h⟩ := hh__
  cases h
  obtain rfl := beqK_eq hk
  rw [conc_i ha, conc_i hb, ieq_eq]
  refine ⟨?_, fun hr => ?_, .inr ⟨_, rfl, _, _, rfl⟩, .inr ⟨_, rfl, _, _, rfl⟩⟩
  ·simp only [Instr.sameNow, if_true]
   congr 1
  rw [of_decide_eq_true hr]
 cases h
theorem findK_ok {d : TypeDesc} {a : V} {A : Value} (ha : conc α μ a = some A) : ∀ {es : List (V × V × Nat)} {l : List MapEntry} {j0 : Nat} {r : Option (Nat × V)}, findK d a es j0 = .ok r → entsR α μ es l →
  (r = none ∧ Instr.findNow d A l j0 = some none) ∨ (∃ j v X, r = some (j0 + j, v) ∧ Instr.findNow d A l j0 = some (some (j0 + j, X)) ∧ conc α μ v = some X ∧ KeyV d A ∧ ∃ e, l[j]? = some e ∧ e.key = A ∧ j < l.length)
 | [], [], j0, r, h, _ => by cases h; exact .inl ⟨rfl, rfl⟩
 | (k', v, n) :: es, e :: l, j0, r, h, hR => by
  obtain ⟨h1, h2, h3, h4⟩ := hR
  simp only [findK] at h
  have hh__ := bind_ok h; clear h; obtain ⟨cc, hc, h⟩ := hh__
  obtain ⟨e1, e2, e3, -⟩ := eqKey_ok hc ha h1
  cases cc with
  | true =>
   cases h
   exact .inr ⟨0, v, e.val, rfl, by simp [Instr.findNow, e1], h2, e3, e, rfl, (e2 rfl).symm, by simp⟩
  | false =>
   simp only [cond_false] at h
   rcases findK_ok ha h h4 with ⟨rfl, hf⟩ | ⟨j, v', X, rfl, hf, hX, hK, e', he, hk, hl⟩
   ·exact .inl ⟨rfl, by simp [Instr.findNow, e1, hf]⟩
   refine .inr ⟨j + 1, v', X, by rw [Nat.add_assoc, Nat.add_comm 1 j], ?_, hX, hK, e', by simpa using he, hk, by simp; omega⟩
   simp [Instr.findNow, e1, hf]
   omega
 | [], _ :: _, _, _, _, hR => hR.elim
 | (_, _, _) :: _, [], _, _, _, hR => hR.elim
theorem keyOf_ok (hp : PrOk pr P) {d : TypeDesc} (h : keyOf pr t = .ok d) : ∃ kt et, P.underlying t = some (.map kt et) ∧ P.underlying kt = some d ∧ isKey d = true := by
 unfold keyOf at h
 have hh__ := bind_ok h; clear h; obtain ⟨i, hi, h⟩ := hh__
 have hT := ti_ok hp hi
 split at h
 ·rename_i kt et hd
  have hu := hT.ok; rw [hd] at hu
  have hh__ := bind_ok h; clear h; obtain ⟨ik, hik, h⟩ := hh__
  have hh__ := cond_ok h; clear h; obtain ⟨hk, h⟩ := hh__
  cases h
  exact ⟨kt, et, hu, (ti_ok hp hik).ok, hk⟩
 cases h
theorem check_key {kt : TypeId} {d : TypeDesc} {A : Value} {b : Bool} (hu : P.underlying kt = some d) (hk : isKey d = true) : (Instr.checkKey b 10000 kt A).run P w = .ok () w := by
 have : ∀ n, (Instr.checkKey b (n + 1) kt A).run P w = .ok () w := by
  intro n
  simp only [Instr.checkKey, Sem.run_bind, run_underlying hu, Result.andThen_ok]
  cases d <;> first | (cases hk; done) | (cases A <;> rfl)
 exact this 9999
theorem find_key {kt : TypeId} {d : TypeDesc} {A : Value} {l : List MapEntry} {r : Option (Nat × Value)} (hu : P.underlying kt = some d) (h : Instr.findNow d A l 0 = some r) : (Instr.findKey kt A l).run P w = .ok r w := by
 simp [Instr.findKey, run_underlying hu, h]
theorem zeroT_ok (hp : PrOk pr P) {zz : V} (h : zeroT pr t = .ok zz) : ∃ Z, (∀ w, (zeroValue t).run P w = .ok Z w) ∧ ∀ (α : At) (μ : Mu), conc α μ zz = some Z := by
 unfold zeroT at h
 have hh__ := bind_ok h; clear h; obtain ⟨i, hi, h⟩ := hh__
 have hh__ := bind_ok h; clear h; obtain ⟨z0, hz, h⟩ := hh__
 unfold zc at hz
 split at hz
 ·rename_i l hzl
  have hh__ := cond_ok hz; clear hz; obtain ⟨hl, hz⟩ := hh__
  cases hz
  obtain ⟨inf, h1, h2, h3, -, h5⟩ := (ti_ok hp hi).info
  obtain ⟨Z, h6, h7, h8, h9⟩ := h5 _ hzl
  refine ⟨Z, fun w => by simp [zeroValue, typeInfo, h1, h6], fun α μ => ?_⟩
  have hc := (leaves_ok (α := α) (μ := μ) h7).1
  rcases wholeOrOne_ok h with ⟨ha, rfl⟩ | ⟨ha, rfl⟩
  ·rw [h8 ha]
   simp only [conc, hc, Option.map_some]
  rw [h9 ha] at hc
  obtain ⟨x, ys, a1, a2, a3⟩ := concL_cons hc
  have a3 : [Z] = x :: ys := a3
  cases a3
  exact a1
 cases hz
theorem entries_ok {m : V} {σ1 : St} {es : List (V × V × Nat)} (h : entriesOf σ m = .ok (σ1, es)) : Rd σ σ1 ∧ (Pre P α μ c σ w M N → Sub σ1 M → ∀ X, conc α μ m = some X → ∃ l, entsR α μ es l ∧ (X = .map none ∧ l = [] ∨ ∃ b clock, X = .map (some b) ∧ w.heap[b]? = some (.map l.toArray clock))) := by
 unfold entriesOf at h
 split at h
 ·cases h
  refine ⟨Rd.refl _, fun _ _ X hX => ?_⟩
  rcases conc_m hX with ⟨-, rfl⟩ | ⟨_, _, _, e0, -⟩
  ·exact ⟨[], trivial, .inl ⟨rfl, rfl⟩⟩
  cases e0
 ·rename_i r
  split at h
  ·rename_i es' clock hobj
   cases h
   refine ⟨Rd.rd _ _, fun hpre hs X hX => ?_⟩
   have hM : M r := hs r (.inl (by show (Nat.lor σ.r (2 ^ r)).testBit r = true; rw [bit_lor]; simp))
   obtain ⟨b, cap, ob, m1, m2, l, rfl, m3⟩ := hpre.get hM hobj (by simp)
   rcases conc_m hX with ⟨e0, -⟩ | ⟨_, b', cap', e0, hμ, rfl⟩
   ·cases e0
   cases e0; rw [m1] at hμ; cases hμ
   exact ⟨l, m3, .inr ⟨b, clock, rfl, m2⟩⟩
  cases h
 cases h
theorem ex_lookup {X Y Z : Value} {a : Act} {ok : Bool} (ho : o.op = .lookup t x y ok) (hx : a.eval x = X) (hy : a.eval y = Y) (h : (Instr.lookup t X Y ok).run P w = .ok Z w') : Ex P a o w Z w' := by
 unfold Ex; simp [execOp, ho, hx, hy, h]
theorem k_lookup (hp : PrOk pr P) {m a : V} {ok : Bool} (ho : o.op = .lookup t x y ok) (hx : opnd fr x = .ok m) (hy : opnd fr y = .ok a) (h : lookup pr σ t m a ok = .ok (σ', v)) : OpOk P α fr o σ σ' v := by
 unfold lookup at h
 have hh__ := bind_ok h; clear h; obtain ⟨d, hd, h⟩ := hh__
 have hh__ := bind_ok h; clear h; obtain ⟨i, hi, h⟩ := hh__
 obtain ⟨kt, et, hu, hku, hk⟩ := keyOf_ok hp hd
 have hT := ti_ok hp hi
 split at h
 ·rename_i kt' et' hdd
  have hu2 := hT.ok; rw [hdd, hu] at hu2
  cases hu2
  have hh__ := bind_ok h; clear h; obtain ⟨r, hr, h⟩ := hh__
  obtain ⟨σ1, es⟩ := r
  dsimp only at h
  have hh__ := bind_ok h; clear h; obtain ⟨q, hq, h⟩ := hh__
  have hent := fun {μ c w M N} => entries_ok (P := P) (α := α) (μ := μ) (c := c) (w := w) (M := M) (N := N) hr
  have hrd : Rd σ σ1 := (hent (μ := fun _ => none) (c := fun _ => .dead) (w := default) (M := fun _ => True) (N := 0)).1
  have run : ∀ {w : World} {X A : Value} {l : List MapEntry} {q' : Option (Nat × Value)} {Z : Value} {b : Bool}, (X = .map none ∧ l = [] ∨ ∃ b clock, X = .map (some b) ∧ w.heap[b]? = some (.map l.toArray clock)) → Instr.findNow d A l 0 = some q' → (match q' with | some (_, v) => Z = v ∧ b = true | none => (∀ w, (zeroValue et).run P w = .ok Z w) ∧ b = false) →
    (Instr.lookup t X A ok).run P w = .ok (if ok then .tuple #[Z, .bool b] else Z) w := by
   intro w X A l q' Z b hX hf hz
   have hck : ∀ bb, (Instr.checkKey bb 10000 kt A).run P w = .ok () w := fun bb => check_key hku hk
   have hfk := find_key (P := P) (w := w) hku hf
   rcases hX with ⟨rfl, rfl⟩ | ⟨b', clock, rfl, hb⟩
   ·cases q' with
    | none => obtain ⟨h1, rfl⟩ := hz; cases ok <;> simp [Instr.lookup, run_underlying hu, hck, hfk, h1]
    | some p => simp [Instr.findNow] at hf
   cases q' with
   | none => obtain ⟨h1, rfl⟩ := hz; cases ok <;> simp [Instr.lookup, run_underlying hu, hck, hfk, h1, getObj, Sem.run, hb]
   | some p => obtain ⟨rfl, rfl⟩ := hz; cases ok <;> simp [Instr.lookup, run_underlying hu, hck, hfk, getObj, Sem.run, hb]
  cases q with
  | some jv =>
   obtain ⟨j, v0⟩ := jv
   dsimp only at h
   cases h
   refine OpOk.read hrd fun μ c w M N A hpre hs hf => ?_
   obtain ⟨l, l1, l2⟩ := hent.2 hpre hs _ (opnd_ok hf hx)
   rcases findK_ok (opnd_ok hf hy) hq l1 with ⟨e0, -⟩ | ⟨j', v', X, e0, f1, f2, -⟩
   ·cases e0
   cases e0
   refine ⟨_, ex_lookup ho rfl rfl (run l2 f1 ⟨rfl, rfl⟩), ?_⟩
   cases ok with
   | true => simp only [cond_true, if_true, conc, concL, f2, Option.map_some]
   | false => exact f2
  | none =>
   dsimp only at h
   have hh__ := bind_ok h; clear h; obtain ⟨zz, hz, h⟩ := hh__
   cases h
   obtain ⟨Z, z1, z2⟩ := zeroT_ok hp hz
   refine OpOk.read hrd fun μ c w M N A hpre hs hf => ?_
   obtain ⟨l, l1, l2⟩ := hent.2 hpre hs _ (opnd_ok hf hx)
   rcases findK_ok (opnd_ok hf hy) hq l1 with ⟨-, f1⟩ | ⟨j', v', X, e0, -⟩
   ·refine ⟨_, ex_lookup ho rfl rfl (run l2 f1 ⟨z1, rfl⟩), ?_⟩
    cases ok with
    | true => simp only [cond_true, if_true, conc, concL, z2 α μ, Option.map_some]
    | false => exact z2 α μ
   cases e0
 cases h
end
end Go.Eng
/- The evaluator's changes of maps, walks over them, and small operations, beside the model's. -/
namespace Go.Eng
open Go Go.RowKit Go.Pm
section
variable {P : Program} {α : At} {μ μ' : Mu} {c c' : Nat → O} {fr : Fr} {o : Oper} {σ σ' : St} {w w' : World} {v : V} {x y z : Operand} {t u e : TypeId} {M : Nat → Prop} {N : Nat} {pr : Pr} {k : Nat}
theorem wrote_setObj {b : Nat} {ob : Obj} (h : b < w.heap.size) : Wrote w { w with heap := w.heap.setIfInBounds b ob } b ob :=
 ⟨by simp [h], fun j hj => by simp [Array.getElem?_setIfInBounds_ne (Ne.symm hj)], by simp, rfl, rfl, rfl⟩
theorem entsR_set {a : V} {X : Value} (hX : conc α μ a = some X) : ∀ {es : List (V × V × Nat)} {l : List MapEntry} (j : Nat), entsR α μ es l → entsR α μ (setVal es j a) (l.modify j fun e => { e with val := X })
 | [], [], j, _ => by simp [setVal, entsR]
 | (k', v, n) :: es, e :: l, 0, h => by simpa [setVal, entsR] using ⟨h.1, hX, h.2.2.1, h.2.2.2⟩
 | (k', v, n) :: es, e :: l, j + 1, h => by
  simp only [setVal, List.modify_succ_cons]
  exact ⟨h.1, h.2.1, h.2.2.1, entsR_set hX j h.2.2.2⟩
 | [], _ :: _, _, h => h.elim
 | (_, _, _) :: _, [], _, h => h.elim
theorem entsR_push {a b : V} {A B : Value} {n : Nat} (hA : conc α μ a = some A) (hB : conc α μ b = some B) : ∀ {es : List (V × V × Nat)} {l : List MapEntry}, entsR α μ es l → entsR α μ (es ++ [(a, b, n)]) (l ++ [{ key := A, val := B, born := n }])
 | [], [], _ => ⟨hA, hB, rfl, trivial⟩
 | (_, _, _) :: _, _ :: l, h => ⟨h.1, h.2.1, h.2.2.1, entsR_push hA hB h.2.2.2⟩
 | [], _ :: _, h => h.elim
 | (_, _, _) :: _, [], h => h.elim
theorem ex_mapUp {X Y Z : Value} {a : Act} (ho : o.op = .mapUpdate t x y z ∨ o.op = .insert t x y z) (hx : a.eval x = X) (hy : a.eval y = Y) (hz : a.eval z = Z) (h : (Instr.mapUpdate t X Y Z).run P w = .ok () w') : ExU P a o w w' := by
 unfold ExU
 rcases ho with ho | ho <;> simp [execOp, ho, hx, hy, hz, h]
theorem und_ok (μ : Mu) : conc α μ und = some undef := by simp only [und, conc, concL, Option.map_some]; rfl
theorem k_mapUp (hp : PrOk pr P) {m a b : V} (ho : o.op = .mapUpdate t x y z ∨ o.op = .insert t x y z) (hx : opnd fr x = .ok m) (hy : opnd fr y = .ok a) (hz : opnd fr z = .ok b) (h : (mapUp pr σ t m a b).bind (fun σ => Res.ok (σ, und)) = .ok (σ', v)) : OpOk P α fr o σ σ' v := by
 have hh__ := bind_ok h; clear h; obtain ⟨σ0, hm, h⟩ := hh__
 cases h
 unfold mapUp at hm
 split at hm
 ·rename_i r
  have hh__ := bind_ok hm; clear hm; obtain ⟨d, hd, hm⟩ := hh__
  obtain ⟨kt, et, hu, hku, hk⟩ := keyOf_ok hp hd
  split at hm
  ·rename_i es clock hobj
   have hh__ := bind_ok hm; clear hm; obtain ⟨q, hq, hm⟩ := hh__
   have hlive : obj σ r ≠ .dead := by rw [hobj]; simp
   have step : ∀ (O' : O), σ' = wr (rd σ r) r O' → (∀ μ (A : Act) w b cap l, FrA α μ fr A → μ r = some (b, cap) → entsR α μ es l → w.heap[b]? = some (.map l.toArray clock) → A.eval x = .map (some b) → ∃ ob, (Instr.mapUpdate t (A.eval x) (A.eval y) (A.eval z)).run P w = .ok () { w with heap := w.heap.setIfInBounds b ob } ∧ ObjR P α μ cap O' ob) → OpOk P α fr o σ σ' und := by
    intro O' e hh
    subst e
    have hl2 : obj (rd σ r) r ≠ .dead := hlive
    refine ⟨(tr_rd σ r).trans (tr_wr _ hl2), fun μ c w M N A hpre wf hs hN hf => ?_⟩
    have hM : M r := hs r (.inl (by show (Nat.lor σ.r (2 ^ r)).testBit r = true; rw [bit_lor]; simp))
    obtain ⟨bb, cap, ob, m1, m2, l, rfl, m3⟩ := hpre.get hM hobj (by simp)
    have hv := opnd_ok hf hx
    rcases conc_m hv with ⟨e0, -⟩ | ⟨_, b', cap', e0, hμ, hv'⟩
    ·cases e0
    cases e0; rw [m1] at hμ; cases hμ
    obtain ⟨ob, h1, h2⟩ := hh μ A w bb cap l hf m1 m3 m2 hv'
    refine ⟨undef, _, μ, _, .inr ⟨ex_mapUp ho rfl rfl rfl h1, rfl⟩, (Post.wr (hpre.after_rd (Rd.rd σ r)) hM hl2 m1 (wrote_setObj (Array.getElem?_eq_some_iff.1 m2).1) h2).after_rd (Rd.rd σ r), und_ok μ⟩
   cases q with
   | some jv =>
    obtain ⟨j, v0⟩ := jv
    cases hm
    refine step _ rfl fun μ A w bb cap l hf hμ hR hheap hxv => ?_
    rcases findK_ok (opnd_ok hf hy) hq hR with ⟨e0, -⟩ | ⟨j', v', X, e0, f1, f2, hK, e', f3, f4, f5⟩
    ·cases e0
    cases e0
    refine ⟨.map (l.toArray.modify j' fun e => { e with key := A.eval y, val := A.eval z }) clock, ?_, (l.modify j' fun e => { e with val := A.eval z }), ?_, by rw [Nat.zero_add]; exact entsR_set (opnd_ok hf hz) j' hR⟩
    ·have hsb : Instr.sameBits 10000 (A.eval y) (A.eval y) = true := by
      rcases hK with ⟨-, s, hs⟩ | ⟨-, -, q', n, hs⟩
      ·rw [hs]; show (s.data == s.data) = true; simp
      rw [hs]; simp [Instr.sameBits]
     have hstay : (Instr.keyThatStays (A.eval y) (A.eval y)).run P w = .ok (A.eval y) w := by simp [Instr.keyThatStays, hsb]
     have hfk := find_key (P := P) (w := w) hku f1
     simp only [Nat.zero_add] at hfk
     rw [hxv]
     simp [Instr.mapUpdate, run_underlying hu, getObj, Sem.run, hheap, check_key hku hk, hfk, f3, f4, hstay, setObj]
    congr 1
    apply Array.ext'
    rw [Array.toList_modify]
    apply List.ext_getElem?
    intro i
    by_cases hi : i = j'
    ·subst hi
     simp [f3, f4]
    simp [Ne.symm hi]
   | none =>
    cases hm
    refine step _ rfl fun μ A w bb cap l hf hμ hR hheap hxv => ?_
    rcases findK_ok (opnd_ok hf hy) hq hR with ⟨-, f1⟩ | ⟨j', v', X, e0, -⟩
    ·refine ⟨.map (l.toArray.push { key := A.eval y, val := A.eval z, born := clock }) (clock + 1), ?_, _, by simp, entsR_push (opnd_ok hf hy) (opnd_ok hf hz) hR⟩
     have hfk := find_key (P := P) (w := w) hku f1
     rw [hxv]
     simp [Instr.mapUpdate, run_underlying hu, getObj, Sem.run, hheap, check_key hku hk, hfk, setObj]
    cases e0
  cases hm
 cases hm
theorem ex_makeMap {X : Value} {a : Act} {r : Option Operand} (ho : o.op = .makeMap t r) (h : (Instr.makeMap t (r.map a.eval)).run P w = .ok X w') : Ex P a o w X w' := by
 unfold Ex; simp [execOp, ho, h]
theorem mk_m {μ : Mu} {k b cap : Nat} (h : μ k = some (b, cap)) : conc α μ (.m (some k)) = some (.map (some b)) := by simp only [conc, h, Option.map_some]
theorem k_makeMap0 (ho : o.op = .makeMap t none) (h : (let (σ, k) := new σ (.map [] 0); Res.ok (σ, V.m (some k))) = .ok (σ', v)) : OpOk P α fr o σ σ' v := by
 cases h
 refine OpOk.new (Rd.refl _) fun μ c w M N A _ _ hf => ⟨_, 0, _, _, made_alloc w (.map #[] 0), .inl (ex_makeMap ho (by simp [Instr.makeMap])), fun μ' hle hμ => ⟨⟨[], rfl, trivial⟩, mk_m hμ⟩⟩
theorem k_makeMap1 (hp : PrOk pr P) {i : TI} {kt et : TypeId} {kk : IntKind} {n : Int} (ho : o.op = .makeMap t (some x)) (hi : ti pr t = .ok i) (hd : i.d = .map kt et) (hx : opnd fr x = .ok (.i kk n)) (h : (let (σ, k) := new σ (.map [] 0); Res.ok (σ, V.m (some k))) = .ok (σ', v)) : OpOk P α fr o σ σ' v := by
 cases h
 have hu := (ti_ok hp hi).ok; rw [hd] at hu
 refine OpOk.new (Rd.refl _) fun μ c w M N A _ _ hf => ⟨_, 0, _, _, made_alloc w (.map #[] 0), .inl (ex_makeMap ho ?_), fun μ' hle hμ => ⟨⟨[], rfl, trivial⟩, mk_m hμ⟩⟩
 have hv := conc_i (opnd_ok hf hx)
 simp [Instr.makeMap, run_underlying hu, hv, asInt, asIntOf]
end
end Go.Eng
/- The evaluator's walks over maps, and small operations, beside the model's. -/
namespace Go.Eng
open Go Go.RowKit Go.Pm
section
variable {P : Program} {α : At} {μ μ' : Mu} {c c' : Nat → O} {fr : Fr} {o : Oper} {σ σ' : St} {w w' : World} {v : V} {x y z : Operand} {t u e : TypeId} {M : Nat → Prop} {N : Nat} {pr : Pr} {k : Nat}
theorem ex_range {X Y : Value} {a : Act} (ho : o.op = .range t x) (hx : a.eval x = X) (h : (Instr.range t X).run P w = .ok Y w') : Ex P a o w Y w' := by
 unfold Ex; simp [execOp, ho, hx, h]
theorem k_range0 (hp : PrOk pr P) {i : TI} {kt et : TypeId} (ho : o.op = .range t x) (hi : ti pr t = .ok i) (hd : i.d = .map kt et) (hx : opnd fr x = .ok (.m none)) (h : (let (σ, k) := new σ (.miter none 0 [] 0); Res.ok (σ, V.p (some (k, 0)))) = .ok (σ', v)) : OpOk P α fr o σ σ' v := by
 cases h
 have hu := (ti_ok hp hi).ok; rw [hd] at hu
 refine OpOk.new (Rd.refl _) fun μ c w M N A _ _ hf => ⟨_, 0, _, _, made_alloc w (.mapIter none 0 #[] 0), .inl (ex_range ho (X := .map none) ?_ ?_), fun μ' hle hμ => ⟨rfl, mk_p hμ⟩⟩
 ·rcases conc_m (opnd_ok hf hx) with ⟨-, h⟩ | ⟨_, _, _, e0, -⟩
  ·exact h
  cases e0
 simp [Instr.range, run_underlying hu]
theorem k_range1 (hp : PrOk pr P) {i : TI} {kt et : TypeId} {r clock : Nat} {es : List (V × V × Nat)} (ho : o.op = .range t x) (hi : ti pr t = .ok i) (hd : i.d = .map kt et) (hx : opnd fr x = .ok (.m (some r))) (hobj : obj σ r = .map es clock) (h : (let (σ, k) := new (rd σ r) (.miter (some r) clock [] clock); Res.ok (σ, V.p (some (k, 0)))) = .ok (σ', v)) : OpOk P α fr o σ σ' v := by
 cases h
 have hu := (ti_ok hp hi).ok; rw [hd] at hu
 refine OpOk.new (Rd.rd σ r) fun μ c w M N A hpre hs hf => ?_
 have hM : M r := (hs.of_tr (tr_new _ _)) r (.inl (by show (Nat.lor σ.r (2 ^ r)).testBit r = true; rw [bit_lor]; simp))
 obtain ⟨bb, cap, ob, m1, m2, l, rfl, m3⟩ := hpre.get hM hobj (by simp)
 rcases conc_m (opnd_ok hf hx) with ⟨e0, -⟩ | ⟨_, b', cap', e0, hμ, hv'⟩
 ·cases e0
 cases e0; rw [m1] at hμ; cases hμ
 refine ⟨_, 0, _, _, made_alloc w (.mapIter (some bb) clock #[] clock), .inl (ex_range ho hv' ?_), fun μ' hle hμ => ⟨⟨bb, cap, hle _ _ m1, rfl⟩, mk_p hμ⟩⟩
 simp [Instr.range, run_underlying hu, getObj, Sem.run, m2]
theorem ex_next {X Y : Value} {a : Act} (ho : o.op = .next x false) (hx : a.eval x = X) (h : (Instr.next X false o.type).run P w = .ok Y w') : Ex P a o w Y w' := by
 unfold Ex; simp [execOp, ho, hx, h]
theorem anyNat_eq (x : Nat) : ∀ l : List Nat, anyNat x l = l.contains x
 | [] => rfl
 | y :: l => by
  simp only [anyNat, anyNat_eq x l, beq_of, List.contains_cons]
  congr 1
theorem entsR_filter (p : Nat → Bool) : ∀ {es : List (V × V × Nat)} {l : List MapEntry}, entsR α μ es l → entsR α μ (es.filter fun e => p e.2.2) (l.filter fun e => p e.born)
 | [], [], _ => trivial
 | (_, _, n) :: es, e :: l, h => by
  have hb := h.2.2.1
  simp only [List.filter_cons]
  rw [hb]
  cases p n with
  | true => exact ⟨h.1, h.2.1, h.2.2.1, entsR_filter p h.2.2.2⟩
  | false => exact entsR_filter p h.2.2.2
 | [], _ :: _, h => h.elim
 | (_, _, _) :: _, [], h => h.elim
theorem entsR_all (p : Nat → Bool) : ∀ {es : List (V × V × Nat)} {l : List MapEntry}, entsR α μ es l → (es.all fun e => p e.2.2) = (l.all fun e => p e.born)
 | [], [], _ => rfl
 | (_, _, n) :: es, e :: l, h => by
  simp only [List.all_cons]
  rw [h.2.2.1, entsR_all p h.2.2.2]
 | [], _ :: _, h => h.elim
 | (_, _, _) :: _, [], h => h.elim
theorem over_ok (μ : Mu) : conc α μ (.u [.b false]) = some (.tuple #[.bool false]) := by simp [conc, concL]
theorem k_next0 {k0 s0 l0 : Nat} {seen : List Nat} (ho : o.op = .next x false) (hx : opnd fr x = .ok (.p (some (k0, 0)))) (hobj : obj σ k0 = .miter none s0 seen l0) : OpOk P α fr o σ (rd σ k0) (.u [.b false]) := by
 refine OpOk.read (Rd.rd _ _) fun μ c w M N A hpre hs hf => ?_
 have hM : M k0 := hs k0 (.inl (by show (Nat.lor σ.r (2 ^ k0)).testBit k0 = true; rw [bit_lor]; simp))
 obtain ⟨bb, cap, ob, m1, m2, m3⟩ := hpre.get hM hobj (by simp)
 have m3 : ob = .mapIter none s0 seen.toArray l0 := m3
 subst m3
 obtain ⟨b', cap', e1, e2⟩ := conc_p (opnd_ok hf hx)
 rw [m1] at e1; cases e1
 exact ⟨_, ex_next ho e2 (by simp [Instr.next, getObj, Sem.run, m2]), over_ok μ⟩
theorem k_next (ho : o.op = .next x false) {k0 r since last clock : Nat} {seen : List Nat} {es : List (V × V × Nat)} (hx : opnd fr x = .ok (.p (some (k0, 0)))) (hobj : obj σ k0 = .miter (some r) since seen last) (hobj2 : obj σ r = .map es clock) (h : nextV σ k0 r since seen last es clock = .ok (σ', v)) : OpOk P α fr o σ σ' v := by
 unfold nextV at h
 cases hg : (!seen.isEmpty && !es.isEmpty && es.all (fun e => Nat.ble last e.2.2)) with
 | true => rw [hg] at h; cases h
 | false =>
  rw [hg] at h
  simp only [cond_false] at h
  have common : ∀ {μ : Mu} {c w M N}, Pre P α μ c σ w M N → M k0 → M r → ∃ b1 cap1 b2 cap2 l, μ k0 = some (b1, cap1) ∧ μ r = some (b2, cap2) ∧ w.heap[b1]? = some (.mapIter (some b2) since seen.toArray last) ∧ w.heap[b2]? = some (.map l.toArray clock) ∧ entsR α μ es l ∧
    (!seen.toArray.isEmpty && !l.toArray.isEmpty && l.toArray.all (fun e => decide (e.born ≥ last))) = false := by
   intro μ c w M N hpre h1 h2
   obtain ⟨b1, cap1, ob, m1, m2, m3⟩ := hpre.get h1 hobj (by simp)
   obtain ⟨b2, cap2, n1, n2⟩ := m3
   obtain ⟨b2', cap2', ob', q1, q2, l, rfl, q3⟩ := hpre.get h2 hobj2 (by simp)
   rw [q1] at n1; cases n1
   subst n2
   refine ⟨b1, cap1, b2, cap2, l, m1, q1, m2, q2, q3, ?_⟩
   rw [← hg]
   have hl := entsR_length q3
   have e1 : es.isEmpty = l.isEmpty := by cases es <;> cases l <;> simp_all
   have e2 := entsR_all (fun n => Nat.ble last n) q3
   rw [e1, e2]
   congr 1
   ·simp
   rw [List.all_toArray]
   congr 1
   funext e
   rw [Bool.eq_iff_iff]; simp [Nat.ble_eq]
  have hleft : ∀ {μ : Mu} {l : List MapEntry}, entsR α μ es l → entsR α μ (es.filter (fun e => !anyNat e.2.2 seen)) (l.filter fun e => !seen.contains e.born) := by
   intro μ l hR
   have := entsR_filter (fun n => !anyNat n seen) hR
   simpa only [anyNat_eq] using this
  split at h
  ·rename_i hfil
   cases h
   refine OpOk.read ((Rd.rd σ k0).trans (Rd.rd _ r)) fun μ c w M N A hpre hs hf => ?_
   have h1 : M k0 := hs k0 (.inl (by show (Nat.lor (Nat.lor σ.r (2 ^ k0)) (2 ^ r)).testBit k0 = true; rw [bit_lor, bit_lor]; simp))
   have h2 : M r := hs r (.inl (by show (Nat.lor (Nat.lor σ.r (2 ^ k0)) (2 ^ r)).testBit r = true; rw [bit_lor]; simp))
   obtain ⟨b1, cap1, b2, cap2, l, m1, m2, m3, m4, m5, m6⟩ := common hpre h1 h2
   have hl := hleft m5
   rw [hfil] at hl
   have hl0 : (l.filter fun e => !seen.contains e.born) = [] := by
    cases hq : (l.filter fun e => !seen.contains e.born) with
    | nil => rfl
    | cons _ _ => rw [hq] at hl; exact hl.elim
   obtain ⟨b', cap', e1, e2⟩ := conc_p (opnd_ok hf hx)
   rw [m1] at e1; cases e1
   refine ⟨_, ex_next ho e2 ?_, over_ok μ⟩
   have hl1 : (l.toArray.filter fun e => !seen.toArray.contains e.born) = #[] := by
    apply Array.ext'
    simpa using hl0
   simp only [Instr.next, Sem.run_bind, getObj, Sem.run, m3, m4, Result.andThen_ok, m6, Bool.false_eq_true, if_false, hl1]
   simp [choose, Sem.run, Question.forced]
  ·rename_i key vv born hfil
   have hh__ := cond_ok h; clear h; obtain ⟨hb, h⟩ := hh__
   cases h
   have hlive : obj (rd σ r) k0 ≠ .dead := by rw [obj_rd, hobj]; simp
   refine ⟨(tr_rd σ r).trans (tr_wr _ hlive), fun μ c w M N A hpre wf hs hN hf => ?_⟩
   have h1 : M k0 := hs k0 (.inr (by show (Nat.lor σ.w (2 ^ k0)).testBit k0 = true; rw [bit_lor]; simp))
   have h2 : M r := hs r (.inl (by show (Nat.lor σ.r (2 ^ r)).testBit r = true; rw [bit_lor]; simp))
   obtain ⟨b1, cap1, b2, cap2, l, m1, m2, m3, m4, m5, m6⟩ := common hpre h1 h2
   have hl := hleft m5
   rw [hfil] at hl
   obtain ⟨en, hl0, n1, n2, n3⟩ : ∃ en, (l.filter fun e => !seen.contains e.born) = [en] ∧ conc α μ key = some en.key ∧ conc α μ vv = some en.val ∧ en.born = born := by
    cases hq : (l.filter fun e => !seen.contains e.born) with
    | nil => rw [hq] at hl; exact hl.elim
    | cons en rest =>
     rw [hq] at hl
     obtain ⟨a1, a2, a3, a4⟩ := hl
     cases rest with
     | nil => exact ⟨en, rfl, a1, a2, a3⟩
     | cons _ _ => exact a4.elim
   have hb : born < since := by simpa [Nat.blt_eq] using hb
   obtain ⟨b', cap', e1, e2⟩ := conc_p (opnd_ok hf hx)
   rw [m1] at e1; cases e1
   have hsz := (Array.getElem?_eq_some_iff.1 m3).1
   refine ⟨.tuple #[.bool true, en.key, en.val], _, μ, _, .inl (ex_next ho e2 (w' := { w with heap := w.heap.setIfInBounds b1 (.mapIter (some b2) since (seen.toArray.push born) clock) }) ?_),
    (Post.wr (x := .miter (some r) since (seen ++ [born]) clock) (hpre.after_rd (Rd.rd σ r)) h1 hlive m1 (wrote_setObj hsz) ⟨b2, cap2, m2, by simp⟩).after_rd (Rd.rd σ r), by simp [conc, concL, n1, n2]⟩
   have hl1 : (l.toArray.filter fun e => !seen.toArray.contains e.born) = #[en] := by
    apply Array.ext'
    simpa using hl0
   have o1 : (#[en].filter fun e => decide (e.born < since)) = #[en] := by
    apply Array.ext'; simp [n3, hb]
   have o2 : (#[en].filter fun e => decide (e.born ≥ since)) = #[] := by
    apply Array.ext'; simp [n3]; omega
   simp only [Instr.next, Sem.run_bind, getObj, Sem.run, m3, m4, Result.andThen_ok, m6, Bool.false_eq_true, if_false, hl1, o1, o2]
   simp [choose, Sem.run, Question.forced, setObj, m3, n3]
  cases h
theorem ex_entry {X Y : Value} {a : Act} (ho : o.op = .entry x) (hx : a.eval x = X) (h : (Instr.entry X).run P w = .ok Y w') : Ex P a o w Y w' := by
 unfold Ex; simp [execOp, ho, hx, h]
theorem entsR_find (b : Nat) : ∀ {es : List (V × V × Nat)} {l : List MapEntry} {en : V × V × Nat}, entsR α μ es l → es.find? (fun e => Nat.beq e.2.2 b) = some en → ∃ e, l.find? (fun e => e.born == b) = some e ∧ conc α μ en.1 = some e.key ∧ conc α μ en.2.1 = some e.val
 | [], [], en, _, h => by simp at h
 | (k', v, n) :: es, e :: l, en, hR, h => by
  obtain ⟨h1, h2, h3, h4⟩ := hR
  simp only [List.find?_cons] at h ⊢
  rw [h3]
  rw [beq_of] at h
  by_cases hn : n = b
  ·subst hn
   simp only [decide_true] at h
   cases h
   exact ⟨e, by simp, h1, h2⟩
  simp only [hn, decide_false] at h
  have : (n == b) = false := by simpa using hn
  rw [this]
  exact entsR_find b h4 h
 | [], _ :: _, _, hR, _ => hR.elim
 | (_, _, _) :: _, [], _, hR, _ => hR.elim
theorem k_entry (ho : o.op = .entry x) {k0 r since stepped clock st : Nat} {seen : List Nat} {es : List (V × V × Nat)} {en : V × V × Nat} (hx : opnd fr x = .ok (.p (some (k0, 0)))) (hobj : obj σ k0 = .miter (some r) since seen stepped) (hobj2 : obj σ r = .map es clock) (hst : seen.getLast? = some st)
  (hcl : Nat.beq clock stepped = true) (hen : es.find? (fun e => Nat.beq e.2.2 st) = some en) : OpOk P α fr o σ (rd (rd σ k0) r) (.u [en.1, en.2.1]) := by
 refine OpOk.read ((Rd.rd σ k0).trans (Rd.rd _ r)) fun μ c w M N A hpre hs hf => ?_
 have h1 : M k0 := hs k0 (.inl (by show (Nat.lor (Nat.lor σ.r (2 ^ k0)) (2 ^ r)).testBit k0 = true; rw [bit_lor, bit_lor]; simp))
 have h2 : M r := hs r (.inl (by show (Nat.lor (Nat.lor σ.r (2 ^ k0)) (2 ^ r)).testBit r = true; rw [bit_lor]; simp))
 obtain ⟨b1, cap1, ob, m1, m2, m3⟩ := hpre.get h1 hobj (by simp)
 obtain ⟨b2, cap2, n1, n2⟩ := m3
 obtain ⟨b2', cap2', ob', q1, q2, l, rfl, q3⟩ := hpre.get h2 hobj2 (by simp)
 rw [q1] at n1; cases n1
 subst n2
 obtain ⟨b', cap', e1, e2⟩ := conc_p (opnd_ok hf hx)
 rw [m1] at e1; cases e1
 obtain ⟨e, f1, f2, f3⟩ := entsR_find st q3 hen
 have hcl : clock = stepped := by simpa [beq_of] using hcl
 have hback : seen.toArray.back? = some st := by simpa [List.getLast?_eq_getElem?] using hst
 refine ⟨.tuple #[e.key, e.val], ex_entry ho e2 ?_, by simp [conc, concL, f2, f3]⟩
 have ff : l.toArray.find? (fun e => e.born == st) = some e := by simpa using f1
 simp [Instr.entry, getObj, Sem.run, m2, q2, hst, hcl, f1]
end
end Go.Eng
/- All operations that call nothing. -/
namespace Go.Eng
open Go Go.RowKit Go.Pm
section
variable {P : Program} {α : At} {μ μ' : Mu} {c c' : Nat → O} {fr : Fr} {o : Oper} {σ σ' : St} {w w' : World} {v : V} {x y z : Operand} {t u e : TypeId} {M : Nat → Prop} {N : Nat} {pr : Pr} {k : Nat}
theorem k_unOp {op : UnOp} {a : V} (ho : o.op = .unOp op t x) (hx : opnd fr x = .ok a) (h : unOp op a = .ok v) : OpOk P α fr o σ σ v := by
 unfold unOp at h
 split at h
 ·rename_i b
  split at h
  ·cases h; exact OpOk.pure fun μ w A hf => ⟨_, ex_not ho (conc_b (opnd_ok hf hx)) rfl, mk_b _⟩
  cases h
 ·rename_i kk n
  split at h
  ·cases h; exact OpOk.pure fun μ w A hf => ⟨_, ex_neg ho (conc_i (opnd_ok hf hx)) (wrp_eq _ _).symm, mk_i _ _⟩
  ·rename_i m
   have hh__ := cond_ok h; clear h; obtain ⟨hc, h⟩ := hh__
   cases h
   rw [Bool.and_eq_true] at hc
   have hs : kk.signed = false := by simpa using hc.1
   have hlt : m < 2 ^ kk.bits := by simpa [Nat.blt_eq] using hc.2
   refine OpOk.pure fun μ w A hf => ⟨_, ?_, mk_i _ _⟩
   have hv := conc_i (opnd_ok hf hx)
   have hmax : kk.max = ((2 ^ kk.bits - 1 : Nat) : Int) := by
    unfold IntKind.max
    rw [hs]
    simp only [Bool.false_eq_true, if_false]
    have : 0 < 2 ^ kk.bits := Nat.pow_pos (by decide)
    rw [Int.natCast_sub (by omega)]
    simp
   have hr : (Op.intBits .xor kk (if kk.signed then -1 else kk.max) (Int.ofNat m)).run P w = .ok (.int kk (wrp kk (Int.ofNat (Nat.xor (2 ^ kk.bits - 1) m)))) w := by
    rw [hs, hmax, wrp_eq]
    simp only [Bool.false_eq_true, if_false, Op.intBits, Sem.run_pure, BitVec.toNat_xor]
    congr 3
    have h1 : 2 ^ kk.bits - 1 < 2 ^ kk.bits := by have : 0 < 2 ^ kk.bits := Nat.pow_pos (by decide); omega
    simp only [Int.ofNat_eq_natCast, BitVec.ofInt_natCast, BitVec.toNat_ofNat, Nat.mod_eq_of_lt h1, Nat.mod_eq_of_lt hlt]
    rfl
   unfold Ex
   simp only [execOp, ho, hv, Sem.run_bind, Op.unary, hr, Result.andThen_ok, Sem.run_pure]
  cases h
 cases h
theorem k_eql (hα : AtOk pr α) (hp : PrOk pr P) {op : BinOp} {a b : V} (ho : o.op = .binOp op t x y u) (hx : opnd fr x = .ok a) (hy : opnd fr y = .ok b) (h : binOp pr σ op t x y a b = .ok (σ', v)) : OpOk P α fr o σ σ' v := by
 unfold binOp at h
 split at h
 ·rename_i r hr
  cases h
  refine OpOk.pure fun μ w A hf => ?_
  obtain ⟨Z, h1, h2⟩ := hα.fact op a b _ hr P o A w t x y u μ _ _ ho (opnd_ok hf hx) (opnd_ok hf hy) rfl rfl
  exact ⟨Z, h2, h1⟩
 have gen : ∀ {c : Bool}, eqV pr σ t x y a b = .ok (σ', c) → ((op = .eql ∧ v = .b c) ∨ (op = .neq ∧ v = .b (!c))) → OpOk P α fr o σ σ' v := by
  intro c hc hop
  have hrd := (eqV_ok (P := P) (α := α) (μ := fun _ => none) (C := fun _ => .dead) (w := default) (M := fun _ => True) (N := 0) hp hc).1
  refine OpOk.read hrd fun μ C w M N A hpre hs hf => ?_
  have hE := (eqV_ok (α := α) (μ := μ) (C := C) (w := w) (M := M) (N := N) hp hc).2 hpre hs _ _ (opnd_ok hf hx) (opnd_ok hf hy)
  rcases hop with ⟨rfl, rfl⟩ | ⟨rfl, rfl⟩
  ·exact ⟨.bool c, by unfold Ex; simp [execOp, ho, hE.guard, hE.eql], mk_b _⟩
  exact ⟨.bool (!c), by unfold Ex; simp [execOp, ho, hE.guard, hE.neq], mk_b _⟩
 have other : (match op with | .eql => (eqV pr σ t x y a b).bind fun (σ, c) => Res.ok (σ, V.b c) | .neq => (eqV pr σ t x y a b).bind fun (σ, c) => Res.ok (σ, V.b (!c)) | _ => .no "binOp") = .ok (σ', v) → OpOk P α fr o σ σ' v := by
  intro h
  cases op with
  | eql =>
   dsimp only at h
   have hh__ := bind_ok h; clear h; obtain ⟨r, hr, h⟩ := hh__
   obtain ⟨σ1, c⟩ := r
   cases h
   exact gen hr (.inl ⟨rfl, rfl⟩)
  | neq =>
   dsimp only at h
   have hh__ := bind_ok h; clear h; obtain ⟨r, hr, h⟩ := hh__
   obtain ⟨σ1, c⟩ := r
   cases h
   exact gen hr (.inr ⟨rfl, rfl⟩)
  | _ => cases h
 cases a with
 | i k a =>
  cases b with
  | i k' b => exact k_intBin ho hx hy h
  | q k' c us => exact k_iq hα ho hx hy h
  | _ => cases h
 | q k c us =>
  cases b with
  | i k' b => exact k_q hα ho hx hy h
  | _ => cases h
 | s ps =>
  cases b with
  | s qs =>
   simp only [binOp0] at h
   have hh__ := bind_ok h; clear h; obtain ⟨v0, hv, h⟩ := hh__
   cases h
   exact k_str hα ho hx hy hv
  | _ => cases h
 | _ => exact other h
theorem cmpQ_gtr {lo hi n z : Int} {t : Bool} (h : cmpQ .gtr lo hi n = some t) (h1 : lo ≤ z) (h2 : z ≤ hi) : t = decide (n < z) := by
 simp only [cmpQ, ilt_eq] at h
 by_cases q1 : n < lo
 ·simp [q1] at h; subst h; simp; omega
 by_cases q2 : n < hi
 ·simp [q1, q2] at h
 simp [q1, q2] at h; subst h; simp; omega
theorem cmpQ_lss {lo hi n z : Int} {t : Bool} (h : cmpQ .lss lo hi n = some t) (h1 : lo ≤ z) (h2 : z ≤ hi) : t = decide (z < n) := by
 simp only [cmpQ, ilt_eq] at h
 by_cases q1 : hi < n
 ·simp [q1] at h; subst h; simp; omega
 by_cases q2 : lo < n
 ·simp [q1, q2] at h
 simp [q1, q2] at h; subst h; simp; omega
theorem fact_lss (hα : AtOk pr α) (P : Program) (w : World) (A : Act) {μ : Mu} {a b : V} {m n : Int} {t : Bool} (h : pr.fact .lss a b = some (.b t)) (ha : conc α μ a = some (.int .i64 m)) (hb : conc α μ b = some (.int .i64 n)) : t = decide (m < n) := by
 obtain ⟨Z, h1, h2⟩ := hα.fact .lss a b _ h P { dst := none, op := .binOp .lss 0 (.const (.int .i64 m)) (.const (.int .i64 n)) 0, type := 0, pos := "", after := #[], guard := none } A w 0 _ _ 0 μ _ _ rfl ha hb rfl rfl
 have h3 : Ex P A { dst := none, op := .binOp .lss 0 (.const (.int .i64 m)) (.const (.int .i64 n)) 0, type := 0, pos := "", after := #[], guard := none } w (.bool (decide (m < n))) w := ex_lss rfl rfl rfl rfl
 simp only [conc, Option.some.injEq] at h1
 subst h1
 unfold Ex at h2 h3
 rw [h2] at h3
 simpa using h3
theorem min_ok (hα : AtOk pr α) (A0 : Act) (mx : Bool) (f : Value → Value → Sem Value) (hf : ∀ k j (a b : Int) w, (f (.int k a) (.int j b)).run P w = .ok (.int k (cond (cond mx (ilt a b) (ilt b a)) b a)) w) : ∀ {r : List V} {a : V} {A : Value} {xs : List Value}, minI pr mx a r = .ok v → conc α μ a = some A → concL α μ r = some xs → ∃ X, (xs.foldlM f A).run P w = .ok X w ∧ conc α μ v = some X
 | [], a, A, xs, h, ha, hr => by
  cases a <;> (simp only [minI] at h; cases h; simp only [concL, Option.some.injEq] at hr; subst hr; exact ⟨A, by simp, ha⟩)
 | b :: r, a, A, xs, h, ha, hr => by
  obtain ⟨B, ys, b1, b2, rfl⟩ := concL_cons hr
  cases a with
  | i k1 n1 =>
   cases b with
   | i k2 n2 =>
    simp only [minI] at h
    rw [conc_i ha, conc_i b1]
    obtain ⟨X, h1, h2⟩ := min_ok hα A0 mx f hf h (mk_i _ _) b2
    exact ⟨X, by simp [List.foldlM_cons, hf, h1], h2⟩
   | q k2 c us =>
    simp only [minI] at h
    have h3 := cond_ok h
    clear h
    obtain ⟨hk, h⟩ := h3
    obtain rfl := beqK_eq hk
    have hl := lenP_le hα us
    split at h
    ·rename_i t ht
     rw [conc_i ha, conc_q b1]
     have e : (cond mx (ilt n1 (c + lenP α us)) (ilt (c + lenP α us) n1)) = t := by
      cases mx with
      | true => rw [cond_true, ilt_eq]; exact (cmpQ_gtr ht (by simp; omega) (by simp; omega)).symm
      | false => rw [cond_false, ilt_eq]; exact (cmpQ_lss ht (by simp; omega) (by simp; omega)).symm
     have hc : conc α μ (cond t (V.q k1 c us) (V.i k1 n1)) = some (.int k1 (cond t (c + lenP α us) n1)) := by cases t <;> simp [conc]
     obtain ⟨X, h1, h2⟩ := min_ok hα A0 mx f hf h hc b2
     exact ⟨X, by simp only [List.foldlM_cons, Sem.run_bind, hf, e, Result.andThen_ok]; exact h1, h2⟩
    cases h
   | _ => simp [minI] at h
  | q k1 c us =>
   cases b with
   | i k2 n2 =>
    simp only [minI] at h
    have h3 := cond_ok h
    clear h
    obtain ⟨hk, h⟩ := h3
    obtain rfl := beqK_eq hk
    have hl := lenP_le hα us
    split at h
    ·rename_i t ht
     rw [conc_q ha, conc_i b1]
     have e : (cond mx (ilt (c + lenP α us) n2) (ilt n2 (c + lenP α us))) = t := by
      cases mx with
      | true => rw [cond_true, ilt_eq]; exact (cmpQ_lss ht (by simp; omega) (by simp; omega)).symm
      | false => rw [cond_false, ilt_eq]; exact (cmpQ_gtr ht (by simp; omega) (by simp; omega)).symm
     have hc : conc α μ (cond t (V.i k1 n2) (V.q k1 c us)) = some (.int k1 (cond t n2 (c + lenP α us))) := by cases t <;> simp [conc]
     obtain ⟨X, h1, h2⟩ := min_ok hα A0 mx f hf h hc b2
     exact ⟨X, by simp only [List.foldlM_cons, Sem.run_bind, hf, e, Result.andThen_ok]; exact h1, h2⟩
    cases h
   | q k2 c2 us2 =>
    simp only [minI] at h
    have h3 := cond_ok h
    clear h
    obtain ⟨hk, h⟩ := h3
    simp only [Bool.and_eq_true] at hk
    obtain rfl := beqK_eq hk.1
    obtain rfl := beqK_eq hk.2
    split at h
    ·rename_i t ht
     have ha' := conc_q ha
     have hb' := conc_q b1
     have e : (cond mx (ilt (c + lenP α us) (c2 + lenP α us2)) (ilt (c2 + lenP α us2) (c + lenP α us))) = t := by
      unfold minF at ht
      split at ht
      ·rename_i t' hf'
       cases ht
       cases mx with
       | true => rw [cond_true, ilt_eq]; exact (fact_lss (μ := μ) hα P w A0 hf' (by simp [conc]) (by simp [conc])).symm
       | false => rw [cond_false, ilt_eq]; exact (fact_lss (μ := μ) hα P w A0 hf' (by simp [conc]) (by simp [conc])).symm
      cases ht
     rw [ha', hb']
     have hc : conc α μ (cond t (V.q .i64 c2 us2) (V.q .i64 c us)) = some (.int .i64 (cond t (c2 + lenP α us2) (c + lenP α us))) := by cases t <;> simp [conc]
     obtain ⟨X, h1, h2⟩ := min_ok hα A0 mx f hf h hc b2
     exact ⟨X, by simp only [List.foldlM_cons, Sem.run_bind, hf, e, Result.andThen_ok]; exact h1, h2⟩
    cases h
   | _ => simp [minI] at h
  | _ => simp [minI] at h
theorem k_min (hα : AtOk pr α) {cl : Call} {s : V} {rest : List V} (ho : o.op = .call cl) (hc : cl.callee = .builtin .min) (hargs : opnds fr cl.args.toList = .ok (s :: rest)) (h : minI pr false s rest = .ok v) : OpOk P α fr o σ σ v := by
 refine OpOk.pure fun μ w A hf => ?_
 obtain ⟨S, ys, b1, b2, b3⟩ := concL_cons (opnds_ok hf hargs)
 obtain ⟨X, h1, h2⟩ := min_ok (P := P) (w := w) hα A false Builtin.min2 (fun k j a b w => by simp [Builtin.min2, ilt_eq, Bool.cond_decide]) h b1 b2
 refine ⟨X, ex_builtin ho hc Builtin.min_ (fun _ _ _ _ => rfl) ?_, h2⟩
 simp only [Builtin.min_, Array.toList_map, b3]
 exact h1
theorem k_max (hα : AtOk pr α) {cl : Call} {s : V} {rest : List V} (ho : o.op = .call cl) (hc : cl.callee = .builtin .max) (hargs : opnds fr cl.args.toList = .ok (s :: rest)) (h : minI pr true s rest = .ok v) : OpOk P α fr o σ σ v := by
 refine OpOk.pure fun μ w A hf => ?_
 obtain ⟨S, ys, b1, b2, b3⟩ := concL_cons (opnds_ok hf hargs)
 obtain ⟨X, h1, h2⟩ := min_ok (P := P) (w := w) hα A true Builtin.max2 (fun k j a b w => by simp [Builtin.max2, ilt_eq, Bool.cond_decide]) h b1 b2
 refine ⟨X, ex_builtin ho hc Builtin.max_ (fun _ _ _ _ => rfl) ?_, h2⟩
 simp only [Builtin.max_, Array.toList_map, b3]
 exact h1
theorem k_cap (hp : PrOk pr P) {cl : Call} {a : Option (Nat × Nat)} {n c : Nat} {rest : List V} {ts : List TypeId} (ho : o.op = .call cl) (hc : cl.callee = .builtin .cap) (hargs : opnds fr cl.args.toList = .ok (.sl a n (.k c) :: rest)) (hts : cl.argTypes.toList = t :: ts)
  (h : builtin pr σ .cap (t :: ts) (.sl a n (.k c) :: rest) = .ok (σ', v)) : OpOk P α fr o σ σ' v := by
 simp only [builtin] at h
 have hh__ := bind_ok h; clear h; obtain ⟨i, hi, h⟩ := hh__
 have hT := ti_ok hp hi
 have ex : ∀ {A : Act} {w : World} {X : Value}, (Builtin.cap_ cl.argTypes o.type (cl.args.map A.eval)).run P w = .ok X w → Ex P A o w X w := fun hh => ex_builtin ho hc Builtin.cap_ (fun _ _ _ _ => rfl) hh
 split at h
 ·rename_i e' hd; cases h
  have hu := hT.ok; rw [hd] at hu
  refine OpOk.pure fun μ w A hf => ?_
  obtain ⟨S, s1, s2⟩ := arg0 hf hargs
  refine ⟨.int .i64 c, ex ?_, mk_i _ _⟩
  cases a with
  | none =>
   rcases conc_sl s1 with ⟨-, rfl, hc0, rfl⟩ | ⟨_, _, _, _, h1, -⟩
   ·cases hc0
    simp [Builtin.cap_, ty0 hts, s2, run_underlying hu, goInt]
   cases h1
  | some a =>
   simp only [conc, Option.map_eq_some_iff] at s1
   obtain ⟨_, _, rfl⟩ := s1
   simp [Builtin.cap_, ty0 hts, s2, run_underlying hu, goInt]
 cases h
theorem k_builtin (hα : AtOk pr α) (hp : PrOk pr P) {cl : Call} {b : Builtin} {args : List V} (ho : o.op = .call cl) (hc : cl.callee = .builtin b) (hb : b ≠ .recover) (hargs : opnds fr cl.args.toList = .ok args) (h : builtin pr σ b cl.argTypes.toList args = .ok (σ', v)) : OpOk P α fr o σ σ' v := by
 unfold builtin at h
 split at h
 ·rename_i t ts s rest hts; exact k_len hα hp ho hc hargs hts h
 ·rename_i t t2 ts s s2 rest hts; exact k_append hp ho hc hargs hts h
 ·rename_i t ts s s2 rest hts; exact k_copy hp ho hc hargs hts h
 ·exact absurd rfl hb
 ·rename_i s rest
  have hh__ := bind_ok h; clear h; obtain ⟨v0, hv, h⟩ := hh__
  cases h
  exact k_min hα ho hc hargs hv
 ·rename_i s rest
  have hh__ := bind_ok h; clear h; obtain ⟨v0, hv, h⟩ := hh__
  cases h
  exact k_max hα ho hc hargs hv
 ·rename_i t ts a n cp rest hts; exact k_clear hp ho hc hargs hts h
 ·rename_i t ts a n c rest hts; exact k_cap hp ho hc hargs hts h
 cases h
theorem slice_rd {a : V} {l h m : Option V} (e : slice pr σ t a l h m = .ok (σ', v)) : Rd σ σ' := by
 unfold slice at e
 have hh__ := bind_ok e; clear e; obtain ⟨i, hi, e⟩ := hh__
 split at e
 ·have hh__ := bind_ok e; clear e; obtain ⟨v0, hv, e⟩ := hh__
  cases e; exact Rd.refl _
 ·have hh__ := bind_ok e; clear e; obtain ⟨ie, hie, e⟩ := hh__
  have hh__ := bind_ok e; clear e; obtain ⟨r, hr, e⟩ := hh__
  cases e; exact Rd.refl _
 ·rename_i e' k0 o0 len c0 hd
  have hh__ := bind_ok e; clear e; obtain ⟨ie, hie, e⟩ := hh__
  split at e
  ·rename_i L' ty st ho
   have hh__ := cond_ok e; clear e; obtain ⟨hck, e⟩ := hh__
   unfold sliceU at e
   have hh__ := bind_ok e; clear e; obtain ⟨r, hr, e⟩ := hh__
   split at e
   ·cases e; exact Rd.rd _ _
   cases hb1 : Nat.beq r.1 0 with
   | true => rw [hb1] at e; cases e; exact Rd.rd _ _
   | false =>
    rw [hb1] at e
    cases hb2 : Nat.blt r.1 ((L'.length - o0) / ie.sz) with
    | true => rw [hb2] at e; cases e; exact Rd.rd _ _
    | false =>
     rw [hb2] at e
     simp only [cond_false] at e
     have hh__ := cond_ok e; clear e; obtain ⟨hb3, e⟩ := hh__
     cases e; exact Rd.rd _ _
  cases e
 ·have hh__ := bind_ok e; clear e; obtain ⟨ie, hie, e⟩ := hh__
  have hh__ := bind_ok e; clear e; obtain ⟨r, hr, e⟩ := hh__
  cases e; exact Rd.refl _
 cases e
def plainOp (o : Oper) : Bool := match o.op with
 | .call cl => match cl.callee with
  | .builtin .recover => false
  | .builtin _ => true
  | _ => false
 | _ => true
set_option maxHeartbeats 1000000 in
theorem oper_ok (hα : AtOk pr α) (hp : PrOk pr P) {ih : Ih} (hpl : plainOp o = true) (h : oper pr ih fr σ o = .ok (σ', v)) : OpOk P α fr o σ σ' v := by
 unfold oper at h
 cases hop : o.op with
 | move x => rw [hop] at h; exact k_move (.inl hop) h
 | assign x => rw [hop] at h; exact k_move (.inr hop) h
 | pick cc a b =>
  rw [hop] at h
  refine k_pick hop (f := fun | .b t => (opnd fr (cond t a b)).bind (fun v => Res.ok (σ, v)) | _ => .no "pick") (fun t => rfl) (fun v r hn => ?_) h
  cases v with
  | b t => exact absurd rfl (hn t)
  | _ => simp
 | alloc t => rw [hop] at h; exact k_alloc hp hop h
 | box t x => rw [hop] at h; exact k_box hop h
 | build t ps => rw [hop] at h; exact k_build hp hop h
 | buildSlice t n ps =>
  rw [hop] at h
  dsimp only at h
  have hh__ := bind_ok h; clear h; obtain ⟨l, hl, h⟩ := hh__
  exact k_buildSlice hp hop hl h
 | load t x =>
  rw [hop] at h
  dsimp only at h
  have hh__ := bind_ok h; clear h; obtain ⟨a, ha, h⟩ := hh__
  split at h
  ·exact k_load hp hop ha h
  ·rename_i r j
   have hh__ := bind_ok h; clear h; obtain ⟨i, hi, h⟩ := hh__
   have hh__ := cond_ok h; clear h; obtain ⟨hsz, h⟩ := hh__
   simp only [Bool.and_eq_true, Bool.not_eq_true'] at hsz
   obtain ⟨hs1, hs2⟩ := hsz
   split at h
   ·rename_i n cs hw
    split at h
    ·rename_i v0 hv0
     cases h
     obtain ⟨hwc, -, -⟩ := hα.win r _ cs hw
     refine OpOk.read (Rd.refl σ) fun μ c w M N A hpre hs hf => ?_
     obtain ⟨X, x1, x2⟩ := hpre.sim.win r j _ (by rw [hwc]; exact hv0)
     have hx := opnd_ok hf ha
     simp only [conc, Option.some.injEq] at hx
     have hag := (ti_ok hp hi).isAgg w
     rw [hs2] at hag
     refine ⟨X, ex_load hop hx.symm ?_, conc_mono (fun _ _ e => by cases e) _ x1⟩
     simp [Instr.loadAt, Instr.sureAddr, loadVar, hag, load, Sem.run, x2]
    cases h
   cases h
  ·rename_i g j
   have hh__ := bind_ok h; clear h; obtain ⟨i, hi, h⟩ := hh__
   have hh__ := cond_ok h; clear h; obtain ⟨hsz, h⟩ := hh__
   simp only [Bool.and_eq_true, Bool.not_eq_true'] at hsz
   obtain ⟨hs1, hs2⟩ := hsz
   split at h
   ·rename_i n cs hw
    split at h
    ·rename_i v0 hv0
     cases h
     obtain ⟨hwc, -, -⟩ := hα.win (g + 1) _ cs hw
     obtain ⟨hg1, hg2⟩ := hα.glob g _ cs hw
     refine OpOk.read (Rd.refl σ) fun μ c w M N A hpre hs hf => ?_
     obtain ⟨X, x1, x2⟩ := hpre.sim.win (g + 1) j _ (by rw [hwc]; exact hv0)
     rw [hg1, hg2, Nat.zero_add] at x2
     have hx := opnd_ok hf ha
     simp only [conc, Option.some.injEq] at hx
     have hag := (ti_ok hp hi).isAgg w
     rw [hs2] at hag
     refine ⟨X, ex_load hop hx.symm ?_, conc_mono (fun _ _ e => by cases e) _ x1⟩
     simp [Instr.loadAt, Instr.sureAddr, loadVar, hag, load, Sem.run, x2]
    cases h
   cases h
  cases h
 | store t x y =>
  rw [hop] at h
  dsimp only at h
  have hh__ := bind_ok h; clear h; obtain ⟨a, ha, h⟩ := hh__
  have hh__ := bind_ok h; clear h; obtain ⟨b, hb, h⟩ := hh__
  split at h
  ·exact k_store hp hop ha hb h
  cases h
 | nilCheck x =>
  rw [hop] at h
  dsimp only at h
  have hh__ := bind_ok h; clear h; obtain ⟨a, ha, h⟩ := hh__
  split at h
  ·rename_i q
   cases h
   obtain ⟨k0, o0⟩ := q
   refine OpOk.pure fun μ w A hf => ?_
   have hv := opnd_ok hf ha
   obtain ⟨b, cap, e1, e2⟩ := conc_p hv
   exact ⟨_, ex_nil hop e2, by rw [← e2]; exact hv⟩
  ·rename_i fn a' b'
   have hne : (∀ n, fn ≠ .method n) ∧ σ' = σ ∧ v = .f fn a' b' := by
    split at h
    ·cases h
    rename_i hm; cases h; exact ⟨fun n e => hm n e, rfl, rfl⟩
   obtain ⟨hne, rfl, rfl⟩ := hne
   refine OpOk.pure fun μ w A hf => ?_
   have hv := opnd_ok hf ha
   obtain ⟨fn', xs, ys, e1, -, -, e4⟩ := conc_f hv
   refine ⟨A.eval x, ?_, hv⟩
   have hne' : ∀ n, fn' ≠ .method n := by
    intro n e; subst e
    cases fn with
    | yield l => simp only [concFn, Option.map_eq_some_iff] at e1; obtain ⟨_, _, e⟩ := e1; cases e
    | method m => exact hne m rfl
    | _ => simp [concFn] at e1
   unfold Ex
   simp only [execOp, hop, e4]
   cases fn' with
   | method n => exact absurd rfl (hne' n)
   | _ => rfl
  ·rename_i ty v'
   cases h
   refine OpOk.pure fun μ w A hf => ?_
   have hv := opnd_ok hf ha
   obtain ⟨y', e1, e2⟩ := conc_t hv
   refine ⟨A.eval x, ?_, hv⟩
   unfold Ex
   simp only [execOp, hop, e2]
   rfl
  cases h
 | binOp op t x y u =>
  rw [hop] at h
  dsimp only at h
  have hh__ := bind_ok h; clear h; obtain ⟨a, ha, h⟩ := hh__
  have hh__ := bind_ok h; clear h; obtain ⟨b, hb, h⟩ := hh__
  exact k_eql hα hp hop ha hb h
 | unOp op t x =>
  rw [hop] at h
  dsimp only at h
  have hh__ := bind_ok h; clear h; obtain ⟨a, ha, h⟩ := hh__
  have hh__ := bind_ok h; clear h; obtain ⟨v0, hv, h⟩ := hh__
  cases h
  exact k_unOp hop ha hv
 | convert s d x =>
  rw [hop] at h
  dsimp only at h
  have hh__ := bind_ok h; clear h; obtain ⟨a, ha, h⟩ := hh__
  exact k_convert hp hop ha h
 | makeInterface t x =>
  rw [hop] at h
  dsimp only at h
  have hh__ := bind_ok h; clear h; obtain ⟨a, ha, h⟩ := hh__
  have hh__ := bind_ok h; clear h; obtain ⟨i, hi, h⟩ := hh__
  have hT := ti_ok hp hi
  split at h
  ·cases h
  rename_i hne
  cases h
  refine OpOk.pure fun μ w A hf => ⟨.iface t (A.eval x), ?_, by simp only [conc, opnd_ok hf ha, Option.map_some]⟩
  unfold Ex
  simp only [execOp, hop, Sem.run_bind, Instr.makeInterface, run_underlying hT.ok, Result.andThen_ok]
  cases hd : i.d <;> first | (exact absurd hd (hne _)) | rfl
 | makeFunc fn a b =>
  rw [hop] at h
  dsimp only at h
  cases hy : isYield fn with
  | true => rw [hy] at h; cases h
  | false =>
   rw [hy] at h
   simp only [cond_false] at h
   have hh__ := bind_ok h; clear h; obtain ⟨as', ha, h⟩ := hh__
   have hh__ := bind_ok h; clear h; obtain ⟨bs', hb, h⟩ := hh__
   cases h
   refine OpOk.pure fun μ w A hf => ⟨.func fn (a.map A.eval) (b.map A.eval), by unfold Ex; simp [execOp, hop, Instr.makeFunc], ?_⟩
   have h1 := opnds_ok hf ha
   have h2 := opnds_ok hf hb
   have h3 : concFn μ fn = some fn := by cases fn <;> first | rfl | cases hy
   simp only [conc, h1, h2, h3]
   congr 2 <;> (apply Array.ext'; simp)
 | makeMap t r =>
  rw [hop] at h
  cases r with
  | none => exact k_makeMap0 hop h
  | some x =>
   dsimp only at h
   have hh__ := bind_ok h; clear h; obtain ⟨i, hi, h⟩ := hh__
   split at h
   ·rename_i kt et hd
    have hh__ := bind_ok h; clear h; obtain ⟨a, ha, h⟩ := hh__
    split at h
    ·exact k_makeMap1 hp hop hi hd ha h
    cases h
   cases h
 | makeSlice t l cc =>
  rw [hop] at h
  dsimp only at h
  have hh__ := bind_ok h; clear h; obtain ⟨a, ha, h⟩ := hh__
  have hh__ := bind_ok h; clear h; obtain ⟨b, hb, h⟩ := hh__
  exact k_makeSlice hp hop ha hb h
 | slice t x l hh m =>
  rw [hop] at h
  dsimp only at h
  have hh__ := bind_ok h; clear h; obtain ⟨a, ha, h⟩ := hh__
  have hh__ := bind_ok h; clear h; obtain ⟨l', hl, h⟩ := hh__
  have hh__ := bind_ok h; clear h; obtain ⟨h', hh', h⟩ := hh__
  have hh__ := bind_ok h; clear h; obtain ⟨m', hm, h⟩ := hh__
  refine OpOk.read (slice_rd h) fun μ c w M N A hpre hs hf => ?_
  obtain ⟨Y, h1, h2⟩ := (slice_ok hp h (opnd_ok hf ha) (optO_ok hf hl) (optO_ok hf hh') (optO_ok hf hm)).2 hpre hs
  exact ⟨Y, ex_slice hop rfl rfl rfl rfl h1, h2⟩
 | fieldAddr t x f =>
  rw [hop] at h
  dsimp only at h
  have hh__ := bind_ok h; clear h; obtain ⟨a, ha, h⟩ := hh__
  have hh__ := bind_ok h; clear h; obtain ⟨v0, hv, h⟩ := hh__
  cases h
  refine OpOk.pure fun μ w A hf => ?_
  obtain ⟨Y, h1, h2⟩ := fieldAt_ok (w := w) hp hv (opnd_ok hf ha)
  exact ⟨Y, ex_field hop rfl h1, h2⟩
 | field t x f =>
  rw [hop] at h
  dsimp only at h
  have hh__ := bind_ok h; clear h; obtain ⟨a, ha, h⟩ := hh__
  have hh__ := bind_ok h; clear h; obtain ⟨v0, hv, h⟩ := hh__
  cases h
  refine OpOk.pure fun μ w A hf => ?_
  obtain ⟨Y, h1, h2⟩ := fieldOf_ok (w := w) hp hv (opnd_ok hf ha)
  exact ⟨Y, by unfold Ex; simp [execOp, hop, h1], h2⟩
 | indexAddr t x i =>
  rw [hop] at h
  dsimp only at h
  have hh__ := bind_ok h; clear h; obtain ⟨a, ha, h⟩ := hh__
  have hh__ := bind_ok h; clear h; obtain ⟨b, hb, h⟩ := hh__
  have hh__ := bind_ok h; clear h; obtain ⟨v0, hv, h⟩ := hh__
  cases h
  refine OpOk.pure fun μ w A hf => ?_
  obtain ⟨Y, h1, h2⟩ := indexAt_ok (w := w) hα hp hv (opnd_ok hf ha) (opnd_ok hf hb)
  exact ⟨Y, ex_index hop rfl rfl h1, h2⟩
 | index t x i =>
  rw [hop] at h
  dsimp only at h
  have hh__ := bind_ok h; clear h; obtain ⟨a, ha, h⟩ := hh__
  have hh__ := bind_ok h; clear h; obtain ⟨b, hb, h⟩ := hh__
  have hh__ := bind_ok h; clear h; obtain ⟨v0, hv, h⟩ := hh__
  cases h
  refine OpOk.pure fun μ w A hf => ?_
  obtain ⟨Y, h1, h2⟩ := index_ok (w := w) hp hv (opnd_ok hf ha) (opnd_ok hf hb)
  exact ⟨Y, by unfold Ex; simp [execOp, hop, h1], h2⟩
 | lookup t x i ok =>
  rw [hop] at h
  dsimp only at h
  have hh__ := bind_ok h; clear h; obtain ⟨a, ha, h⟩ := hh__
  have hh__ := bind_ok h; clear h; obtain ⟨b, hb, h⟩ := hh__
  exact k_lookup hp hop ha hb h
 | mapUpdate t m k v =>
  rw [hop] at h
  dsimp only at h
  have hh__ := bind_ok h; clear h; obtain ⟨a, ha, h⟩ := hh__
  have hh__ := bind_ok h; clear h; obtain ⟨b, hb, h⟩ := hh__
  have hh__ := bind_ok h; clear h; obtain ⟨cc, hc, h⟩ := hh__
  exact k_mapUp hp (.inl hop) ha hb hc h
 | insert t m k v =>
  rw [hop] at h
  dsimp only at h
  have hh__ := bind_ok h; clear h; obtain ⟨a, ha, h⟩ := hh__
  have hh__ := bind_ok h; clear h; obtain ⟨b, hb, h⟩ := hh__
  have hh__ := bind_ok h; clear h; obtain ⟨cc, hc, h⟩ := hh__
  exact k_mapUp hp (.inr hop) ha hb hc h
 | extract x i =>
  rw [hop] at h
  dsimp only at h
  have hh__ := bind_ok h; clear h; obtain ⟨a, ha, h⟩ := hh__
  split at h
  ·rename_i vs
   split at h
   ·rename_i v0 hv
    cases h
    refine OpOk.pure fun μ w A hf => ?_
    obtain ⟨l, h1, h2⟩ := conc_u (opnd_ok hf ha)
    have hlen := concL_length h1
    have hi : i < vs.length := (List.getElem?_eq_some_iff.1 hv).1
    have hd := concL_drop i h1
    have e1 : vs.drop i = v :: vs.drop (i + 1) := by
     rw [List.drop_eq_getElem_cons hi]
     congr 1
     have := List.getElem?_eq_getElem hi
     rw [hv] at this
     exact (Option.some.inj this).symm
    rw [e1] at hd
    obtain ⟨X, ys, c1, c2, c3⟩ := concL_cons hd
    refine ⟨X, ex_extract hop h2 ?_, c1⟩
    have := congrArg (·[0]?) c3
    simp only [List.getElem?_cons_zero, List.getElem?_drop, Nat.add_zero] at this
    simpa using this
   cases h
  cases h
 | range t x =>
  rw [hop] at h
  dsimp only at h
  have hh__ := bind_ok h; clear h; obtain ⟨a, ha, h⟩ := hh__
  have hh__ := bind_ok h; clear h; obtain ⟨i, hi, h⟩ := hh__
  split at h
  ·rename_i kt et hd; exact k_range0 hp hop hi hd ha h
  ·rename_i kt et r hd
   split at h
   ·rename_i es clock hobj; exact k_range1 hp hop hi hd ha hobj h
   cases h
  cases h
 | next x b =>
  rw [hop] at h
  cases b with
  | true => cases h
  | false =>
   dsimp only at h
   have hh__ := bind_ok h; clear h; obtain ⟨a, ha, h⟩ := hh__
   split at h
   ·rename_i k0
    split at h
    ·rename_i hobj; cases h; exact k_next0 hop ha hobj
    ·rename_i r since seen last hobj
     split at h
     ·rename_i es clock hobj2; exact k_next hop ha hobj hobj2 h
     cases h
    cases h
   cases h
 | entry x =>
  rw [hop] at h
  dsimp only at h
  have hh__ := bind_ok h; clear h; obtain ⟨a, ha, h⟩ := hh__
  split at h
  ·rename_i k0
   split at h
   ·rename_i r since seen stepped hobj
    split at h
    ·rename_i es clock st hobj2 hst
     have hh__ := cond_ok h; clear h; obtain ⟨hcl, h⟩ := hh__
     split at h
     ·rename_i en hen; cases h; exact k_entry hop ha hobj hobj2 hst hcl hen
     cases h
    cases h
   cases h
  cases h
 | call cl =>
  rw [hop] at h
  dsimp only at h
  have hh__ := bind_ok h; clear h; obtain ⟨args, ha, h⟩ := hh__
  cases hc : cl.callee with
  | builtin b =>
   rw [hc] at h
   refine k_builtin hα hp hop hc (fun e => ?_) ha h
   subst e
   simp [plainOp, hop, hc] at hpl
  | value f => simp [plainOp, hop, hc] at hpl
  | invoke x n => simp [plainOp, hop, hc] at hpl
 | _ => rw [hop] at h; cases h
end
end Go.Eng
