/- Rules for a row out of which an element is taken in place. -/
import Derived.Test.YtkoghbmjbobfjaaGreatTxOwnB
import Derived.Test.YtkoghbmjbobfjaaGreatTxOwnC
import Derived.Test.YtkoghbmjbobfjaaGreatTxOwnD
import Derived.Test.YtkoghbmjbobfjaaGreatRows
import Derived.Laws.StructEq
set_option maxRecDepth 100000
namespace Go.Pm
open Go.RowKit
section
variable {P : Program} {t e : TypeId} {w : World}
theorem run_lhm3 {ad : Option Addr} {n c l h m size : Nat} (ht : P.underlying t = some (.slice (P.elem t))) (hs : ∀ w, (sizeOf (P.elem t)).run P w = .ok size w) (h1 : l ≤ h) (h2 : h ≤ m) (h3 : m ≤ c) :
  (Instr.sliceAt t (.slice ad n c) (some (.int .i64 (l : Int))) (some (.int .i64 (h : Int))) (some (.int .i64 (m : Int)))).run P w = .ok (sliced ad l h m size) w := by
 rw [run_sliceAt_slice w t _ _ _ _ ht, run_slice_lhm w t _ n c ht .i64 .i64 .i64 l h m (by omega) (by omega) (by omega) (by omega), hs]
 simp only [Result.andThen, Int.toNat_natCast]
theorem sliced_drop (b l n c size : Nat) : ∃ a2, sliced (some ⟨b, 0, none⟩) l n c size = .slice (some a2) (n - l) (c - l) ∧ ∀ (w : World) (xs : List Value), Src w (some ⟨b, 0, none⟩) xs → xs.length ≤ c * size → Src w (some a2) (xs.drop (l * size)) := by
 unfold sliced
 by_cases h : c = l
 ·refine ⟨⟨b, 0, none⟩, by rw [if_pos h], fun w xs hx hl => ?_⟩
  rw [List.drop_of_length_le (by rw [← h]; exact hl)]
  intro i hi
  simp at hi
 refine ⟨⟨b, 0 + l * size, none⟩, by rw [if_neg h, Option.map_some, addr_add], fun w xs hx _ => hx.drop _⟩
theorem sliced_rest (b j n r c size : Nat) (hn : n = j + r) : ∃ a2, sliced (some ⟨b, 0, none⟩) j n c size = .slice (some a2) r (c - j) ∧ ∀ (w : World) (xs : List Value), Src w (some ⟨b, 0, none⟩) xs → xs.length ≤ c * size → Src w (some a2) (xs.drop (j * size)) := by
 subst hn
 obtain ⟨a2, h1, h2⟩ := sliced_drop b j (j + r) c size
 exact ⟨a2, by rw [h1, Nat.add_sub_cancel_left], h2⟩
theorem Src.pre {a : Option Addr} {xs ys : List Value} (h : Src w a (xs ++ ys)) : Src w a xs := fun i hi => by
 obtain ⟨b, off, h1, h2⟩ := h i (by rw [List.length_append]; omega)
 exact ⟨b, off, h1, by rw [h2, List.getElem_append_left hi]⟩
theorem del_split (p x d tl : List Value) : p ++ x ++ d ++ tl = p ++ (x ++ d).take d.length ++ ((x ++ d).drop d.length ++ tl) := by
 rw [List.append_assoc p x d, List.append_assoc p, List.append_assoc p, ← List.append_assoc ((x ++ d).take d.length), List.take_append_drop]
theorem del_drop {p x d tl : List Value} {n : Nat} (h : p.length + x.length = n) : (p ++ x ++ d ++ tl).drop n = d ++ tl := by
 rw [List.append_assoc, List.drop_left' (by rw [List.length_append]; exact h)]
theorem run_appendFit {el ty : TypeId} {g k cap size m sCap : Nat} {pre mid post cs : List Value} {a : Addr} (ht : P.underlying t = some (.slice el)) (hs : (P.info? el).map (·.size) = some size)
  (hb : Blk w g (pre ++ mid ++ post) e) (ho : pre.length = k * size) (hm : mid.length = cs.length) (hn : cs.length = m * size) (hsrc : Src w (some a) cs) (h1 : ∀ v ∈ cs, v.oneCell' = true) (hroom : k + m ≤ cap) :
  (Builtin.append_ #[t, t] ty #[.slice (some ⟨g, 0, none⟩) k cap, .slice (some a) m sCap]).run P w = .ok (.slice (some ⟨g, 0, none⟩) (k + m) cap) (setBlk w g (pre ++ cs ++ post)) := by
 obtain ⟨i, hi, hsz⟩ := Option.map_eq_some_iff.1 hs
 subst hsz
 have hfc := run_firstCells_some (P := P) w i.size m a m sCap cs hn (fun j v hv => by
  obtain ⟨hj, rfl⟩ := List.getElem?_eq_some_iff.1 hv
  obtain ⟨b, off, ha, hc⟩ := hsrc j hj
  simp only [Option.some.injEq] at ha
  subst ha
  rw [addr_add]; exact hc)
 have hst := run_storeCells_at P g pre.length e cs 0 _ w hb (by simp; omega) h1
 have e1 : ((pre ++ mid ++ post).take (pre.length + 0)) ++ cs ++ ((pre ++ mid ++ post).drop (pre.length + 0 + cs.length)) = pre ++ cs ++ post := by
  rw [← hm, List.append_assoc pre mid post]
  simp
 have hst' : (storeCells ⟨g, 0 + k * i.size, none⟩ cs 0).run P w = .ok () (setBlk w g (pre ++ cs ++ post)) := by
  rw [Nat.zero_add, ← ho, hst]
  simp only [setBlk]
  rw [e1]
 simp [Builtin.append_, run_underlying ht, sizeOf, typeInfo, hi, Builtin.lenOf, hroom, hfc, Addr.add_lit]
 rw [Nat.zero_add] at hst'
 simp [hst']
end
section
variable {P : Program} {ops : Array Oper} {Q : Exit → Act → World → Prop} {a : Act} {w : World} {o : Oper} {B : Base} {H : List Res} {t e u : TypeId} {x y : Operand} {size : Nat} {J : List Value → World → Prop} {vals : List Value}
theorem mem_appendFit (i : Nat) {g k cap m sCap : Nat} {pre mid post cs : List Value} {ad : Addr} (hg : Region.wanted o (yielded ops a.tmps) = true) (ho : o.op = .call { callee := .builtin .append, args := #[x, y], argTypes := #[t, t] }) (hx : a.eval x = .slice (some ⟨g, 0, none⟩) k cap) (hy : a.eval y = .slice (some ad) m sCap)
  (hu : P.underlying t = some (.slice u)) (hs : (P.info? u).map (·.size) = some size) (hv : Inv B H w) {L : List Value} (hi : H[i]? = some (Res.cell g L e)) (hL : L = pre ++ mid ++ post) (hoff : pre.length = k * size) (hm : mid.length = cs.length) (hn : cs.length = m * size) (hsrc : Src w (some ad) cs) (h1 : ∀ v ∈ cs, v.oneCell' = true) (hroom : k + m ≤ cap)
  (h : ∀ w', Inv B (H.set i (Res.cell g (pre ++ cs ++ post) e)) w' → J (vals ++ [.slice (some ⟨g, 0, none⟩) (k + m) cap]) w') : StepMem P ops J Q o a w vals := by
 subst hL
 have hr := run_appendFit (ty := o.type) (sCap := sCap) hu hs (hv.get i hi : Blk w g _ e) hoff hm hn hsrc h1 hroom
 exact Ex.mem (by unfold Ex; simp [execOp, ho, resolve, invoke, builtin, hx, hy, hr]) hg (h _ (hv.putAt i hi _))
end
end Go.Pm
/- Transactions: Rollback, Active. -/
namespace Go.Proofs.YtkoghbmjbobfjaaGreat
open Go.RowKit Go.Pm
theorem x5sz25 : (Tryz.prog.info? 25).map (·.size) = some 1 := by kernel_rfl
theorem x5mk25 : (Tryz.prog.info? 25).map (fun i => (i.zero, i.size, i.bytes)) = some (some (.pointer none), 1, 8) := by kernel_rfl
theorem x5el86 : Elem Tryz.prog 86 25 (.pointer none) 1 8 := elem_of Tryz.underlying86 x5mk25 (by rfl) (by decide)
set_option maxHeartbeats 4000000 in
theorem delTx (B : Base) (H : List Res) (w : World) (b c k r : Nat) (p x d : List Value) (hp : p.length = k * 1) (hx : x.length = 1) (hd : d.length = r * 1) (n j : Nat) (hj : j = k + 1) (hn : n = j + r) (_ : n ≤ 100000000) (h1 : ∀ u ∈ d, u.oneCell' = true) (hv : Inv B (Res.row 25 1 (.slice (some ⟨b, 0, none⟩) n c) n (p ++ x ++ d) :: H) w) :
  Calls Tryz.prog 81 #[.slice (some ⟨b, 0, none⟩) n c, .int .i64 (k : Int), .int .i64 (j : Int)] w fun e w' => e = .returned (.slice (some ⟨b, 0, none⟩) (k + r) c) ∧ Inv B (Res.row 25 1 (.slice (some ⟨b, 0, none⟩) (k + r) c) (k + r) (p ++ d) :: H) w' := by
 obtain ⟨L, hL1, hL2, hL3, hL4, hv⟩ := hv.rowCell
 obtain ⟨tl, hLe⟩ : ∃ tl, L = p ++ x ++ d ++ tl := ⟨L.drop (n * 1), by rw [← hL2, List.take_append_drop]⟩
 subst hLe
 refine cW Tryz.func81 rfl Tryz.ntmps81 ?_
 simp only [al]
 refine sK fun _ k1 => rL (xA (.slice none 0 0) rfl ?_)
 simp only [zP, po]
 refine wK k1 (sK fun _ k2 => ?_)
 refine rL (xM (.slice (some ⟨b, 0, none⟩) n c) rfl ?_)
 refine xM (.int .i64 (k : Int)) rfl (xM (.int .i64 (j : Int)) rfl ?_)
 simp only [zP, po]
 refine xM (.slice (some ⟨b, 0, none⟩) n c) rfl (xG (.int .i64 (n : Int)) rfl (ex_len0 Tryz.underlying86 rfl rfl) ?_)
 refine xG (sliced (some ⟨b, 0, none⟩) k j n 1) rfl (ex_slice (lo' := some (.int .i64 (k : Int))) (hi' := some (.int .i64 (j : Int))) (mx' := some (.int .i64 (n : Int))) rfl rfl (congrArg some rfl) (congrArg some rfl) (congrArg some rfl) (run_lhm3 Tryz.underlying86 x1es86 (by omega) (by omega) (by omega))) ?_
 simp only [zP, po]
 refine wK k2 (sK fun _ k3 => ?_)
 refine sK fun _ k4 => rL (xM (.int .i64 (k : Int)) rfl ?_)
 refine xM (.int .i64 (j : Int)) rfl (xG (.bool false) rfl (ex_eql rfl rfl rfl (decide_eq_false (by omega))) ?_)
 simp only [zP, po]
 refine wK k4 (cF rfl ?_)
 refine kS (tK k3 ?_)
 refine sK fun _ k5 => rL (xM (.slice (some ⟨b, 0, none⟩) n c) rfl ?_)
 refine xG (.int .i64 (n : Int)) rfl (ex_len0 Tryz.underlying86 rfl rfl) (xA (.int .i64 (n : Int)) rfl ?_)
 simp only [zP, po]
 refine wK k5 (sK fun _ k6 => ?_)
 obtain ⟨a2, ha2, hsrc2⟩ := sliced_rest b j n r c 1 (by omega)
 refine rW mixed [6] [0,1,2,3,4,5,6,7] 33 rfl (by kernel_rfl) hv ?_
 simp only [qm, opAt]
 refine dM (.slice (some ⟨b, 0, none⟩) n c) rfl (dM (.int .i64 (k : Int)) rfl ?_)
 refine dG (.slice (some ⟨b, 0, none⟩) k c) rfl (ex_slice (hi' := some (.int .i64 (k : Int))) rfl rfl rfl (congrArg some rfl) rfl (run_hi Tryz.underlying86 x1es86 (by omega))) ?_
 simp only [zP, po]
 refine dM (.slice (some ⟨b, 0, none⟩) n c) rfl (dM (.int .i64 (j : Int)) rfl ?_)
 refine dG (sliced (some ⟨b, 0, none⟩) j n c 1) rfl (ex_slice (lo' := some (.int .i64 (j : Int))) rfl rfl (congrArg some rfl) rfl rfl (run_fromAny Tryz.underlying86 x1es86 (by omega))) ?_
 simp only [zP, po]
 refine dS rfl fun w7 hv => mem_appendFit 0 (pre := p) (mid := (x ++ d).take d.length) (post := (x ++ d).drop d.length ++ tl) (cs := d) (ad := a2) (m := r) rfl rfl rfl (Eq.trans rfl ha2) Tryz.underlying86 x5sz25 hv rfl (del_split p x d tl) hp (by rw [List.length_take, List.length_append]; omega) hd (by have h9 := hsrc2 _ _ (rd_all (hv.get 0 rfl)) (by rw [hL1]; exact Nat.le_refl _); rw [del_drop (by rw [hp, hx]; omega)] at h9; exact h9.pre) h1 (by omega) (fun w8 hv => ?_)
 refine dW hv (dA (.slice (some ⟨b, 0, none⟩) (k + r : Nat) c) rfl ?_)
 refine dE fun w9 hv => ?_
 simp only [zP, po]
 refine tK k6 (sK fun _ k10 => ?_)
 refine rL (xM (.slice (some ⟨b, 0, none⟩) (k + r : Nat) c) rfl ?_)
 refine xM (.slice (some ⟨b, 0, none⟩) (k + r : Nat) c) rfl (xG (.int .i64 ((k + r : Nat) : Int)) rfl (ex_len0 Tryz.underlying86 rfl rfl) ?_)
 simp only [zP, po]
 refine xM (.int .i64 (n : Int)) rfl (xG (.slice (some ⟨b, 0 + (k + r : Nat), none⟩) (n - (k + r : Nat)) (c - (k + r : Nat))) rfl (ex_slice (lo' := some (.int .i64 ((k + r : Nat) : Int))) (hi' := some (.int .i64 (n : Int))) rfl rfl (congrArg some rfl) (congrArg some rfl) rfl (run_lohi1 Tryz.underlying86 x1es86 (by omega) (by omega) (by omega))) ?_)
 refine sl_clearAt 0 (pre := p ++ d) (mid := (x ++ d).drop d.length) (post := tl) (m := n - (k + r)) tV (wn rfl) rfl rfl x5el86 (one_cons rfl one_nil) hv rfl (by simp only [List.append_assoc]) (by rw [List.length_append, hp, hd]; omega) (by rw [List.length_drop, List.length_append, hx]; omega) (fun zs w11 hzs hv => ?_)
 simp only [zO] at hv
 simp only [zP, po]
 refine wK k10 (sK fun _ k12 => ?_)
 refine rL (xM (.slice (some ⟨b, 0, none⟩) (k + r : Nat) c) rfl ?_)
 refine xA (.slice (some ⟨b, 0, none⟩) (k + r : Nat) c) rfl ?_
 simp only [zP, po]
 refine wK k12 (rR ?_)
 refine bR rfl rfl ?_
 have h8 := hv.cellRow (n := k + r) (c := c) (size := 1) (by simp only [List.length_append, List.length_drop, hp, hd, hx] at hL1 hzs ⊢; omega) (by omega) hL4
 rw [List.append_assoc (p ++ d), List.take_left' (by rw [List.length_append, hp, hd]; omega)] at h8
 exact ⟨rfl, h8⟩
theorem x5callable81 : Callable Tryz.prog 81 := ⟨_, Tryz.func81, by kernel_rfl, by kernel_rfl⟩
set_option maxHeartbeats 2000000 in
theorem txnEnd (B : Base) (H : List Res) (w : World) (t m s : Nat) (va : Option Addr) (vc : Nat) (sv : Value) (clk : Int) (hv : Inv B (Res.cell m [.pointer (some ⟨s, 0, none⟩), sv, .int .i64 clk, .slice va 1 vc] 88 :: Res.row 25 1 (.slice va 1 vc) 1 [.pointer (some ⟨t, 0, none⟩)] :: H) w) :
  Calls Tryz.prog 56 #[.pointer (some ⟨m, 0, none⟩), .pointer (some ⟨t, 0, none⟩)] w fun e w' => ∃ va2 vc2, e = .returned (.bool true) ∧ Inv B (Res.cell m [.pointer (some ⟨s, 0, none⟩), sv, .int .i64 clk, .slice va2 0 vc2] 88 :: H) w' := by
 refine cW Tryz.func56 rfl Tryz.ntmps56 ?_
 simp only [al]
 refine sK fun _ k1 => rL (xA (.bool false) rfl ?_)
 simp only [zP, po]
 refine wK k1 (sK fun _ k2 => ?_)
 refine rL (xM (.pointer (some ⟨m, 0, none⟩)) rfl ?_)
 refine xG (.pointer (some ⟨m, 0, none⟩)) rfl (ex_nil rfl rfl) (xF (.pointer (some ⟨m, 3, none⟩)) rfl (x1fa88_3 _ _ _) ?_)
 simp only [zP, po]
 refine xL _ rfl (run_load1 x1na86 (hv.load 0 3 rfl rfl)) (xM (.pointer (some ⟨t, 0, none⟩)) rfl ?_)
 replace hv := hv.front 1 rfl
 simp only [List.eraseIdx_cons_succ, List.eraseIdx_cons_zero] at hv
 refine xC x1callable80 rfl ((indexTx B _ _ t va vc hv).mono ?_) rfl
 rintro e w3 ⟨rfl, hv⟩
 refine ⟨_, rfl, ?_⟩
 simp only [zP, po]
 refine xA (.int .i64 0) rfl ?_
 simp only [zP, po]
 refine wK k2 (sK fun _ k4 => ?_)
 refine sK fun _ k5 => rL (xM (.pointer (some ⟨t, 0, none⟩)) rfl ?_)
 refine xG (.bool false) rfl (ex_pisnil Tryz.underlying25 rfl rfl rfl rfl) (xM (.bool false) rfl ?_)
 simp only [zP, po]
 refine xM (.int .i64 0) rfl (xG (.bool false) rfl (ex_lss rfl rfl rfl (by decide)) ?_)
 refine xK false (.bool false) rfl ?_
 simp only [zP, po]
 refine wK k5 (cF rfl ?_)
 refine kS (tK k4 ?_)
 refine sK fun _ k6 => ?_
 obtain ⟨b, rfl⟩ := row_some (hv.get 0 rfl) (by omega)
 refine rL (xM (.pointer (some ⟨m, 0, none⟩)) rfl ?_)
 refine xM (.pointer (some ⟨m, 0, none⟩)) rfl (xG (.pointer (some ⟨m, 0, none⟩)) rfl (ex_nil rfl rfl) ?_)
 simp only [zP, po]
 refine xF (.pointer (some ⟨m, 3, none⟩)) rfl (x1fa88_3 _ _ _) (xL _ rfl (run_load1 x1na86 (hv.load 1 3 rfl rfl)) ?_)
 refine xM (.int .i64 0) rfl ?_
 simp only [zP, po]
 refine xM (.int .i64 0) rfl (xG (.int .i64 1) rfl (ex_add rfl rfl rfl (i64_in (by omega))) ?_)
 refine xC x5callable81 rfl ((delTx B _ _ b vc 0 0 [] [.pointer (some ⟨t, 0, none⟩)] [] rfl rfl rfl 1 1 rfl rfl (by decide) (fun u hu => by cases hu) hv).mono ?_) rfl
 rintro e w7 ⟨rfl, hv⟩
 refine ⟨_, rfl, ?_⟩
 simp only [zP, po]
 refine xG (.pointer (some ⟨m, 0, none⟩)) rfl (ex_nil rfl rfl) (xF (.pointer (some ⟨m, 3, none⟩)) rfl (x1fa88_3 _ _ _) ?_)
 refine xV 1 (.slice (some ⟨b, 0, none⟩) 0 vc) rfl hv x3sz86 rfl rfl (fun w8 hv => ?_)
 simp only [zS, zO, sp] at hv
 simp only [zP, po]
 refine wK k6 (sK fun _ k9 => ?_)
 refine rL (xA (.bool true) rfl ?_)
 simp only [zP, po]
 refine wK k9 (rR ?_)
 refine bR rfl rfl (⟨_, _, rfl, ((hv.front 1 rfl).sub (List.Sublist.cons_cons _ (List.Sublist.cons _ (List.Sublist.refl _))))⟩)
theorem x5callable56 : Callable Tryz.prog 56 := ⟨_, Tryz.func56, by kernel_rfl, by kernel_rfl⟩
set_option maxHeartbeats 2000000 in
theorem txnRollback (B : Base) (H : List Res) (w : World) (t m s : Nat) (va : Option Addr) (vc : Nat) (sv : Value) (clk : Int) (hv : Inv B (Res.cell m [.pointer (some ⟨s, 0, none⟩), sv, .int .i64 clk, .slice va 1 vc] 88 :: Res.row 25 1 (.slice va 1 vc) 1 [.pointer (some ⟨t, 0, none⟩)] :: H) w) :
  Calls Tryz.prog 28 #[.pointer (some ⟨m, 0, none⟩), .pointer (some ⟨t, 0, none⟩)] w fun e w' => ∃ va2 vc2, e = .returned (.int .i64 0) ∧ Inv B (Res.cell m [.pointer (some ⟨s, 0, none⟩), sv, .int .i64 clk, .slice va2 0 vc2] 88 :: H) w' := by
 refine cW Tryz.func28 rfl Tryz.ntmps28 ?_
 simp only [al]
 refine sK fun _ k1 => rL (xA (.int .i64 0) rfl ?_)
 simp only [zP, po]
 refine wK k1 (sK fun _ k2 => ?_)
 refine sK fun _ k3 => rL (xM (.pointer (some ⟨m, 0, none⟩)) rfl ?_)
 refine xM (.pointer (some ⟨t, 0, none⟩)) rfl (xC x5callable56 rfl ((txnEnd B _ _ t m s va vc sv clk hv).mono ?_) rfl)
 rintro e w4 ⟨va2, vc2, rfl, hv⟩
 refine ⟨_, rfl, ?_⟩
 simp only [zP, po]
 refine xG (.bool false) rfl (ex_not rfl rfl rfl) ?_
 simp only [zP, po]
 refine wK k3 (cF rfl ?_)
 refine kS (tK k2 ?_)
 refine sK fun _ k5 => rL (xA (.int .i64 0) rfl ?_)
 simp only [zP, po]
 refine wK k5 (rR ?_)
 refine bR rfl rfl (⟨_, _, rfl, hv⟩)
set_option maxHeartbeats 2000000 in
theorem txnActive0 (B : Base) (H : List Res) (w : World) (m s : Nat) (va2 : Option Addr) (vc2 : Nat) (sv : Value) (clk : Int) (hv : Inv B (Res.cell m [.pointer (some ⟨s, 0, none⟩), sv, .int .i64 clk, .slice va2 0 vc2] 88 :: H) w) :
  Calls Tryz.prog 29 #[.pointer (some ⟨m, 0, none⟩)] w fun e w' => e = .returned (.int .i64 0) ∧ Inv B (Res.cell m [.pointer (some ⟨s, 0, none⟩), sv, .int .i64 clk, .slice va2 0 vc2] 88 :: H) w' := by
 refine cW Tryz.func29 rfl Tryz.ntmps29 ?_
 simp only [al]
 refine sK fun _ k1 => rL (xA (.int .i64 0) rfl ?_)
 simp only [zP, po]
 refine wK k1 (sK fun _ k2 => ?_)
 refine rL (xM (.pointer (some ⟨m, 0, none⟩)) rfl ?_)
 refine xG (.pointer (some ⟨m, 0, none⟩)) rfl (ex_nil rfl rfl) (xF (.pointer (some ⟨m, 3, none⟩)) rfl (x1fa88_3 _ _ _) ?_)
 simp only [zP, po]
 refine xL _ rfl (run_load1 x1na86 (hv.load 0 3 rfl rfl)) (xG (.int .i64 0) rfl (ex_len0 Tryz.underlying86 rfl rfl) ?_)
 refine xA (.int .i64 0) rfl ?_
 simp only [zP, po]
 refine wK k2 (rR ?_)
 refine bR rfl rfl (⟨rfl, hv⟩)
end Go.Proofs.YtkoghbmjbobfjaaGreat
/- Writes as the law's arguments hold them: how long the rows are is not yet known. -/
namespace Go.Pm
open Go.RowKit
structure ValRd (B : Base) (v : Val) (p t z : Value) : Prop where
 p : RowB B p v.pairs.length (pairCells v.pairs)
 t : RowB B t v.texts.length (textCells v.texts)
 z : RowB B z v.zset.length (memCells v.zset)
theorem ValRd.more {B C : Base} {v : Val} {p t z : Value} (h : ValRd B v p t z) (hB : B.Le C) : ValRd C v p t z := ⟨h.p.more hB, h.t.more hB, h.z.more hB⟩
theorem ValAt.rd {B : Base} {v : Val} {p t z : Value} (h : ValAt B v p t z) : ValRd B v p t z := ⟨h.p, h.t, h.z⟩
def ValSm (v : Val) : Prop := v.pairs.length ≤ 60 ∧ v.texts.length ≤ 600 ∧ v.zset.length ≤ 60
section
variable {P : Program} {a : Act} {w : World} {o : Oper} {t u : TypeId} {x y : Operand}
theorem ex_neqSame {L : List Value} (ho : o.op = .binOp .neq t x y u) (hx : a.eval x = .agg L.toArray) (hy : a.eval y = .agg L.toArray) (hg : P.eqGuardType P.depth t = false) (he : ∀ w, (Op.equalIn 10000 t (.agg L.toArray) (.agg L.toArray)).run P w = .ok true w) : Ex P a o w (.bool false) w := by
 unfold Ex
 simp [execOp, ho, hx, hy, run_eqGuard_agg w .neq t x y _ _ hg, run_neq_struct, he]
end
end Go.Pm
/- Arguments of the store's laws: rows of rows of writes. -/
namespace Go.Pm
open Go.RowKit
def All2 {α β : Type} (R : α → β → Prop) : List α → List β → Prop
 | [], [] => True
 | a :: k, b :: l => R a b ∧ All2 R k l
 | _, _ => False
theorem rep_rowAux {W : World} {S : Nat → Prop} {t : Ty} {a : Option Addr} : ∀ (l : List t.den) (k : Nat), (∀ i (h : i < l.length), ∃ b off xs, a = some ⟨b, off, none⟩ ∧ S b ∧ xs.length = t.size ∧ (∀ j (h : j < xs.length), W.cell? ⟨b, off + (k + i) * t.size + j, none⟩ = some xs[j]) ∧ Rep W S t xs l[i]) →
  ∃ xss : List (List Value), All2 (fun xs d => xs.length = t.size ∧ Rep W S t xs d) xss l ∧ ∀ j (h : j < xss.flatten.length), ∃ b off, a = some ⟨b, off, none⟩ ∧ W.cell? ⟨b, off + k * t.size + j, none⟩ = some xss.flatten[j]
 | [], k, _ => ⟨[], trivial, fun j h => by simp at h⟩
 | d :: l, k, h => by
  obtain ⟨xss, h1, h2⟩ := rep_rowAux l (k + 1) (fun i hi => by
   obtain ⟨b, off, xs, e1, e2, e3, e4, e5⟩ := h (i + 1) (by simpa using hi)
   refine ⟨b, off, xs, e1, e2, e3, fun j hj => ?_, e5⟩
   rw [show k + 1 + i = k + (i + 1) by omega]
   exact e4 j hj)
  obtain ⟨b, off, xs, e1, e2, e3, e4, e5⟩ := h 0 (by simp)
  refine ⟨xs :: xss, ⟨⟨e3, e5⟩, h1⟩, fun j hj => ?_⟩
  rcases Nat.lt_or_ge j xs.length with hx | hx
  ·refine ⟨b, off, e1, ?_⟩
   have := e4 j hx
   rw [Nat.add_zero] at this
   rw [this]
   simp only [List.flatten_cons]
   rw [List.getElem_append_left hx]
  have hj' : j - xs.length < xss.flatten.length := by
   simp only [List.flatten_cons, List.length_append] at hj
   omega
  obtain ⟨b', off', f1, f2⟩ := h2 (j - xs.length) hj'
  refine ⟨b', off', f1, ?_⟩
  rw [show off' + k * t.size + j = off' + (k + 1) * t.size + (j - xs.length) by rw [Nat.succ_mul]; omega, f2]
  simp only [List.flatten_cons]
  rw [List.getElem_append_right hx]
theorem rep_row {W : World} {S : Nat → Prop} {t : Ty} {cs : List Value} {l : List t.den} (h : Rep W S (.slice t) cs l) :
  ∃ a cap xss, cs = [.slice a l.length cap] ∧ SliceOk a l.length cap ∧ RdV (Base.of W) [] a xss.flatten ∧ All2 (fun xs d => xs.length = t.size ∧ Rep W S t xs d) xss l := by
 obtain ⟨a, cap, h1, h2, h4⟩ := h
 obtain ⟨xss, h5, h6⟩ := rep_rowAux (t := t) l 0 (fun i hi => by
  obtain ⟨b, off, xs, e1, e2, e3, e4, e5⟩ := h4 i hi
  refine ⟨b, off, xs, e1, e2, e3, fun j hj => ?_, e5⟩
  rw [Nat.zero_add]
  exact e4 j hj)
 refine ⟨a, cap, xss, h1, h2, rdV_of W fun j hj => ?_, h5⟩
 obtain ⟨b, off, f1, f2⟩ := h6 j hj
 exact ⟨b, off, f1, by rw [← f2, Nat.zero_mul, Nat.add_zero]⟩
abbrev pairTy : Ty := .pair .str (.pair .str .unit)
abbrev memTy : Ty := .pair (.int .i64) (.pair .str .unit)
abbrev valTy : Ty := .pair (.int .i64) (.pair .str (.pair (.slice pairTy) (.pair (.slice .str) (.pair (.slice memTy) .unit))))
abbrev verTy : Ty := .pair (.int .i64) (.pair .bool (.pair (.int .i64) (.pair valTy .unit)))
abbrev wrTy : Ty := .pair .str (.pair verTy .unit)
def valOf (d : valTy.den) : Val := ⟨d.1, d.2.1, d.2.2.1.map fun p => (p.1, p.2.1), d.2.2.2.1, d.2.2.2.2.1.map fun p => (p.1, p.2.1)⟩
def verOf (d : verTy.den) : Ver := ⟨d.1, d.2.1, d.2.2.1, valOf d.2.2.2.1⟩
def wrOf (d : wrTy.den) : Wr := ⟨d.1, verOf d.2.1⟩
theorem rep_pairs {W : World} {S : Nat → Prop} : ∀ {xss : List (List Value)} {l : List pairTy.den}, All2 (fun xs d => xs.length = pairTy.size ∧ Rep W S pairTy xs d) xss l → xss.flatten = pairCells (l.map fun p => (p.1, p.2.1))
 | [], [], _ => rfl
 | xs :: xss, d :: l, ⟨⟨h1, h2⟩, h⟩ => by
  have := rep_pairs h
  match xs, h1 with
  | [x0, x1], _ =>
   obtain ⟨⟨k1, _⟩, ⟨k2, _⟩, _⟩ := h2
   have k1' : [x0] = _ := k1
   have k2' : [x1] = _ := k2
   simp only [List.cons.injEq, and_true] at k1' k2'
   subst k1' k2'
   simp only [List.flatten_cons, this, List.map_cons, pairCells, List.flatMap_cons]
theorem rep_mems {W : World} {S : Nat → Prop} : ∀ {xss : List (List Value)} {l : List memTy.den}, All2 (fun xs d => xs.length = memTy.size ∧ Rep W S memTy xs d) xss l → xss.flatten = memCells (l.map fun p => (p.1, p.2.1))
 | [], [], _ => rfl
 | xs :: xss, d :: l, ⟨⟨h1, h2⟩, h⟩ => by
  have := rep_mems h
  match xs, h1 with
  | [x0, x1], _ =>
   obtain ⟨⟨k1, _⟩, ⟨k2, _⟩, _⟩ := h2
   have k1' : [x0] = _ := k1
   have k2' : [x1] = _ := k2
   simp only [List.cons.injEq, and_true] at k1' k2'
   subst k1' k2'
   simp only [List.flatten_cons, this, List.map_cons, memCells, List.flatMap_cons]
   rfl
theorem rep_texts {W : World} {S : Nat → Prop} : ∀ {xss : List (List Value)} {l : List (List UInt8)}, All2 (fun xs (d : Ty.str.den) => xs.length = Ty.str.size ∧ Rep W S .str xs d) xss l → xss.flatten = textCells l
 | [], [], _ => rfl
 | xs :: xss, d :: l, ⟨⟨h1, h2⟩, h⟩ => by
  have := rep_texts h
  match xs, h1 with
  | [x0], _ =>
   obtain ⟨k1, _⟩ := h2
   have k1' : [x0] = _ := k1
   simp only [List.cons.injEq, and_true] at k1'
   subst k1'
   simp only [List.flatten_cons, this, textCells, List.map_cons]
   rfl
theorem rep_val {W : World} {S : Nat → Prop} {k0 k1 k2 k3 k4 : Value} {d : valTy.den} (h : Rep W S valTy [k0, k1, k2, k3, k4] d) : k0 = .int .i64 (valOf d).kind ∧ k1 = strV (valOf d).text ∧ ValRd (Base.of W) (valOf d) k2 k3 k4 := by
 obtain ⟨⟨e0, _⟩, ⟨e1, _⟩, e2, e3, e4, _⟩ := h
 have e0' : [k0] = _ := e0
 have e1' : [k1] = _ := e1
 simp only [List.cons.injEq, and_true] at e0' e1'
 obtain ⟨a2, c2, x2, f2, g2, i2, j2⟩ := rep_row e2
 obtain ⟨a3, c3, x3, f3, g3, i3, j3⟩ := rep_row e3
 obtain ⟨a4, c4, x4, f4, g4, i4, j4⟩ := rep_row e4
 have f2' : [k2] = _ := f2
 have f3' : [k3] = _ := f3
 have f4' : [k4] = _ := f4
 simp only [List.cons.injEq, and_true] at f2' f3' f4'
 rw [rep_pairs j2] at i2
 rw [rep_texts j3] at i3
 rw [rep_mems j4] at i4
 refine ⟨e0', e1', ⟨a2, c2, ?_, ?_, i2⟩, ⟨a3, c3, f3', g3, i3⟩, ⟨a4, c4, ?_, ?_, i4⟩⟩
 ·rw [f2']; simp [valOf]
 ·simpa [valOf] using g2
 ·rw [f4']; simp [valOf]
 simpa [valOf] using g4
end Go.Pm
/- Arguments of TxnOwn: rows of acts. -/
namespace Go.Pm
open Go.RowKit
abbrev act18Ty : Ty := .pair (.int .i64) (.pair (.int .i64) (.pair (.int .i64) (.pair wrTy (.pair (.int .i64) .unit))))
def ActsRd18 (B : Base) (a : Option Addr) (n : Nat) : Prop := ∀ i, i < n → ∃ (b off : Nat) (kd tt nn an : Int) (x : Wr) (p t z : Value), a = some ⟨b, off, none⟩ ∧
 Reads B [] b (off + i * 13) [.int .i64 kd, .int .i64 tt, .int .i64 nn, strV x.key, .int .i64 x.ver.stamp, .bool x.ver.gone, .int .i64 x.ver.expire, .int .i64 x.ver.val.kind, strV x.ver.val.text, p, t, z, .int .i64 an] ∧ ValRd B x.ver.val p t z
theorem rep_acts18 {W : World} {cs : List Value} {l : List act18Ty.den} (h : Rep W (· < W.heap.size) (.slice act18Ty) cs l) :
  ∃ (a : Option Addr) (cap n : Nat), cs = [.slice a n cap] ∧ ActsRd18 (Base.of W) a n := by
 obtain ⟨a, cap, h1, h2, h4⟩ := h
 refine ⟨a, cap, l.length, h1, fun i hi => ?_⟩
 obtain ⟨b, off, xs, e1, e2, e3, e4, e5⟩ := h4 i hi
 match xs, e3 with
 | [x0, x1, x2, y0, y1, y2, y3, y4, y5, y6, y7, y8, x4], _ =>
  obtain ⟨⟨k1, _⟩, ⟨m1, _⟩, ⟨c1, _⟩, ⟨⟨s0, _⟩, ⟨⟨s1, _⟩, g1, ⟨p1, _⟩, v1, _⟩, _⟩, ⟨a1, _⟩, _⟩ := e5
  have k1' : [x0] = _ := k1
  have m1' : [x1] = _ := m1
  have c1' : [x2] = _ := c1
  have s0' : [y0] = _ := s0
  have s1' : [y1] = _ := s1
  have g1' : [y2] = _ := g1
  have p1' : [y3] = _ := p1
  have a1' : [x4] = _ := a1
  simp only [List.cons.injEq, and_true] at k1' m1' c1' s0' s1' g1' p1' a1'
  obtain ⟨q1, q2, q3⟩ := rep_val (k0 := y4) (k1 := y5) (k2 := y6) (k3 := y7) (k4 := y8) v1
  subst k1' m1' c1' s0' s1' g1' p1' a1' q1 q2
  refine ⟨b, off, l[i].1, l[i].2.1, l[i].2.2.1, l[i].2.2.2.2.1, wrOf l[i].2.2.2.1, y6, y7, y8, e1, ?_, q3⟩
  intro C K w hC hR hv j v hj
  obtain ⟨hj1, hj2⟩ := List.getElem?_eq_some_iff.1 hj
  simp only [List.length_cons, List.length_nil] at hj1
  have := e4 j hj1
  rw [← hj2]
  refine Eq.trans ?_ (this.trans ?_)
  ·exact World.cell?_of_block (by rw [Array.getElem?_eq_getElem e2]; exact hv.base.blk b _ (hC.blk b _ (Array.getElem?_eq_getElem e2)))
  match j, hj1 with
  | 0, _ | 1, _ | 2, _ | 3, _ | 4, _ | 5, _ | 6, _ | 7, _ | 8, _ | 9, _ | 10, _ | 11, _ | 12, _ => rfl
end Go.Pm
