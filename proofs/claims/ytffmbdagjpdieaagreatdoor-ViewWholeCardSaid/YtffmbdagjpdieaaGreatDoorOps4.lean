/- Structs: built, loaded, stored; results in cells. -/
import Derived.Test.YtffmbdagjpdieaaGreatDoorNum
namespace Go.Pm
open Go.RowKit
section
variable {P : Program} {a : Act} {w w' : World} {o : Oper} {v : Value} {x y : Operand} {t e : TypeId}
theorem ex_buildN {parts : Array (Nat × Operand)} {vs : Array (Nat × Value)} (ho : o.op = .build t parts) (hp : parts.map (fun (p : Nat × Operand) => (p.1, a.eval p.2)) = vs) (hr : (Instr.build t vs).run P w = .ok v w) : Ex P a o w v w := by
  unfold Ex
  have : (parts.map fun (i, x) => (i, a.eval x)) = vs := hp
  simp [execOp, ho, this, hr]
theorem one_nil : ∀ v ∈ ([] : List Value), v.oneCell' = true := fun _ h => by cases h
theorem one_cons {v : Value} {l : List Value} (h : v.oneCell' = true) (k : ∀ v ∈ l, v.oneCell' = true) : ∀ u ∈ v :: l, u.oneCell' = true := List.forall_mem_cons.2 ⟨h, k⟩
theorem wide_of {n : Nat} (h1 : ∀ w, (isAgg t).run P w = .ok true w) (h2 : (P.info? t).map (·.size) = some n) : Wide P t n := ⟨h1, h2⟩
theorem res_cell1 {fn : Func} {r : Nat} (h : fn.results = #[.cell r t]) {tmps : Array Value} {ad : Addr} (hr : tmps.getD r undef = .pointer (some ad)) (hl : (Instr.loadAt t (.pointer (some ad))).run P w = .ok v w) : (results fn tmps).run P w = .ok v w := by
  have hl' : (loadVar t ad).run P w = .ok v w := by simpa [Instr.loadAt, Instr.sureAddr] using hl
  have hr' : tmps[r]?.getD undef = .pointer (some ad) := by rw [← hr, Array.getD_eq_getD_getElem?]
  simp [results, h, hr', asAddr, hl']
theorem res_cell3 {fn : Func} {r i j : Nat} (h : fn.results = #[.cell r t, .tmp i, .tmp j]) {tmps : Array Value} {ad : Addr} (hr : tmps.getD r undef = .pointer (some ad)) (hl : (Instr.loadAt t (.pointer (some ad))).run P w = .ok v w) : (results fn tmps).run P w = .ok (.tuple #[v, tmps.getD i undef, tmps.getD j undef]) w := by
  have hl' : (loadVar t ad).run P w = .ok v w := by simpa [Instr.loadAt, Instr.sureAddr] using hl
  have hr' : tmps[r]?.getD undef = .pointer (some ad) := by rw [← hr, Array.getD_eq_getD_getElem?]
  simp [results, h, hr', asAddr, hl']
theorem res_tcell4 {fn : Func} {r i j k : Nat} (h : fn.results = #[.tmp i, .cell r t, .tmp j, .tmp k]) {tmps : Array Value} {ad : Addr} (hr : tmps.getD r undef = .pointer (some ad)) (hl : (Instr.loadAt t (.pointer (some ad))).run P w = .ok v w) : (results fn tmps).run P w = .ok (.tuple #[tmps.getD i undef, v, tmps.getD j undef, tmps.getD k undef]) w := by
  have hl' : (loadVar t ad).run P w = .ok v w := by simpa [Instr.loadAt, Instr.sureAddr] using hl
  have hr' : tmps[r]?.getD undef = .pointer (some ad) := by rw [← hr, Array.getD_eq_getD_getElem?]
  simp [results, h, hr', asAddr, hl']
theorem res_cell2 {fn : Func} {r i : Nat} (h : fn.results = #[.cell r t, .tmp i]) {tmps : Array Value} {ad : Addr} (hr : tmps.getD r undef = .pointer (some ad)) (hl : (Instr.loadAt t (.pointer (some ad))).run P w = .ok v w) : (results fn tmps).run P w = .ok (.tuple #[v, tmps.getD i undef]) w := by
  have hl' : (loadVar t ad).run P w = .ok v w := by simpa [Instr.loadAt, Instr.sureAddr] using hl
  have hr' : tmps[r]?.getD undef = .pointer (some ad) := by rw [← hr, Array.getD_eq_getD_getElem?]
  simp [results, h, hr', asAddr, hl']
end
section
variable {F : Fence} {n : Nat} {P : Program} {ops : Array Oper} {Q : Exit → Act → World → Prop} {a : Act} {w : World} {rest : List Oper} {o : Oper} {v : Value} {B : Base} {H : List Res} {t e : TypeId} {x y : Operand}
/-- append to nothing -/
theorem sl_appendNew {ad : Option Addr} {m c size bytes : Nat} {zv : Value} {news : List Value} (hF : ∀ f, F.fn f) (hg : Region.wanted o (yielded ops a.tmps) = true) (ho : o.op = .call { callee := .builtin .append, args := #[x, y], argTypes := #[t, t] }) (hx : a.eval x = .slice none 0 0) (hy : a.eval y = .slice ad m c) (E : Elem P t e zv size bytes)
    (hv : Inv B H w) (hok : SliceOk ad m c) (hl : news.length = m * size) (hsrc : Src w ad news) (h1 : ∀ u ∈ news, u.oneCell' = true) (h63 : m ≤ maxLen) (hbytes : m * bytes ≤ 140737488355328)
    (h : ∀ v' w', Inv B (Res.row e size v' m news :: H) w' → wpListIn F n P ops Q rest (a.put o.dst v') w') : wpListIn F n P ops Q (o :: rest) a w := by
  have h0 := hv.new (Ext.rfl' _) (Res.row e size (.slice none 0 0) 0 []) (World.ownsRow_nil _ _ _ _) (fun b hb => by simp [Value.ownBlock] at hb) (by simp [Value.ownBlock])
  refine sl_append (n := n) hF hg ho hx hy E h0 hok hl hsrc h1 (by omega) (by simpa using hbytes) (fun v' w' hv' => h v' w' ?_)
  simpa using hv'
end
section
variable {P : Program} {ops : Array Oper} {Q : Exit → Act → World → Prop} {J : List Value → World → Prop} {a : Act} {w : World} {vals : List Value} {o : Oper} {B : Base} {H : List Res} {t e : TypeId} {x y : Operand} {L : List Value}
theorem mem_storeNAt (k : Nat) {b off : Nat} {new L' pre mid post : List Value} (hg : Region.wanted o (yielded ops a.tmps) = true) (ho : o.op = .store t x y) (hx : a.eval x = .pointer (some ⟨b, off, none⟩)) (hy : a.eval y = .agg new.toArray) (hv : Inv B H w) (hk : H[k]? = some (Res.cell b L e))
    (hz : (P.info? t).map (·.size) = some new.length) (hL : L = pre ++ mid ++ post) (hoff : pre.length = off) (hn : new.length = mid.length) (h1 : ∀ v ∈ new, v.oneCell' = true) (hL' : pre ++ new ++ post = L')
    (h : ∀ w', Inv B (H.set k (Res.cell b L' e)) w' → J (vals ++ [undef]) w') : StepMem P ops J Q o a w vals := by
  subst hL'; subst hL
  exact ExU.mem (ex_store ho hx hy (run_store_mid hz (hv.get k hk : Blk w b _ e) hoff hn h1)) hg (h _ (hv.putAt k hk _))
end
/-- a row's value is a slice -/
theorem row_slice {w : World} {e : TypeId} {size : Nat} {v : Value} {n : Nat} {xs : List Value} (h : w.ownsRow 0 e size v n xs) : ∃ ad c, v = .slice ad n c := by
  rcases h.2 with ⟨rfl, rfl⟩ | ⟨g, cap, cur, rfl, _⟩
  · exact ⟨_, _, rfl⟩
  · exact ⟨_, _, rfl⟩
end Go.Pm
