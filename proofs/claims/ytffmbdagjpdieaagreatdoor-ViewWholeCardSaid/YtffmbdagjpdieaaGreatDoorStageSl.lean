/- A region that draws its order: stages of memory with names that come up on the way. -/
import Derived.Test.YtffmbdagjpdieaaGreatDoorOps3
namespace Go.Pm
open Go.RowKit

/-- a stage: what is known of the values so far, and of memory -/
structure Stg where
  p : List Value → World → Prop
  st : ∀ vals w w', p vals w → Ext w w' → p vals w'
def Stg.no : Stg := ⟨fun _ _ => False, fun _ _ _ h _ => h⟩
def JS (Ks : List Stg) (vals : List Value) (w : World) : Prop := (Ks.getD vals.length Stg.no).p vals w
theorem JS.ext {Ks : List Stg} : ∀ vals w w', JS Ks vals w → Ext w w' → JS Ks vals w' := fun vals w w' h he => (Ks.getD vals.length Stg.no).st vals w w' h he
theorem JS.at0 {Ks : List Stg} {vals : List Value} {w : World} (h : JS Ks vals w) {k : Nat} (hk : vals.length = k) : (Ks.getD k Stg.no).p vals w := by subst hk; exact h
theorem JS.le {Ks : List Stg} {vals : List Value} {w : World} {n : Nat} (hn : Ks.length = n + 1) (h : JS Ks vals w) : vals.length ≤ n := by
  unfold JS at h
  by_cases hl : vals.length < Ks.length
  · omega
  · rw [List.getD_eq_getElem?_getD, List.getElem?_eq_none (by omega)] at h
    exact h.elim
theorem JS.next {Ks : List Stg} {vals : List Value} {v : Value} {w : World} {k : Nat} (hk : vals.length = k) (h : (Ks.getD (k + 1) Stg.no).p (vals ++ [v]) w) : JS Ks (vals ++ [v]) w := by
  subst hk
  unfold JS
  rw [List.length_append]
  exact h
section
variable {n : Nat} {P : Program} {ops : Array Oper} {Q : Exit → Act → World → Prop} {a0 : Act} {w0 : World}
theorem region_stR {l id : Nat} (hm : P.follows .mixedOrders = true) (hno : ¬ LetsOut Q) (VS : List Value) (mem : List Nat) (Ks : List Stg) (k : Nat) (hsize : a0.tmps.size = k)
    (hck : (backward ops && onceDst ops && fitsDst ops k && decide mem.Nodup && chained ops mem && mem.all (· < ops.size) && decide (VS.length = ops.size)) = true) (hd : ops.all (fun o => !isDefer o) = true)
    (h0 : (Ks.getD 0 Stg.no).p [] w0)
    (hop : AllOps (fun i o => ∀ a w vals, JS Ks vals w → Ready3 ops (VS.map SP.eq) mem a0 a w vals i → if mem.contains i then (vals.length = place mem i → StepMem P ops (JS Ks) Q o a w vals) else StepAdds P ops (VS.map SP.eq) Q i o a w) 0 ops.toList)
    (hfin : ∀ w vals, (Ks.getD mem.length Stg.no).p vals w → Q .normal (putAll ops.toList (mixV mem vals 0 VS) a0) w) : (Code.region id ops true).wpIn (Fence.wide.inRound l) n P Q a0 w0 :=
  region_detR hm hno VS mem (JS Ks) k hsize hck hd h0 JS.ext hop (fun w vals hvl hJ => hfin w vals (hJ.at0 hvl))
theorem region_st {id : Nat} (hm : P.follows .mixedOrders = true) (VS : List Value) (mem : List Nat) (Ks : List Stg) (k : Nat) (hsize : a0.tmps.size = k)
    (hck : (backward ops && onceDst ops && fitsDst ops k && decide mem.Nodup && chained ops mem && mem.all (· < ops.size) && decide (VS.length = ops.size)) = true)
    (h0 : (Ks.getD 0 Stg.no).p [] w0)
    (hop : AllOps (fun i o => ∀ a w vals, JS Ks vals w → Ready3 ops (VS.map SP.eq) mem a0 a w vals i → if mem.contains i then (vals.length = place mem i → StepMem P ops (JS Ks) Q o a w vals) else StepAdds P ops (VS.map SP.eq) Q i o a w) 0 ops.toList)
    (hfin : ∀ w vals, (Ks.getD mem.length Stg.no).p vals w → Q .normal (putAll ops.toList (mixV mem vals 0 VS) a0) w) : (Code.region id ops true).wpIn Fence.wide n P Q a0 w0 :=
  region_det hm VS mem (JS Ks) k hsize hck h0 JS.ext hop (fun w vals hvl hJ => hfin w vals (hJ.at0 hvl))
end
section
variable {P : Program} {ops : Array Oper} {Q : Exit → Act → World → Prop} {J : List Value → World → Prop} {a : Act} {w : World} {vals : List Value} {o : Oper} {v : Value} {B : Base} {H : List Res} {t e : TypeId} {x y : Operand} {L : List Value}
/-- one element, in a new row -/
theorem mem_row1 {zv : Value} {bytes : Nat} (hg : Region.wanted o (yielded ops a.tmps) = true) (ho : o.op = .buildSlice t 1 #[(0, x)]) (hx : a.eval x = v) (hv : Inv B H w) (E : Elem P t e zv 1 bytes) (h1 : v.cells = #[v])
    (h : ∀ b w', Inv B (Res.cell b [v] e :: H) w' → J (vals ++ [.slice (some ⟨b, 0, none⟩) 1 1]) w') : StepMem P ops J Q o a w vals :=
  Ex.mem (ex_row1 ho hx (run_buildSlice1 E w v h1)) hg (h _ _ (hv.alloc [v] e))
theorem mem_alloc (hg : Region.wanted o (yielded ops a.tmps) = true) (ho : o.op = .alloc t) (hv : Inv B H w) (hz : ∀ w, (Instr.alloc t true (.tuple #[])).run P w = .ok (.pointer (some ⟨w.heap.size, 0, none⟩)) (w.alloc (.cells L.toArray t)))
    (h : ∀ b w', Inv B (Res.cell b L t :: H) w' → J (vals ++ [.pointer (some ⟨b, 0, none⟩)]) w') : StepMem P ops J Q o a w vals :=
  Ex.mem (ex_alloc ho (hz w)) hg (h _ _ (hv.alloc L t))
theorem mem_box {p : Value} (hg : Region.wanted o (yielded ops a.tmps) = true) (ho : o.op = .box t x) (hx : a.eval x = p) (hv : Inv B H w) (hz : ∀ w, (Instr.box t p).run P w = .ok (.pointer (some ⟨w.heap.size, 0, none⟩)) (w.alloc (.cells L.toArray t)))
    (h : ∀ b w', Inv B (Res.cell b L t :: H) w' → J (vals ++ [.pointer (some ⟨b, 0, none⟩)]) w') : StepMem P ops J Q o a w vals :=
  Ex.mem (ex_box ho hx (hz w)) hg (h _ _ (hv.alloc L t))
theorem mem_storeAt (k : Nat) {b off : Nat} {L' : List Value} (hg : Region.wanted o (yielded ops a.tmps) = true) (ho : o.op = .store t x y) (hx : a.eval x = .pointer (some ⟨b, off, none⟩)) (hy : a.eval y = v) (hv : Inv B H w) (hk : H[k]? = some (Res.cell b L e)) (hz : (P.info? t).map (·.size) = some 1)
    (hoff : off < L.length) (hc : v.cells = #[v]) (h1 : v.oneCell' = true) (hL : L.set off v = L') (h : ∀ w', Inv B (H.set k (Res.cell b L' e)) w' → J (vals ++ [undef]) w') : StepMem P ops J Q o a w vals := by
  subst hL
  exact ExU.mem (ex_store ho hx hy (run_store1 hz (hv.get k hk : Blk w b L e) hoff hc h1)) hg (h _ (hv.putAt k hk _))
end
section
variable {F : Fence} {n : Nat} {P : Program} {ops : Array Oper} {Q : Exit → Act → World → Prop} {a : Act} {w : World} {rest : List Oper} {o : Oper} {v zv : Value} {B : Base} {H : List Res} {t e : TypeId} {x : Operand} {bytes : Nat}
theorem sl_rowOne (hF : ∀ f, F.fn f) (hg : Region.wanted o (yielded ops a.tmps) = true) (ho : o.op = .buildSlice t 1 #[(0, x)]) (hx : a.eval x = v) (hv : Inv B H w) (E : Elem P t e zv 1 bytes) (h1 : v.cells = #[v])
    (h : ∀ b w', Inv B (Res.cell b [v] e :: H) w' → wpListIn F n P ops Q rest (a.put o.dst (.slice (some ⟨b, 0, none⟩) 1 1)) w') : wpListIn F n P ops Q (o :: rest) a w :=
  wpi_exG hF hg (by unfold isDefer; rw [ho]) (ex_row1 ho hx (run_buildSlice1 E w v h1)) (h _ _ (hv.alloc [v] e))
end
/-- an element type's row, out of the program's table -/
theorem elem_of {P : Program} {t e : TypeId} {z : Value} {size bytes : Nat} (ht : P.underlying t = some (.slice e)) (hi : (P.info? e).map (fun i => (i.zero, i.size, i.bytes)) = some (some z, size, bytes)) (hz : z.cells.size = size) (hp : 0 < size) : Elem P t e z size bytes := by
  refine ⟨ht, ?_, hz, hp⟩
  obtain ⟨i, hi, h⟩ := Option.map_eq_some_iff.1 hi
  simp only [Prod.mk.injEq] at h
  exact ⟨i, hi, h⟩
end Go.Pm
