/- resp.List, of leaves, or of leaves and one list of leaves. -/
import Derived.Test.YtmpackidbgfoiaaGreatDoorCtFauC
import Derived.Test.YtmpackidbgfoiaaGreatDoorCtFauE
import Derived.Test.YtmpackidbgfoiaaGreatDoorCtFauG
import Derived.Test.YtmpackidbgfoiaaGreatDoorCtFauB
import Derived.Test.YtmpackidbgfoiaaGreatDoorRows
import Derived.Test.YtmpackidbgfoiaaGreatDoorCtFauF
import Derived.Sort.Walk0
set_option maxRecDepth 100000
set_option maxHeartbeats 16000000
set_option synthInstance.maxSize 4096
set_option synthInstance.maxHeartbeats 400000
namespace Go.Proofs.YtmpackidbgfoiaaGreatDoor
open Go.RowKit Go.Pm
theorem cloneRps0 (B : Base) (H : List Res) (w : World) (hv : Inv B H w) :
  Calls Tryz.prog 98 #[vN] w fun e w' => e = .returned (vN) ∧ Inv B H w' := by
 refine cW Tryz.func98 rfl Tryz.ntmps98 ?_
 simp only [al]
 refine sK fun _ k1 => rL (uA rfl ?_)
 refine uW k1 (sK fun _ k2 => ?_)
 refine sK fun _ k3 => rL (uM rfl ?_)
 refine uG (.bool true) rfl (ex_slnil Tryz.underlying36 rfl rfl rfl rfl) (uW k3 ?_)
 refine cT rfl (sK fun _ k4 => ?_)
 refine rL (uA rfl ?_)
 refine uW k4 (rR ?_)
 refine tR (bR rfl rfl ?_)
 exact ⟨rfl, hv⟩
theorem rlmk38 : (Tryz.prog.info? 38).map (fun i => (i.zero, i.size, i.bytes)) = some (some (.agg #[vI 0, vS [], vI 0, vN]), 4, 56) := by kernel_rfl
theorem rlel36 : Elem Tryz.prog 36 38 (.agg #[vI 0, vS [], vI 0, vN]) 4 56 := elem_of Tryz.underlying36 rlmk38 (by rfl) (by decide)
theorem cloneRps1 (B : Base) (H : List Res) (w : World) (a : Addr) (n c : Nat) (xs : List Value) (hok : SliceOk (some a) n c) (hl : xs.length = n * 4) (h1 : ∀ u ∈ xs, u.oneCell' = true) (hn : n ≤ 1000000) (hr : RdV B [] (some a) xs) (hv : Inv B H w) :
  Calls Tryz.prog 98 #[.slice (some a) n c] w fun e w' => ∃ v, e = .returned v ∧ Inv B (Res.row 38 4 v n xs :: H) w' := by
 refine cW Tryz.func98 rfl Tryz.ntmps98 ?_
 simp only [al]
 refine sK fun _ k1 => rL (uA rfl ?_)
 refine uW k1 (sK fun _ k2 => ?_)
 refine sK fun _ k3 => rL (uM rfl ?_)
 refine uG (.bool false) rfl (ex_slnil Tryz.underlying36 rfl rfl rfl rfl) (uW k3 ?_)
 refine cF rfl (kS ?_)
 refine tK k2 (sK fun _ k4 => ?_)
 refine rL (sl_row0 (size := 4) tV (wn rfl) rfl hv (e := 38) (fun w => by kernel_rfl) (fun b5 w6 hv => ?_))
 refine uM rfl ?_
 refine sl_append (news := xs) tV (wn rfl) rfl rfl rfl rlel36 hv hok hl ((hr.more (Base.Le.refl _) (fun _ h => by cases h)).src hv) (h1) (by unfold maxLen; omega) (by omega) (fun rv7 w10 hv => ?_)
 obtain ⟨ra8, rc9, rfl⟩ := row_slice hv.head
 refine uA rfl (uW k4 ?_)
 refine rR (bR rfl rfl ?_)
 rw [Nat.zero_add, List.nil_append] at hv
 exact ⟨_, by rw [Nat.zero_add]; rfl, hv⟩
theorem cloneRps (B : Base) (H : List Res) (w : World) (ad : Option Addr) (n c : Nat) (xs : List Value) (hok : SliceOk ad n c) (hl : xs.length = n * 4) (h1 : ∀ u ∈ xs, u.oneCell' = true) (hn : n ≤ 1000000) (hr : RdV B [] ad xs) (hv : Inv B H w) :
  Calls Tryz.prog 98 #[.slice ad n c] w fun e w' => ∃ va vc, e = .returned (.slice va n vc) ∧ Inv B (Res.row 38 4 (.slice va n vc) n xs :: H) w' := by
 cases ad with
 | none =>
  have hc0 : c = 0 := hok.nil rfl
  have hn0 : n = 0 := by have := hok.le; omega
  subst hc0 hn0
  have hx : xs = [] := List.eq_nil_of_length_eq_zero (by simpa using hl)
  subst hx
  refine (cloneRps0 B H w hv).mono ?_
  rintro e w' ⟨rfl, hv⟩
  exact ⟨_, _, rfl, hv.rowNil _ _⟩
 | some a =>
  refine (cloneRps1 B H w a n c xs hok hl h1 hn hr hv).mono ?_
  rintro e w' ⟨v, rfl, hv⟩
  obtain ⟨va, vc, rfl⟩ := row_slice hv.head
  exact ⟨_, _, rfl, hv⟩
theorem respOne0 (B : Base) (H : List Res) (w : World) (la : Option Addr) (n lc : Nat) (h0 : 0 < n) (hv : Inv B H w) :
  Calls Tryz.prog 108 #[.slice la n lc, vN] w fun e w' => e = .returned (.bool false) ∧ Inv B H w' := by
 refine cW Tryz.func108 rfl Tryz.ntmps108 ?_
 simp only [al]
 refine sK fun _ k1 => rL (uA rfl ?_)
 refine uW k1 (sK fun _ k2 => ?_)
 refine rW mixed [] [0,1,2,3,4,5,6,7,8,9,10,11,12,13,14,15,16,17] 22 rfl (by kernel_rfl) hv ?_
 simp only [qm, opAt]
 refine dM (.slice la n lc) rfl (dG (vI n) rfl (ex_len0 Tryz.underlying36 rfl rfl) ?_)
 refine dG (.bool true) rfl (ex_gtr rfl rfl rfl (qT (by omega))) ?_
 simp only [zP, po]
 refine dM (.bool true) rfl (dM (.slice la n lc) rfl ?_)
 refine dG (vI n) rfl (ex_len0 Tryz.underlying36 rfl rfl) ?_
 simp only [zP, po]
 refine dM (vN) rfl (dG (vI 0) rfl (ex_len0 Tryz.underlying36 rfl rfl) ?_)
 refine dG (.bool false) rfl (ex_eql rfl rfl rfl (qF (by omega))) ?_
 simp only [zP, po]
 refine dK true (.bool false) rfl (dM (.bool false) rfl ?_)
 iterate 5 refine dN rfl ?_
 refine dK false (.bool false) rfl ?_
 simp only [zP, po]
 refine dA (.bool false) rfl (dE fun w3 hv => ?_)
 simp only [zP, po]
 refine tK k2 (rR ?_)
 refine bR rfl rfl (⟨rfl, hv⟩)
theorem rlal172 : AL Tryz.prog 172 [vI 0, vI 0, vN, vN] := fun w => by kernel_rfl
theorem rlwd172 : Wide Tryz.prog 172 4 := wide_of (fun w => by kernel_rfl) (by kernel_rfl)
theorem rlsz172 : (Tryz.prog.info? 172).map (·.size) = some 4 := by kernel_rfl
theorem trailLeaf (B : Base) (H : List Res) (w : World) (n1 n2 : Int) (va vb : Value) (_ : va.cells = #[va]) (h1b : va.oneCell' = true) (_ : vb.cells = #[vb]) (h2b : vb.oneCell' = true) (aa : Option Addr) (ac : Nat) (hv : Inv B H w) :
  Calls Tryz.prog 99 #[.agg #[vI n1, vI n2, va, vb], .slice aa 0 ac, .slice aa 0 ac] w fun e w' => e = .returned (.tuple #[.agg #[vI n1, vI n2, va, vb], .bool false]) ∧ Inv B H w' := by
 refine cW Tryz.func99 rfl Tryz.ntmps99 ?_
 simp only [al]
 refine sK fun _ k1 => rL (sl_box (L := [vI n1, vI n2, va, vb]) tV (wn rfl) rfl rfl hv (fun w => by kernel_rfl) (fun b2 w3 hv => ?_))
 refine sl_alloc tV (wn rfl) rfl hv rlal172 (fun b4 w5 hv => ?_)
 refine uA rfl (uW k1 ?_)
 refine sK fun _ k6 => sK fun _ k7 => rL (uM rfl ?_)
 refine uG (vI 0) rfl (ex_len0 Tryz.underlying36 rfl rfl) ?_
 refine uG (.bool true) rfl (ex_eql rfl rfl rfl (by decide)) (uM rfl ?_)
 iterate 10 refine uP rfl ?_
 refine uK rfl (uW k7 ?_)
 refine cT rfl (sK fun _ k8 => ?_)
 refine rL (uL (.agg #[vI n1, vI n2, va, vb]) rfl (lM 1 rlwd172 hv rfl rfl rfl rfl) ?_)
 refine xS 0 rfl hv rlsz172 rfl (by exact ⟨rfl, rfl, h1b, h2b, trivial⟩) (fun w9 hv => ?_)
 simp only [zO, sp] at hv
 refine uA rfl (uW k8 ?_)
 refine rR (tR ?_)
 refine bodyPost_ret (res_cell2 rfl rfl (lM 0 rlwd172 hv rfl rfl rfl rfl)) rfl (⟨rfl, (hv.kp [] 0 2)⟩)
theorem rlfa172_2 : FA Tryz.prog 172 2 2 := fun w b o => by kernel_rfl
theorem rlna36 (w : World) : (isAgg 36).run Tryz.prog w = .ok false w := by kernel_rfl
theorem rlcallable108 : Callable Tryz.prog 108 := cb Tryz.func108 (by kernel_rfl)
theorem rlfa172_0 : FA Tryz.prog 172 0 0 := fun w b o => by kernel_rfl
theorem rlna3 (w : World) : (isAgg 3).run Tryz.prog w = .ok false w := by kernel_rfl
theorem rlsz3 : (Tryz.prog.info? 3).map (·.size) = some 1 := by kernel_rfl
theorem rlfa172_1 : FA Tryz.prog 172 1 1 := fun w b o => by kernel_rfl
theorem rlsz36 : (Tryz.prog.info? 36).map (·.size) = some 1 := by kernel_rfl
theorem rlfa172_3 : FA Tryz.prog 172 3 3 := fun w b o => by kernel_rfl
theorem trailNew (B : Base) (H : List Res) (w : World) (la : Option Addr) (n lc : Nat) (h0 : 0 < n) (hv : Inv B H w) :
  Calls Tryz.prog 99 #[.agg #[vI 0, vI 0, vN, vN], .slice la n lc, .slice la n lc] w fun e w' => e = .returned (.tuple #[.agg #[vI 1, vI 2, .slice la n lc, .slice la n lc], .bool true]) ∧ Inv B H w' := by
 refine cW Tryz.func99 rfl Tryz.ntmps99 ?_
 simp only [al]
 refine sK fun _ k1 => rL (sl_box (L := [vI 0, vI 0, vN, vN]) tV (wn rfl) rfl rfl hv (fun w => by kernel_rfl) (fun b2 w3 hv => ?_))
 refine sl_alloc tV (wn rfl) rfl hv rlal172 (fun b4 w5 hv => ?_)
 refine uA rfl (uW k1 ?_)
 refine sK fun _ k6 => sK fun _ k7 => rL (uM rfl ?_)
 refine uG (vI n) rfl (ex_len0 Tryz.underlying36 rfl rfl) ?_
 refine uG (.bool false) rfl (ex_eql rfl rfl rfl (qF (by omega))) (uM rfl ?_)
 refine uM rfl ?_
 refine uF (.pointer (some ⟨b2, 2, none⟩)) rfl (rlfa172_2 _ _ _) ?_
 refine uL _ rfl (run_load1 rlna36 (hv.load 1 2 rfl rfl)) ?_
 refine xC rlcallable108 rfl ((respOne0 B _ _ la n lc h0 hv).mono ?_) rfl
 rintro e w8 ⟨rfl, hv⟩
 refine ⟨_, rfl, ?_⟩
 refine uM rfl ?_
 iterate 4 refine uP rfl ?_
 refine uK rfl (uK rfl ?_)
 refine uW k7 (cF rfl ?_)
 refine kS (tK k6 ?_)
 refine sK fun _ k9 => rL (uF (vP b2) rfl (rlfa172_0 _ _ _) ?_)
 refine uL _ rfl (run_load1 rlna3 (hv.load 1 0 rfl rfl)) ?_
 refine uG (vI 1) rfl (ex_add rfl rfl rfl (i64_in (by omega))) ?_
 refine uF (vP b2) rfl (rlfa172_0 _ _ _) ?_
 refine xV 1 (vI 1) rfl hv rlsz3 rfl rfl (fun w10 hv => ?_)
 simp only [zS, zO, sp] at hv
 refine uW k9 (sK fun _ k11 => ?_)
 refine sK fun _ k12 => rL (uF (vP b2) rfl (rlfa172_0 _ _ _) ?_)
 refine uL _ rfl (run_load1 rlna3 (hv.load 1 0 rfl rfl)) ?_
 refine uF (.pointer (some ⟨b2, 1, none⟩)) rfl (rlfa172_1 _ _ _) ?_
 refine uL _ rfl (run_load1 rlna3 (hv.load 1 1 rfl rfl)) ?_
 refine uG (.bool true) rfl (ex_geq rfl rfl rfl (by decide)) (uW k12 ?_)
 refine cT rfl (rL ?_)
 refine uF (vP b2) rfl (rlfa172_0 _ _ _) ?_
 refine uL _ rfl (run_load1 rlna3 (hv.load 1 0 rfl rfl)) ?_
 refine uG (vI 2) rfl (ex_mul rfl rfl rfl (i64_in (by omega))) (uM rfl ?_)
 refine uM rfl ?_
 refine uF (.pointer (some ⟨b2, 1, none⟩)) rfl (rlfa172_1 _ _ _) ?_
 refine xV 1 (vI 2) rfl hv rlsz3 rfl rfl (fun w13 hv => ?_)
 simp only [zS, zO, sp] at hv
 refine uF (.pointer (some ⟨b2, 2, none⟩)) rfl (rlfa172_2 _ _ _) ?_
 refine xV 1 (.slice la n lc) rfl hv rlsz36 rfl rfl (fun w14 hv => ?_)
 simp only [zS, zO, sp] at hv
 refine uF (.pointer (some ⟨b2, 3, none⟩)) rfl (rlfa172_3 _ _ _) ?_
 refine xV 1 (.slice la n lc) rfl hv rlsz36 rfl rfl (fun w15 hv => ?_)
 simp only [zS, zO, sp] at hv
 refine uW k11 (sK fun _ k16 => ?_)
 refine rL (uL (.agg #[vI 1, vI 2, .slice la n lc, .slice la n lc]) rfl (lM 1 rlwd172 hv rfl rfl rfl rfl) ?_)
 refine xS 0 rfl hv rlsz172 rfl (by exact ⟨rfl, rfl, rfl, rfl, trivial⟩) (fun w17 hv => ?_)
 simp only [zO, sp] at hv
 refine uA rfl (uW k16 ?_)
 refine rR (bodyPost_ret (res_cell2 rfl rfl (lM 0 rlwd172 hv rfl rfl rfl rfl)) rfl ?_)
 exact ⟨rfl, (hv.kp [] 0 2)⟩
open Classical in
noncomputable def lvMu (x : Value) (w : World) : Nat := match x with
 | .slice (some ⟨b, _, _⟩) (_ + 1) _ => if w.cell? ⟨b, 1, none⟩ = some (vI 0) then 2 else 1
 | _ => 0
open Classical in
theorem lvMu2 {b c : Nat} {w : World} (h : w.cell? ⟨b, 0 + 1, none⟩ = some (vI 0)) : lvMu (.slice (some ⟨b, 0, none⟩) 1 c) w = 2 := if_pos h
open Classical in
theorem lvMu1 {b c : Nat} {w : World} : 1 ≤ lvMu (.slice (some ⟨b, 0, none⟩) 1 c) w := by
 show 1 ≤ if _ then 2 else 1
 split <;> omega
open Classical in
theorem lvMu3 {b c : Nat} {w : World} (h : w.cell? ⟨b, 0 + 1, none⟩ = some (vI 1)) : lvMu (.slice (some ⟨b, 0, none⟩) 1 c) w < 2 := by
 show (if _ then 2 else 1) < 2
 rw [if_neg (by rw [Nat.zero_add] at h; rw [h]; simp)]; omega
theorem lvMu0 {a : Option Addr} {c : Nat} {w : World} : lvMu (.slice a 0 c) w = 0 := by cases a <;> rfl
theorem rlal38 : AL Tryz.prog 38 [vI 0, vS [], vI 0, vN] := fun w => by kernel_rfl
theorem rlcallable98 : Callable Tryz.prog 98 := cb Tryz.func98 (by kernel_rfl)
theorem rlfa38_3 : FA Tryz.prog 38 3 3 := fun w b o => by kernel_rfl
theorem rlmk174 : (Tryz.prog.info? 174).map (fun i => (i.zero, i.size, i.bytes)) = some (some (.agg #[vN, vI 0, vI 0, vN, vN]), 5, 88) := by kernel_rfl
theorem rlel175 : Elem Tryz.prog 175 174 (.agg #[vN, vI 0, vI 0, vN, vN]) 5 88 := elem_of Tryz.underlying175 rlmk174 (by rfl) (by decide)
theorem rles175 (w : World) : (sizeOf (Tryz.prog.elem 175)).run Tryz.prog w = .ok 5 w := by kernel_rfl
theorem rlwd174 : Wide Tryz.prog 174 5 := wide_of (fun w => by kernel_rfl) (by kernel_rfl)
theorem rlal174 : AL Tryz.prog 174 [vN, vI 0, vI 0, vN, vN] := fun w => by kernel_rfl
theorem rlsz174 : (Tryz.prog.info? 174).map (·.size) = some 5 := by kernel_rfl
theorem rlfa174_0 : FA Tryz.prog 174 0 0 := fun w b o => by kernel_rfl
theorem rles36 (w : World) : (sizeOf (Tryz.prog.elem 36)).run Tryz.prog w = .ok 4 w := by kernel_rfl
theorem rlfa174_1 : FA Tryz.prog 174 1 1 := fun w b o => by kernel_rfl
theorem rlcallable99 : Callable Tryz.prog 99 := cb Tryz.func99 (by kernel_rfl)
theorem respList (B : Base) (H : List Res) (w : World) (ra : Option Addr) (m rc : Nat) (xs : List Value) (r : Rp) (hok : SliceOk ra m rc) (hr : RdV B [] ra xs) (hin : ListIn B m xs r) (hm : m ≤ 1000000) (hv : Inv B H w) :
  Calls Tryz.prog 78 #[.slice ra m rc] w fun e w' => ∃ C v, B.Le C ∧ e = .returned (.agg (rpCells 5 [] 0 v).toArray) ∧ RpAt C r (rpCells 5 [] 0 v) ∧ Inv C H w' := by
 refine cW Tryz.func78 rfl Tryz.ntmps78 ?_
 simp only [al]
 refine sK fun _ k1 => rL (sl_alloc tV (wn rfl) rfl hv rlal38 (fun b2 w3 hv => ?_))
 refine uW k1 (sK fun _ k4 => ?_)
 refine rL (uM rfl ?_)
 refine xC rlcallable98 rfl ((cloneRps B _ _ ra m rc xs hok hin.len hin.one hm hr hv).mono ?_) rfl
 rintro e w5 ⟨oa, oc, rfl, hv⟩
 refine ⟨_, rfl, uG (.agg #[vI 5, vS [], vI 0, .slice oa m oc]) rfl (ex_buildN (vs := #[(0, vI 5), (3, .slice oa m oc)]) rfl (by simp only [List.map_toArray, List.map_cons, List.map_nil]; rfl) (by kernel_rfl)) ?_⟩
 refine sl_alloc tV (wn rfl) rfl hv rlal38 (fun b6 w7 hv => ?_)
 simp only [zP, po]
 refine xS 0 rfl hv rssz38 rfl (by exact ⟨rfl, rfl, rfl, rfl, trivial⟩) (fun w8 hv => ?_)
 simp only [zO, sp] at hv
 refine uW k4 (sK fun _ k9 => ?_)
 refine rL (uF (.pointer (some ⟨b6, 3, none⟩)) rfl (rlfa38_3 _ _ _) ?_)
 refine uL _ rfl (run_load1 rlna36 (hv.load 0 3 rfl rfl)) ?_
 refine uG (.agg #[.slice oa m oc, vI 0, vI 0, vN, vN]) rfl (ex_buildN (vs := #[(0, .slice oa m oc)]) rfl (by simp only [List.map_toArray, List.map_cons, List.map_nil]; rfl) (by kernel_rfl)) ?_
 refine sl_rowAgg (L := [.slice oa m oc, vI 0, vI 0, vN, vN]) tV (wn rfl) rfl rfl hv rlel175 rfl (by decide) (fun b10 w11 hv => ?_)
 refine uA rfl (uW k9 ?_)
 refine sK fun _ k12 => bB ?_
 gi_loopw [4] (fun x4 wr => ∃ (v0 : Option Addr) (vc : Nat), ((∃ (C : Base) (ls : List Leaf) (oa : Option Addr) (oc tb tc : Nat) (n1 n2 : Int) (va vb : Value), x4 = .slice (some ⟨tb, 0, none⟩) 1 tc ∧ B.Le C ∧ (ls.length ≤ 1000000 ∧ va.cells = #[va] ∧ va.oneCell' = true ∧ vb.cells = #[vb] ∧ vb.oneCell' = true) ∧ (∀ D, C.Le D → RowB D (.slice oa ls.length oc) ls.length (lvC ls none) → RpAt D r (rpCells 5 [] 0 (.slice v0 m vc))) ∧ Inv C (Res.row 174 5 (.slice (some ⟨tb, 0, none⟩) 1 tc) 1 [.slice oa ls.length oc, vI n1, vI n2, va, vb] :: Res.row 38 4 (.slice oa ls.length oc) ls.length (lvC ls none) :: Res.cell b6 [vI 5, vS [], vI 0, .slice v0 m vc] 38 :: Res.cell b2 [vI 0, vS [], vI 0, vN] 38 :: H) wr) ∨ (∃ (C : Base) (pre l : List Leaf) (x : Leaf) (la : Option Addr) (lc : Nat) (oa : Option Addr) (oc tb tc : Nat), x4 = .slice (some ⟨tb, 0, none⟩) 1 tc ∧ B.Le C ∧ (pre.length ≤ 1000000 ∧ l.length ≤ 1000000 ∧ SliceOk la l.length lc ∧ RdV C [] la (lvC l none)) ∧ (∀ D, C.Le D → ∀ u, RowB D u l.length (lvC l none) → RowB D (.slice oa (pre.length + 1) oc) (pre.length + 1) (lvC pre (some (x, u))) → RpAt D r (rpCells 5 [] 0 (.slice v0 m vc))) ∧ Inv C (Res.row 174 5 (.slice (some ⟨tb, 0, none⟩) 1 tc) 1 [.slice oa (pre.length + 1) oc, vI 0, vI 0, vN, vN] :: Res.row 38 4 (.slice oa (pre.length + 1) oc) (pre.length + 1) (lvC pre (some (x, .slice la l.length lc))) :: Res.cell b6 [vI 5, vS [], vI 0, .slice v0 m vc] 38 :: Res.cell b2 [vI 0, vS [], vI 0, vN] 38 :: H) wr) ∨ (∃ (C : Base) (ta : Option Addr) (tc : Nat), x4 = .slice ta 0 tc ∧ B.Le C ∧ RpAt C r (rpCells 5 [] 0 (.slice v0 m vc)) ∧ Inv C (Res.cell b6 [vI 5, vS [], vI 0, .slice v0 m vc] 38 :: Res.cell b2 [vI 0, vS [], vI 0, vN] 38 :: H) wr))) (fun x4 wr => lvMu x4 wr)
 case atStart => exact (by
   have hv := (((((hv.front 3 rfl).front 2 rfl).front 3 rfl).front 3 rfl)).cellRow (n := 1) (c := 1) (size := 5) rfl (by decide) (by decide)
   rcases hin with ⟨ls, rfl, rfl, rfl⟩ | ⟨pre, l, x, la, lc, rfl, rfl, hla, hrl, hml, rfl⟩
   ·refine ⟨oa, oc, .inl ⟨B, ls, oa, oc, _, _, 0, 0, _, _, rfl, Base.Le.refl _, ⟨hm, rfl, rfl, rfl, rfl⟩, fun D hD h => rlist_at (by rw [List.length_map]; exact h) (lvC_at0 ls), hv⟩⟩
   refine ⟨oa, oc, .inr (.inl ⟨B, pre, l, x, la, lc, oa, oc, _, _, rfl, Base.Le.refl _, ⟨by omega, hml, hla, hrl⟩, fun D hD u hu h => rlist_at (by rw [List.length_append, List.length_map]; exact h) (lvC_at1 hu), hv⟩)⟩)
 case round =>
  rcases hrel with ⟨v0, vc, ⟨C, ls, oa, oc, tb, tc, n1, n2, va, vb, rfl, hC, ⟨hls, h1a, h1b, h2a, h2b⟩, hfin, hv⟩ | ⟨C, pre, l, x, la, lc, oa, oc, tb, tc, rfl, hC, ⟨hpm, hlm, hla, hrl⟩, hfin, hv⟩ | ⟨C, ta, tc, rfl, hC, hat, hv⟩⟩
  ·have hmu := @lvMu1 tb tc wr
   refine sK fun _ k14 => sK fun _ k15 => rL (uG (.slice (some ⟨tb, 0, none⟩) 1 tc) rfl (ex_move rfl rfl) ?_)
   refine uG (vI 1) rfl (ex_len0 Tryz.underlying175 rfl rfl) ?_
   refine uG (.bool true) rfl (ex_gtr rfl rfl rfl (by decide)) (uW k15 ?_)
   refine cT rfl (kS ?_)
   refine tK k14 (bB ?_)
   refine sK fun _ k16 => rL (uG (.slice (some ⟨tb, 0, none⟩) 1 tc) rfl (ex_move rfl rfl) ?_)
   refine uG (.slice (some ⟨tb, 0, none⟩) 1 tc) rfl (ex_move rfl rfl) ?_
   refine uG (vI 1) rfl (ex_len0 Tryz.underlying175 rfl rfl) ?_
   refine uG (vI 0) rfl (ex_sub rfl rfl rfl (i64_in (by omega))) ?_
   refine uG (.pointer (some ⟨tb, 0 + 0 * 5, none⟩)) rfl (ex_index rfl rfl rfl (run_idx (k := 0) Tryz.underlying175 rles175 (by omega))) ?_
   refine uL (.agg #[.slice oa ls.length oc, vI n1, vI n2, va, vb]) rfl (run_loadR (cs := [.slice oa ls.length oc, vI n1, vI n2, va, vb]) rlwd174 (row_loads (hv.get 0 rfl) (k := 0) (by omega) (fun j hj => (by rw [Nat.zero_add])))) ?_
   refine sl_alloc tV (wn rfl) rfl hv rlal174 (fun b17 w18 hv => ?_)
   simp only [zP, po]
   refine xS 0 rfl hv rlsz174 rfl (by exact ⟨rfl, rfl, rfl, h1b, h2b, trivial⟩) (fun w19 hv => ?_)
   simp only [zO, sp] at hv
   refine uW k16 (sK fun _ k20 => ?_)
   refine rL (uG (.slice (some ⟨tb, 0, none⟩) 1 tc) rfl (ex_move rfl rfl) ?_)
   refine uG (.slice (some ⟨tb, 0, none⟩) 1 tc) rfl (ex_move rfl rfl) ?_
   refine uG (vI 1) rfl (ex_len0 Tryz.underlying175 rfl rfl) ?_
   refine uG (vI 0) rfl (ex_sub rfl rfl rfl (i64_in (by omega))) ?_
   refine uG (.slice (some ⟨tb, 0, none⟩) 0 tc) rfl (ex_slice (hi' := some (vI 0)) rfl rfl rfl (congrArg some rfl) rfl (run_hi Tryz.underlying175 rles175 (Nat.zero_le _))) (uA rfl ?_)
   refine uW k20 (sK fun _ k21 => ?_)
   replace hv := hv.front 1 rfl
   simp only [eS, eZ] at hv
   replace hv := hv.rowLess (m := 0) (Nat.zero_le _)
   rw [Nat.zero_mul, List.take_zero] at hv
   refine rL (uF (vP b17) rfl (rlfa174_0 _ _ _) ?_)
   refine uL _ rfl (run_load1 rlna36 (hv.load 1 0 rfl rfl)) ?_
   refine uG (vI (ls.length : Int)) rfl (ex_len0 Tryz.underlying36 rfl rfl) (uM rfl ?_)
   refine uW k21 (bB ?_)
   gi_loopw [34, 4] (fun x34 x4 wr => ∃ (i : Nat), x34 = vI i ∧ x4 = .slice (some ⟨tb, 0, none⟩) 0 tc ∧ i ≤ ls.length ∧ Inv C (Res.row 174 5 (.slice (some ⟨tb, 0, none⟩) 0 tc) 0 ([] : List Value) :: Res.row 38 4 (.slice oa ls.length oc) ls.length (lvC ls none) :: Res.cell b17 [.slice oa ls.length oc, vI n1, vI n2, va, vb] 174 :: Res.cell b6 [vI 5, vS [], vI 0, .slice v0 m vc] 38 :: Res.cell b2 [vI 0, vS [], vI 0, vN] 38 :: H) wr) (fun x34 x4 _ => ls.length - (intOf x34).toNat)
   case atStart => exact ⟨0, rfl, rfl, Nat.zero_le _, (((((hv.front 4 rfl).front 4 rfl).front 3 rfl).front 4 rfl).front 4 rfl)⟩
   case round =>
    obtain ⟨i, rfl, rfl, hi, hv⟩ := hrel
    refine sK fun _ k23 => rL ?_
    by_cases hb24 : (i : Int) < (ls.length : Int)
    ·refine uG (.bool true) rfl (ex_lss rfl rfl rfl (qT hb24)) (uW k23 ?_)
     refine sK fun _ k25 => cT rfl (kS ?_)
     refine tK k25 (sK fun _ k26 => ?_)
     refine bB (sK fun _ k27 => ?_)
     obtain ⟨q, hq⟩ : ∃ q, ls[i]? = some q := ⟨_, List.getElem?_eq_getElem (by omega)⟩
     have hv8 := hv
     clear hv
     obtain ⟨ob, h9⟩ := row_some (hv8.get 1 rfl) (by omega)
     subst h9
     have hv := hv8
     clear hv8
     refine rL (uM rfl ?_)
     refine uG (.pointer (some ⟨ob, 0 + i * 4, none⟩)) rfl (ex_index rfl rfl rfl (run_idx (k := i) Tryz.underlying36 rles36 (by omega))) ?_
     refine uL (.agg #[vI q.k, vS q.s, vI q.n, vN]) rfl (run_loadR (cs := [vI q.k, vS q.s, vI q.n, vN]) rswd38 (row_loads (hv.get 1 rfl) (k := i * 4) (Nat.zero_add _) (fun j hj => (lvC_pre hq hj).symm))) ?_
     refine sl_alloc tV (wn rfl) rfl hv rlal38 (fun b28 w29 hv => ?_)
     refine uA rfl ?_
     refine xS 0 rfl hv rssz38 rfl (by exact ⟨rfl, rfl, rfl, rfl, trivial⟩) (fun w30 hv => ?_)
     simp only [zO, sp] at hv
     refine uW k27 (sK fun _ k31 => ?_)
     refine rL (uF (vP b17) rfl (rlfa174_0 _ _ _) ?_)
     refine uL _ rfl (run_load1 rlna36 (hv.load 3 0 rfl rfl)) (uM rfl ?_)
     refine uG (.pointer (some ⟨ob, 0 + i * 4, none⟩)) rfl (ex_index rfl rfl rfl (run_idx (k := i) Tryz.underlying36 rles36 (by omega))) ?_
     refine uF (.pointer (some ⟨ob, 0 + i * 4 + 3, none⟩)) rfl (rlfa38_3 _ _ _) ?_
     replace hv := hv.front 2 rfl
     simp only [eS, eZ] at hv
     refine sl_storeRow (v := vN) tV (wn rfl) rfl rfl rfl hv rlsz36 (by rw [lvC_len0]; omega) rfl rfl (fun w32 hv => ?_)
     rw [show 0 + i * 4 + 3 = i * 4 + 3 by omega, lvC_set hq] at hv
     refine uW k31 (sK fun _ k33 => ?_)
     refine rL (uF (.pointer (some ⟨b17, 1, none⟩)) rfl (rlfa174_1 _ _ _) ?_)
     refine uL (.agg #[vI n1, vI n2, va, vb]) rfl (lM 3 rlwd172 hv rfl rfl rfl rfl) ?_
     refine uF (.pointer (some ⟨b28, 3, none⟩)) rfl (rlfa38_3 _ _ _) ?_
     refine uL _ rfl (run_load1 rlna36 (hv.load 1 3 rfl rfl)) ?_
     refine uF (.pointer (some ⟨b28, 3, none⟩)) rfl (rlfa38_3 _ _ _) ?_
     refine uL _ rfl (run_load1 rlna36 (hv.load 1 3 rfl rfl)) ?_
     refine xC rlcallable99 rfl ((trailLeaf C _ _ n1 n2 va vb h1a h1b h2a h2b none 0 hv).mono ?_) rfl
     rintro e w34 ⟨rfl, hv⟩
     refine ⟨_, rfl, uM rfl ?_⟩
     refine uE rfl (uE rfl ?_)
     refine sl_alloc tV (wn rfl) rfl hv rlal172 (fun b35 w36 hv => ?_)
     simp only [zP, po]
     refine xS 0 rfl hv rlsz172 rfl (by exact ⟨rfl, rfl, h1b, h2b, trivial⟩) (fun w37 hv => ?_)
     simp only [zO, sp] at hv
     refine uA rfl (uW k33 ?_)
     refine sK fun _ k38 => rL (uM rfl ?_)
     refine uW k38 (cF rfl ?_)
     refine kS (bN ?_)
     refine tK k26 (rL ?_)
     refine uG (vI ((i + 1 : Nat) : Int)) rfl (ex_add rfl rfl rfl (by rw [i64_in (by omega)]; omega)) (uM rfl ?_)
     refine uZ (then_normal ?_)
     go_roundw
     case rel => exact ⟨i + 1, rfl, rfl, by omega, (hv.kp [6, 6, 6, 4, 6] 5 2)⟩
     case measure => show ls.length - (((i + 1 : Nat) : Int)).toNat < ls.length - ((i : Int)).toNat; omega
    refine uG (.bool false) rfl (ex_lss rfl rfl rfl (qF hb24)) (uW k23 ?_)
    refine sK fun _ k39 => cF rfl (xE ?_)
    refine tX (tX ?_)
    refine bH (bN ?_)
    refine then_normal ?_
    go_roundw
    case rel => (obtain ⟨D, hD, hv, hro, hoko, -⟩ := ((hv.kp [4, 4, 3] 3 2)).rowBy; exact ⟨v0, vc, .inr (.inr ⟨D, _, _, rfl, hC.trans hD, hfin D hD ⟨oa, oc, rfl, hoko, hro⟩, hv⟩)⟩)
    case measure => (rw [lvMu0]; omega)
  ·have hmu : lvMu (.slice (some ⟨tb, 0, none⟩) 1 tc) wr = 2 := lvMu2 (row_load (hv.get 0 rfl) rfl)
   refine sK fun _ k40 => sK fun _ k41 => rL (uG (.slice (some ⟨tb, 0, none⟩) 1 tc) rfl (ex_move rfl rfl) ?_)
   refine uG (vI 1) rfl (ex_len0 Tryz.underlying175 rfl rfl) ?_
   refine uG (.bool true) rfl (ex_gtr rfl rfl rfl (by decide)) (uW k41 ?_)
   refine cT rfl (kS ?_)
   refine tK k40 (bB ?_)
   refine sK fun _ k42 => rL (uG (.slice (some ⟨tb, 0, none⟩) 1 tc) rfl (ex_move rfl rfl) ?_)
   refine uG (.slice (some ⟨tb, 0, none⟩) 1 tc) rfl (ex_move rfl rfl) ?_
   refine uG (vI 1) rfl (ex_len0 Tryz.underlying175 rfl rfl) ?_
   refine uG (vI 0) rfl (ex_sub rfl rfl rfl (i64_in (by omega))) ?_
   refine uG (.pointer (some ⟨tb, 0 + 0 * 5, none⟩)) rfl (ex_index rfl rfl rfl (run_idx (k := 0) Tryz.underlying175 rles175 (by omega))) ?_
   refine uL (.agg #[.slice oa (pre.length + 1) oc, vI 0, vI 0, vN, vN]) rfl (run_loadR (cs := [.slice oa (pre.length + 1) oc, vI 0, vI 0, vN, vN]) rlwd174 (row_loads (hv.get 0 rfl) (k := 0) (by omega) (fun j hj => (by rw [Nat.zero_add])))) ?_
   refine sl_alloc tV (wn rfl) rfl hv rlal174 (fun b43 w44 hv => ?_)
   simp only [zP, po]
   refine xS 0 rfl hv rlsz174 rfl (by exact ⟨rfl, rfl, rfl, rfl, rfl, trivial⟩) (fun w45 hv => ?_)
   simp only [zO, sp] at hv
   refine uW k42 (sK fun _ k46 => ?_)
   refine rL (uG (.slice (some ⟨tb, 0, none⟩) 1 tc) rfl (ex_move rfl rfl) ?_)
   refine uG (.slice (some ⟨tb, 0, none⟩) 1 tc) rfl (ex_move rfl rfl) ?_
   refine uG (vI 1) rfl (ex_len0 Tryz.underlying175 rfl rfl) ?_
   refine uG (vI 0) rfl (ex_sub rfl rfl rfl (i64_in (by omega))) ?_
   refine uG (.slice (some ⟨tb, 0, none⟩) 0 tc) rfl (ex_slice (hi' := some (vI 0)) rfl rfl rfl (congrArg some rfl) rfl (run_hi Tryz.underlying175 rles175 (Nat.zero_le _))) (uA rfl ?_)
   refine uW k46 (sK fun _ k47 => ?_)
   replace hv := hv.front 1 rfl
   simp only [eS, eZ] at hv
   replace hv := hv.rowLess (m := 0) (Nat.zero_le _)
   rw [Nat.zero_mul, List.take_zero] at hv
   refine rL (uF (vP b43) rfl (rlfa174_0 _ _ _) ?_)
   refine uL _ rfl (run_load1 rlna36 (hv.load 1 0 rfl rfl)) ?_
   refine uG (vI ((pre.length + 1) : Int)) rfl (ex_len0 Tryz.underlying36 rfl rfl) (uM rfl ?_)
   refine uW k47 (bB ?_)
   gi_loopw [34, 4] (fun x34 x4 wr => (∃ (i : Nat), x34 = vI i ∧ x4 = .slice (some ⟨tb, 0, none⟩) 0 tc ∧ i ≤ pre.length ∧ Inv C (Res.row 174 5 (.slice (some ⟨tb, 0, none⟩) 0 tc) 0 ([] : List Value) :: Res.row 38 4 (.slice oa (pre.length + 1) oc) (pre.length + 1) (lvC pre (some (x, .slice la l.length lc))) :: Res.cell b43 [.slice oa (pre.length + 1) oc, vI 0, vI 0, vN, vN] 174 :: Res.cell b6 [vI 5, vS [], vI 0, .slice v0 m vc] 38 :: Res.cell b2 [vI 0, vS [], vI 0, vN] 38 :: H) wr) ∨ (x34 = vI ((pre.length + 1 : Nat) : Int) ∧ x4 = .slice (some ⟨tb, 0, none⟩) 0 tc ∧ l = [] ∧ Inv C (Res.row 174 5 (.slice (some ⟨tb, 0, none⟩) 0 tc) 0 ([] : List Value) :: Res.row 38 4 (.slice oa (pre.length + 1) oc) (pre.length + 1) (lvC pre (some (x, nilS))) :: Res.cell b43 [.slice oa (pre.length + 1) oc, vI 0, vI 0, vN, vN] 174 :: Res.cell b6 [vI 5, vS [], vI 0, .slice v0 m vc] 38 :: Res.cell b2 [vI 0, vS [], vI 0, vN] 38 :: H) wr) ∨ (∃ (ca : Option Addr) (cc tb2 tc2 : Nat), x34 = vI ((pre.length + 1 : Nat) : Int) ∧ x4 = .slice (some ⟨tb2, 0, none⟩) 1 tc2 ∧ 0 < l.length ∧ Inv C (Res.row 174 5 (.slice (some ⟨tb2, 0, none⟩) 1 tc2) 1 [.slice ca l.length cc, vI 1, vI 2, .slice la l.length lc, .slice la l.length lc] :: Res.row 38 4 (.slice ca l.length cc) l.length (lvC l none) :: Res.row 38 4 (.slice oa (pre.length + 1) oc) (pre.length + 1) (lvC pre (some (x, .slice ca l.length cc))) :: Res.cell b43 [.slice oa (pre.length + 1) oc, vI 0, vI 0, vN, vN] 174 :: Res.cell b6 [vI 5, vS [], vI 0, .slice v0 m vc] 38 :: Res.cell b2 [vI 0, vS [], vI 0, vN] 38 :: H) wr)) (fun x34 x4 _ => (pre.length + 1) - (intOf x34).toNat)
   case atStart => exact .inl ⟨0, rfl, rfl, Nat.zero_le _, (((((hv.front 4 rfl).front 4 rfl).front 3 rfl).front 4 rfl).front 4 rfl)⟩
   case round =>
    rcases hrel with ⟨i, rfl, rfl, hi, hv⟩ | ⟨rfl, rfl, hl0, hv⟩ | ⟨ca, cc, tb2, tc2, rfl, rfl, h0, hv⟩
    ·refine sK fun _ k49 => rL (uG (.bool true) rfl (ex_lss rfl rfl rfl (qT (by omega))) ?_)
     refine uW k49 (sK fun _ k50 => ?_)
     refine cT rfl (kS ?_)
     refine tK k50 (sK fun _ k51 => ?_)
     refine bB (sK fun _ k52 => ?_)
     rcases (show i < pre.length ∨ i = pre.length by omega) with hip | rfl
     ·obtain ⟨q, hq⟩ : ∃ q, pre[i]? = some q := ⟨_, List.getElem?_eq_getElem (by omega)⟩
      have hv8 := hv
      clear hv
      obtain ⟨ob, h9⟩ := row_some (hv8.get 1 rfl) (by omega)
      subst h9
      have hv := hv8
      clear hv8
      refine rL (uM rfl ?_)
      refine uG (.pointer (some ⟨ob, 0 + i * 4, none⟩)) rfl (ex_index rfl rfl rfl (run_idx (k := i) Tryz.underlying36 rles36 (by omega))) ?_
      refine uL (.agg #[vI q.k, vS q.s, vI q.n, vN]) rfl (run_loadR (cs := [vI q.k, vS q.s, vI q.n, vN]) rswd38 (row_loads (hv.get 1 rfl) (k := i * 4) (Nat.zero_add _) (fun j hj => (lvC_pre hq hj).symm))) ?_
      refine sl_alloc tV (wn rfl) rfl hv rlal38 (fun b53 w54 hv => ?_)
      refine uA rfl ?_
      refine xS 0 rfl hv rssz38 rfl (by exact ⟨rfl, rfl, rfl, rfl, trivial⟩) (fun w55 hv => ?_)
      simp only [zO, sp] at hv
      refine uW k52 (sK fun _ k56 => ?_)
      refine rL (uF (vP b43) rfl (rlfa174_0 _ _ _) ?_)
      refine uL _ rfl (run_load1 rlna36 (hv.load 3 0 rfl rfl)) (uM rfl ?_)
      refine uG (.pointer (some ⟨ob, 0 + i * 4, none⟩)) rfl (ex_index rfl rfl rfl (run_idx (k := i) Tryz.underlying36 rles36 (by omega))) ?_
      refine uF (.pointer (some ⟨ob, 0 + i * 4 + 3, none⟩)) rfl (rlfa38_3 _ _ _) ?_
      replace hv := hv.front 2 rfl
      simp only [eS, eZ] at hv
      refine sl_storeRow (v := vN) tV (wn rfl) rfl rfl rfl hv rlsz36 (by rw [lvC_len1]; omega) rfl rfl (fun w57 hv => ?_)
      rw [show 0 + i * 4 + 3 = i * 4 + 3 by omega, lvC_set hq] at hv
      refine uW k56 (sK fun _ k58 => ?_)
      refine rL (uF (.pointer (some ⟨b43, 1, none⟩)) rfl (rlfa174_1 _ _ _) ?_)
      refine uL (.agg #[vI 0, vI 0, vN, vN]) rfl (lM 3 rlwd172 hv rfl rfl rfl rfl) ?_
      refine uF (.pointer (some ⟨b53, 3, none⟩)) rfl (rlfa38_3 _ _ _) ?_
      refine uL _ rfl (run_load1 rlna36 (hv.load 1 3 rfl rfl)) ?_
      refine uF (.pointer (some ⟨b53, 3, none⟩)) rfl (rlfa38_3 _ _ _) ?_
      refine uL _ rfl (run_load1 rlna36 (hv.load 1 3 rfl rfl)) ?_
      refine xC rlcallable99 rfl ((trailLeaf C _ _ 0 0 (vN) (vN) rfl rfl rfl rfl none 0 hv).mono ?_) rfl
      rintro e w59 ⟨rfl, hv⟩
      refine ⟨_, rfl, uM rfl ?_⟩
      refine uE rfl (uE rfl ?_)
      refine sl_alloc tV (wn rfl) rfl hv rlal172 (fun b60 w61 hv => ?_)
      simp only [zP, po]
      refine xS 0 rfl hv rlsz172 rfl (by exact ⟨rfl, rfl, rfl, rfl, trivial⟩) (fun w62 hv => ?_)
      simp only [zO, sp] at hv
      refine uA rfl (uW k58 ?_)
      refine sK fun _ k63 => rL (uM rfl ?_)
      refine uW k63 (cF rfl ?_)
      refine kS (bN ?_)
      refine tK k51 (rL ?_)
      refine uG (vI ((i + 1 : Nat) : Int)) rfl (ex_add rfl rfl rfl (by rw [i64_in (by omega)]; omega)) (uM rfl ?_)
      refine uZ (then_normal ?_)
      go_roundw
      case rel => exact .inl ⟨i + 1, rfl, rfl, by omega, (hv.kp [6, 6, 6, 4, 6] 5 2)⟩
      case measure => show (pre.length + 1) - (((i + 1 : Nat) : Int)).toNat < (pre.length + 1) - ((i : Int)).toNat; omega
     rcases Nat.eq_zero_or_pos l.length with h0 | h0
     ·obtain rfl : l = [] := List.eq_nil_of_length_eq_zero h0
      have hv8 := hv
      clear hv
      obtain ⟨ob, h9⟩ := row_some (hv8.get 1 rfl) (by omega)
      subst h9
      have hv := hv8
      clear hv8
      refine rL (uM rfl ?_)
      refine uG (.pointer (some ⟨ob, 0 + pre.length * 4, none⟩)) rfl (ex_index rfl rfl rfl (run_idx (k := pre.length) Tryz.underlying36 rles36 (by omega))) ?_
      refine uL (.agg #[vI x.k, vS x.s, vI x.n, .slice la 0 lc]) rfl (run_loadR (cs := [vI x.k, vS x.s, vI x.n, .slice la 0 lc]) rswd38 (row_loads (hv.get 1 rfl) (k := pre.length * 4) (Nat.zero_add _) (fun j hj => lvC_last.symm))) ?_
      refine sl_alloc tV (wn rfl) rfl hv rlal38 (fun b64 w65 hv => ?_)
      refine uA rfl ?_
      refine xS 0 rfl hv rssz38 rfl (by exact ⟨rfl, rfl, rfl, rfl, trivial⟩) (fun w66 hv => ?_)
      simp only [zO, sp] at hv
      refine uW k52 (sK fun _ k67 => ?_)
      refine rL (uF (vP b43) rfl (rlfa174_0 _ _ _) ?_)
      refine uL _ rfl (run_load1 rlna36 (hv.load 3 0 rfl rfl)) (uM rfl ?_)
      refine uG (.pointer (some ⟨ob, 0 + pre.length * 4, none⟩)) rfl (ex_index rfl rfl rfl (run_idx (k := pre.length) Tryz.underlying36 rles36 (by omega))) ?_
      refine uF (.pointer (some ⟨ob, 0 + pre.length * 4 + 3, none⟩)) rfl (rlfa38_3 _ _ _) ?_
      replace hv := hv.front 2 rfl
      simp only [eS, eZ] at hv
      refine sl_storeRow (v := vN) tV (wn rfl) rfl rfl rfl hv rlsz36 (by rw [lvC_len1]; omega) rfl rfl (fun w68 hv => ?_)
      rw [show 0 + pre.length * 4 + 3 = pre.length * 4 + 3 by omega, lvC_setl] at hv
      refine uW k67 (sK fun _ k69 => ?_)
      refine rL (uF (.pointer (some ⟨b43, 1, none⟩)) rfl (rlfa174_1 _ _ _) ?_)
      refine uL (.agg #[vI 0, vI 0, vN, vN]) rfl (lM 3 rlwd172 hv rfl rfl rfl rfl) ?_
      refine uF (.pointer (some ⟨b64, 3, none⟩)) rfl (rlfa38_3 _ _ _) ?_
      refine uL _ rfl (run_load1 rlna36 (hv.load 1 3 rfl rfl)) ?_
      refine uF (.pointer (some ⟨b64, 3, none⟩)) rfl (rlfa38_3 _ _ _) ?_
      refine uL _ rfl (run_load1 rlna36 (hv.load 1 3 rfl rfl)) ?_
      refine xC rlcallable99 rfl ((trailLeaf C _ _ 0 0 (vN) (vN) rfl rfl rfl rfl la lc hv).mono ?_) rfl
      rintro e w70 ⟨rfl, hv⟩
      refine ⟨_, rfl, uM rfl ?_⟩
      refine uE rfl (uE rfl ?_)
      refine sl_alloc tV (wn rfl) rfl hv rlal172 (fun b71 w72 hv => ?_)
      simp only [zP, po]
      refine xS 0 rfl hv rlsz172 rfl (by exact ⟨rfl, rfl, rfl, rfl, trivial⟩) (fun w73 hv => ?_)
      simp only [zO, sp] at hv
      refine uA rfl (uW k69 ?_)
      refine sK fun _ k74 => rL (uM rfl ?_)
      refine uW k74 (cF rfl ?_)
      refine kS (bN ?_)
      refine tK k51 (rL ?_)
      refine uG (vI ((pre.length + 1 : Nat) : Int)) rfl (ex_add rfl rfl rfl (by rw [i64_in (by omega)]; omega)) (uM rfl ?_)
      refine uZ (then_normal ?_)
      go_roundw
      case rel => exact .inr (.inl ⟨rfl, rfl, (by first | rfl | trivial), (hv.kp [6, 6, 6, 4, 6] 5 2)⟩)
      case measure => show (pre.length + 1) - (((pre.length + 1 : Nat) : Int)).toNat < (pre.length + 1) - ((pre.length : Int)).toNat; omega
     have hv8 := hv
     clear hv
     obtain ⟨ob, h9⟩ := row_some (hv8.get 1 rfl) (by omega)
     subst h9
     have hv := hv8
     clear hv8
     refine rL (uM rfl ?_)
     refine uG (.pointer (some ⟨ob, 0 + pre.length * 4, none⟩)) rfl (ex_index rfl rfl rfl (run_idx (k := pre.length) Tryz.underlying36 rles36 (by omega))) ?_
     refine uL (.agg #[vI x.k, vS x.s, vI x.n, .slice la l.length lc]) rfl (run_loadR (cs := [vI x.k, vS x.s, vI x.n, .slice la l.length lc]) rswd38 (row_loads (hv.get 1 rfl) (k := pre.length * 4) (Nat.zero_add _) (fun j hj => lvC_last.symm))) ?_
     refine sl_alloc tV (wn rfl) rfl hv rlal38 (fun b75 w76 hv => ?_)
     refine uA rfl ?_
     refine xS 0 rfl hv rssz38 rfl (by exact ⟨rfl, rfl, rfl, rfl, trivial⟩) (fun w77 hv => ?_)
     simp only [zO, sp] at hv
     refine uW k52 (sK fun _ k78 => ?_)
     refine rL (uF (vP b43) rfl (rlfa174_0 _ _ _) ?_)
     refine uL _ rfl (run_load1 rlna36 (hv.load 3 0 rfl rfl)) (uM rfl ?_)
     refine uG (.pointer (some ⟨ob, 0 + pre.length * 4, none⟩)) rfl (ex_index rfl rfl rfl (run_idx (k := pre.length) Tryz.underlying36 rles36 (by omega))) ?_
     refine uF (.pointer (some ⟨ob, 0 + pre.length * 4 + 3, none⟩)) rfl (rlfa38_3 _ _ _) ?_
     replace hv := hv.front 2 rfl
     simp only [eS, eZ] at hv
     refine sl_storeRow (v := vN) tV (wn rfl) rfl rfl rfl hv rlsz36 (by rw [lvC_len1]; omega) rfl rfl (fun w79 hv => ?_)
     rw [show 0 + pre.length * 4 + 3 = pre.length * 4 + 3 by omega, lvC_setl] at hv
     refine uW k78 (sK fun _ k80 => ?_)
     refine rL (uF (.pointer (some ⟨b43, 1, none⟩)) rfl (rlfa174_1 _ _ _) ?_)
     refine uL (.agg #[vI 0, vI 0, vN, vN]) rfl (lM 3 rlwd172 hv rfl rfl rfl rfl) ?_
     refine uF (.pointer (some ⟨b75, 3, none⟩)) rfl (rlfa38_3 _ _ _) ?_
     refine uL _ rfl (run_load1 rlna36 (hv.load 1 3 rfl rfl)) ?_
     refine uF (.pointer (some ⟨b75, 3, none⟩)) rfl (rlfa38_3 _ _ _) ?_
     refine uL _ rfl (run_load1 rlna36 (hv.load 1 3 rfl rfl)) ?_
     refine xC rlcallable99 rfl ((trailNew C _ _ la l.length lc h0 hv).mono ?_) rfl
     rintro e w81 ⟨rfl, hv⟩
     refine ⟨_, rfl, uM rfl ?_⟩
     refine uE rfl (uE rfl ?_)
     refine sl_alloc tV (wn rfl) rfl hv rlal172 (fun b82 w83 hv => ?_)
     simp only [zP, po]
     refine xS 0 rfl hv rlsz172 rfl (by exact ⟨rfl, rfl, rfl, rfl, trivial⟩) (fun w84 hv => ?_)
     simp only [zO, sp] at hv
     refine uA rfl (uW k80 ?_)
     refine sK fun _ k85 => rL (uM rfl ?_)
     refine uW k85 (cT rfl ?_)
     refine sK fun _ k86 => rW mixed [5, 8] [0,1,2,3,4,5,6,7,8] 76 rfl (by kernel_rfl) hv ?_
     simp only [qm, opAt]
     refine dG (vP b43) rfl (ex_field rfl rfl (rlfa174_0 _ _ _)) (dF _ rfl (fun hv => ex_load rfl rfl (run_load1 rlna36 (hv.load 4 0 rfl rfl))) fun f87 hf87 => ?_)
     refine dM (vI (pre.length : Int)) rfl ?_
     simp only [zP, po]
     refine dG (.pointer (some ⟨b75, 3, none⟩)) rfl (ex_field rfl rfl (rlfa38_3 _ _ _)) (dL _ rfl (fun hv => ex_load rfl rfl (run_load1 rlna36 (hv.load 2 3 rfl rfl))) ?_)
     refine dS rfl fun w88 hv => mC rlcallable98 rfl ((cloneRps C _ _ la l.length lc (lvC l none) hla (lvC_len0 l) (lvC_one fun p h => by cases h) hlm hrl hv).mono ?_) rfl
     rintro e w89 ⟨ca, cc, rfl, hv⟩
     refine ⟨_, rfl, dV hv (fC (fun ww hv => hf87 ww (ex_load rfl rfl (run_load1 rlna36 (hv.load 5 0 rfl rfl)))) fN) ?_⟩
     simp only [zP, po]
     refine dG (.pointer (some ⟨ob, 0 + pre.length * 4, none⟩)) rfl (ex_index rfl rfl rfl (run_idx (k := pre.length) Tryz.underlying36 rles36 (by omega))) (dG (.pointer (some ⟨ob, 0 + pre.length * 4 + 3, none⟩)) rfl (ex_field rfl rfl (rlfa38_3 _ _ _)) ?_)
     refine dS rfl fun w90 hv => ?_
     replace hv := hv.front 2 rfl
     simp only [eS, eZ] at hv
     refine mem_storeRow (v := .slice ca l.length cc) rfl rfl rfl rfl hv rlsz36 (by rw [lvC_len1]; omega) rfl rfl (fun w91 hv => ?_)
     rw [show 0 + pre.length * 4 + 3 = pre.length * 4 + 3 by omega, lvC_setl] at hv
     refine dV hv (fK rfl fN) (dE fun w92 hv => ?_)
     simp only [zP, po]
     refine tK k86 (rW mixed [9, 10] [0,1,2,3,4,5,6,7,8,9,10,11] 76 rfl (by kernel_rfl) hv ?_)
     simp only [qm, opAt]
     refine dM (.slice (some ⟨tb, 0, none⟩) 0 tc) rfl (dG (vP b43) rfl (ex_field rfl rfl (rlfa174_0 _ _ _)) ?_)
     refine dL _ rfl (fun hv => ex_load rfl rfl (run_load1 rlna36 (hv.load 5 0 rfl rfl))) ?_
     simp only [zP, po]
     refine dM (vI (pre.length : Int)) rfl (dG (.pointer (some ⟨ob, 0 + pre.length * 4, none⟩)) rfl (ex_index rfl rfl rfl (run_idx (k := pre.length) Tryz.underlying36 rles36 (by omega))) ?_)
     refine dG (.pointer (some ⟨ob, 0 + pre.length * 4 + 3, none⟩)) rfl (ex_field rfl rfl (rlfa38_3 _ _ _)) ?_
     simp only [zP, po]
     refine dL (.slice ca l.length cc) rfl (fun hv => ex_load rfl rfl (run_load1 rlna36 (by rw [Nat.add_assoc]; exact row_load (hv.get 0 rfl) lvC_last))) (dL (.agg #[vI 1, vI 2, .slice la l.length lc, .slice la l.length lc]) rfl (fun hv => ex_load rfl rfl (lM 2 rlwd172 hv rfl rfl rfl rfl)) ?_)
     refine dG (.agg #[.slice ca l.length cc, vI 1, vI 2, .slice la l.length lc, .slice la l.length lc]) rfl (ex_buildN (vs := #[(0, .slice ca l.length cc), (1, .agg #[vI 1, vI 2, .slice la l.length lc, .slice la l.length lc])]) rfl (by simp only [List.map_toArray, List.map_cons, List.map_nil]; rfl) (by kernel_rfl)) ?_
     simp only [zP, po]
     refine dS rfl fun w93 hv => mem_rowAgg (L := [.slice ca l.length cc, vI 1, vI 2, .slice la l.length lc, .slice la l.length lc]) rfl rfl rfl hv rlel175 rfl (by decide) (fun b94 w95 hv => ?_)
     refine dW hv (dS rfl fun w96 hv => ?_)
     replace hv := hv.front 5 rfl
     simp only [eS, eZ] at hv
     refine mem_append (news := [.slice ca l.length cc, vI 1, vI 2, .slice la l.length lc, .slice la l.length lc]) rfl rfl rfl rfl rlel175 hv (ok_full (by omega)) rfl (rd_all (hv.get 1 rfl)) (by intro u hu; simp only [List.mem_cons, List.not_mem_nil, or_false] at hu; rcases hu with rfl | rfl | rfl | rfl | rfl <;> rfl) (by unfold maxLen; omega) (by omega) (fun rv97 w100 hv => ?_)
     obtain ⟨ra98, rc99, rfl⟩ := row_slice hv.head
     refine dW hv (dA (.slice ra98 (0 + 1) rc99) rfl ?_)
     refine dE fun w101 hv => ?_
     simp only [zP, po]
     refine bN (tK k51 ?_)
     refine rL (uG (vI ((pre.length + 1 : Nat) : Int)) rfl (ex_add rfl rfl rfl (by rw [i64_in (by omega)]; omega)) ?_)
     refine uM rfl (uZ ?_)
     refine then_normal ?_
     go_roundw
     case rel => (obtain ⟨tb9, h9⟩ := row_some (hv.get 0 rfl) (by omega); subst h9; exact .inr (.inr ⟨ca, cc, tb9, _, rfl, rfl, h0, (hv.kp [8, 8, 8, 5, 6, 5] 6 3)⟩))
     case measure => show (pre.length + 1) - (((pre.length + 1 : Nat) : Int)).toNat < (pre.length + 1) - ((pre.length : Int)).toNat; omega
    ·refine sK fun _ k102 => rL (uG (.bool false) rfl (ex_lss rfl rfl rfl (qF (by omega))) ?_)
     refine uW k102 (sK fun _ k103 => ?_)
     refine cF rfl (xE ?_)
     refine tX (tX ?_)
     refine bH (bN ?_)
     refine then_normal ?_
     go_roundw
     case rel => (obtain ⟨D, hD, hv, hro, hoko, -⟩ := ((hv.kp [4, 4, 3] 3 2)).rowBy; exact ⟨v0, vc, .inr (.inr ⟨D, _, _, rfl, hC.trans hD, hfin D hD nilS (by rw [hl0]; exact ⟨none, 0, rfl, ⟨Nat.le_refl _, Nat.zero_le _, fun _ => rfl⟩, rdV_nil⟩) ⟨oa, oc, rfl, hoko, hro⟩, hv⟩)⟩)
     case measure => (rw [lvMu0]; omega)
    refine sK fun _ k104 => rL (uG (.bool false) rfl (ex_lss rfl rfl rfl (qF (by omega))) ?_)
    refine uW k104 (sK fun _ k105 => ?_)
    refine cF rfl (xE ?_)
    refine tX (tX ?_)
    refine bH (bN ?_)
    refine then_normal ?_
    go_roundw
    case rel => (obtain ⟨D, hD, hv, hro, hoko, -⟩ := ((hv.kp [5, 5, 3, 3, 4] 5 1)).rowBy; exact ⟨v0, vc, .inl ⟨D, l, ca, cc, tb2, tc2, 1, 2, _, _, rfl, hC.trans hD, ⟨hlm, rfl, rfl, rfl, rfl⟩, fun E hE h9 => hfin E (hD.trans hE) (.slice ca l.length cc) h9 ⟨oa, oc, rfl, hoko, hro.more hE (fun _ h => h)⟩, hv⟩⟩)
    case measure => (rw [hmu]; exact lvMu3 (row_load (hv.get 0 rfl) rfl))
  refine sK fun _ k106 => sK fun _ k107 => rL (uM rfl ?_)
  refine uG (vI 0) rfl (ex_len0 Tryz.underlying175 rfl rfl) ?_
  refine uG (.bool false) rfl (ex_gtr rfl rfl rfl (by decide)) (uW k107 ?_)
  refine cF rfl (xE ?_)
  refine tX (tX ?_)
  refine bH (tK k12 ?_)
  refine sK fun _ k108 => rL (uL (.agg #[vI 5, vS [], vI 0, .slice v0 m vc]) rfl (lM 0 rswd38 hv rfl rfl rfl rfl) ?_)
  refine xS 1 rfl hv rssz38 rfl (by exact ⟨rfl, rfl, rfl, rfl, trivial⟩) (fun w109 hv => ?_)
  simp only [zS, zO, sp] at hv
  refine uW k108 (rR ?_)
  refine bC 1 rswd38 hv rfl rfl rfl rfl (⟨C, _, hC, rfl, hat, (hv.kp [] 0 2)⟩)
end Go.Proofs.YtmpackidbgfoiaaGreatDoor
namespace Go.Pm
abbrev W64 := List (BitVec 64)
def w0 : W64 := [0#64, 0#64, 0#64, 0#64]
def hasW (s : W64) (c : Nat) : Bool := decide (((s.getD (c / 64) 0#64) >>> (c % 64)) &&& 1#64 = 1#64)
structure Part where
 star : Bool
 ws : W64
section
variable (p : List UInt8)
section
variable {p} {ended : Bool} {i : Nat}
end
end
def MatchP : List Part → List UInt8 → Prop
 | [], s => s = []
 | p :: ps, s => if p.star = true then ∃ k, k ≤ s.length ∧ MatchP ps (s.drop k) else ∃ c t, s = c :: t ∧ hasW p.ws c.toNat = true ∧ MatchP ps t
section
variable {q : List Part} {s : List UInt8}
structure GInv (q : List Part) (s : List UInt8) (now i st fr : Nat) : Prop where
 n1 : st ≤ now
 n2 : now ≤ q.length
 n3 : i ≤ s.length
 n4 : 0 < st → fr + (now - st) = i
 n5 : 0 < st → ∀ j, j < now - st → ∃ x, q[st + j]? = some x ∧ x.star = false
 n6 : MatchP q s ↔ MatchP (q.drop now) (s.drop i) ∨ (0 < st ∧ ∃ k, fr < k ∧ k ≤ s.length ∧ MatchP (q.drop st) (s.drop k))
section
variable {now i st fr : Nat} {x : Part} {c : UInt8} (h : GInv q s now i st fr)
include h
end
end
end Go.Pm
namespace Go.Proofs.YtmpackidbgfoiaaGreatDoor
open Go.RowKit Go.Pm
theorem numP_rng {s : List UInt8} {n : Int} (h : NumP s n true) : -9223372036854775808 ≤ n ∧ n ≤ 9223372036854775807 := h.elim (fun h => ⟨h.2.1, h.2.2.1⟩) (fun h => absurd h.1 (by decide))
theorem valAt_open {C : Base} {v : Val} {p t z : Value} (h : ValAt C v p t z) : ∃ pa pc sa sc za zc, p = .slice pa v.pairs.length pc ∧ t = .slice sa v.texts.length sc ∧ z = .slice za v.zset.length zc ∧ SliceOk pa v.pairs.length pc ∧ RdV C [] pa (pairCells v.pairs) ∧ SliceOk sa v.texts.length sc ∧ RdV C [] sa (textCells v.texts) ∧ SliceOk za v.zset.length zc ∧ RdV C [] za (memCells v.zset) := by
 obtain ⟨⟨a1, c1, h1, h2, h3⟩, ⟨a2, c2, h4, h5, h6⟩, ⟨a3, c3, h7, h8, h9⟩, -⟩ := h
 exact ⟨a1, c1, a2, c2, a3, c3, h1, h4, h7, h2, h3, h5, h6, h8, h9⟩
theorem tx_drop (l : List (List UInt8)) (i : Nat) : (textCells l).drop i = textCells (l.drop i) := by simp [textCells]
section
variable {P : Program} {t : TypeId} {w : World}
end
open Go.Sort
structure RelVK (M : List (List UInt8 × Ver)) (K : List KeyR) : Prop where
 so : SortedT (K.map (·.name))
 of_ : ∀ x ∈ K, lookA M x.name = some ⟨0, false, x.exp, x.val⟩
 back : ∀ k y, lookA M k = some y → y.gone = false → ∃ x ∈ K, x.name = k
theorem RelVK.nil : RelVK [] [] := ⟨List.Pairwise.nil, fun x h => (by cases h), fun k y h => (by cases h)⟩
theorem sortedT_nodup {l : List (List UInt8)} (h : SortedT l) : l.Nodup := List.Pairwise.imp (fun hab e => lt_ne hab e) h
theorem alive_live (x : KeyR) (clk : Int) : aliveB ⟨0, false, x.exp, x.val⟩ clk = liveK clk x := by
 unfold aliveB liveK
 simp only [Bool.not_false, Bool.true_and, gt_iff_lt]
section
variable {M : List (List UInt8 × Ver)} {K : List KeyR} {clk : Int} {name : List UInt8}
theorem RelVK.nodup (h : RelVK M K) : (K.map (·.name)).Nodup := sortedT_nodup h.so
theorem getK_mem {x : KeyR} (h : getK K clk name = some x) : x ∈ K ∧ x.name = name ∧ liveK clk x = true := by
 unfold getK at h
 have h2 := List.find?_some h
 simp only [Bool.and_eq_true, decide_eq_true_eq] at h2
 exact ⟨List.mem_of_find?_eq_some h, h2.1, h2.2⟩
theorem RelVK.got (h : RelVK M K) {x : KeyR} (hg : getK K clk name = some x) : lookA M name = some ⟨0, false, x.exp, x.val⟩ ∧ aliveB ⟨0, false, x.exp, x.val⟩ clk = true := by
 obtain ⟨h1, rfl, h3⟩ := getK_mem hg
 exact ⟨h.of_ x h1, by rw [alive_live]; exact h3⟩
theorem RelVK.alive (h : RelVK M K) {y : Ver} (hl : lookA M name = some y) (ha : aliveB y clk = true) : ∃ x, getK K clk name = some x ∧ y = ⟨0, false, x.exp, x.val⟩ := by
 have hg : y.gone = false := by unfold aliveB at ha; cases hy : y.gone <;> simp [hy] at ha ⊢
 obtain ⟨x, hx, rfl⟩ := h.back name y hl hg
 have h2 := h.of_ x hx
 rw [hl] at h2
 cases h2
 obtain ⟨i, hi⟩ := List.mem_iff_getElem?.1 hx
 exact ⟨x, getK_at h.nodup hi (by rw [← alive_live]; exact ha), rfl⟩
theorem RelVK.dead (h : RelVK M K) (hg : getK K clk name = none) : DeadM M clk name := by
 intro y hy
 cases ha : aliveB y clk with
 | false => rfl
 | true =>
  obtain ⟨x, h2, -⟩ := h.alive hy ha
  rw [hg] at h2; cases h2
theorem RelVK.free (h : RelVK M K) (hd : DeadM M clk name) : getK K clk name = none := by
 cases hg : getK K clk name with
 | none => rfl
 | some x =>
  obtain ⟨h1, h2⟩ := h.got hg
  rw [hd _ h1] at h2; cases h2
theorem others_sorted (h : SortedT (K.map (·.name))) : SortedT ((others K name).map (·.name)) := by
 unfold SortedT others at *
 exact h.sublist (List.Sublist.map _ (List.filter_sublist))
theorem others_iff {x : KeyR} : x ∈ others K name ↔ x ∈ K ∧ x.name ≠ name := by
 unfold others; rw [List.mem_filter]; simp
theorem RelVK.del (h : RelVK M K) : RelVK (updA M name gver) (others K name) := by
 refine ⟨others_sorted h.so, fun x hx => ?_, fun k y hl hg => ?_⟩
 ·obtain ⟨h1, h2⟩ := others_iff.1 hx
  rw [look_upd, if_neg (fun e => h2 e.symm)]
  exact h.of_ x h1
 rw [look_upd] at hl
 split at hl
 ·cases hl; cases hg
 rename_i hne
 obtain ⟨x, hx, rfl⟩ := h.back k y hl hg
 exact ⟨x, others_iff.2 ⟨hx, fun e => hne e.symm⟩, rfl⟩
theorem RelVK.put (h : RelVK M K) {v : Val} {exp : Int} {K' : List KeyR} (hi : InsK (others K name) ⟨name, v, exp⟩ K') : RelVK (updA M name ⟨0, false, exp, v⟩) K' := by
 obtain ⟨j, hj, rfl, h1, h2⟩ := hi
 have hso := others_sorted (name := name) h.so
 have hmem : ∀ x, x ∈ (others K name).take j ++ (⟨name, v, exp⟩ : KeyR) :: (others K name).drop j ↔ x = ⟨name, v, exp⟩ ∨ x ∈ others K name := by
  intro x
  rw [List.mem_append, List.mem_cons]
  constructor
  ·rintro (hx | rfl | hx)
   ·exact .inr (List.mem_of_mem_take hx)
   ·exact .inl rfl
   exact .inr (List.mem_of_mem_drop hx)
  rintro (rfl | hx)
  ·exact .inr (.inl rfl)
  rw [← List.take_append_drop j (others K name), List.mem_append] at hx
  rcases hx with hx | hx
  ·exact .inl hx
  exact .inr (.inr hx)
 refine ⟨?_, fun x hx => ?_, fun k y hl hg => ?_⟩
 ·unfold SortedT at *
  rw [List.map_append, List.map_cons, List.map_take, List.map_drop]
  rw [List.pairwise_append, List.pairwise_cons]
  have hgt : ∀ k ∈ ((others K name).map (·.name)).drop j, Op.bytesLess name k = true := by
   intro k hk
   rw [← List.map_drop] at hk
   obtain ⟨x, hx, rfl⟩ := List.mem_map.1 hk
   have hne := (others_iff.1 (List.mem_of_mem_drop hx)).2
   have hnl : Op.bytesLess x.name name = false := by
    cases hd : (others K name).drop j with
    | nil => rw [hd] at hx; cases hx
    | cons y l =>
     have hy : (others K name)[j]? = some y := by rw [← List.head?_drop, hd]; rfl
     rw [hd] at hx
     rcases List.mem_cons.1 hx with rfl | hx
     ·exact h2 _ hy
     have hs2 : ((y :: l).map (·.name)).Pairwise (fun a b => Op.bytesLess a b = true) := by rw [← hd, List.map_drop]; exact hso.sublist (List.drop_sublist _ _)
     rw [List.map_cons, List.pairwise_cons] at hs2
     exact ge_trans (h2 _ hy) (hs2.1 _ (List.mem_map.2 ⟨x, hx, rfl⟩))
   cases hlt : Op.bytesLess name x.name with
   | true => rfl
   | false => exact absurd (lt_total _ _ hnl hlt) hne
  refine ⟨hso.sublist (List.take_sublist _ _), ⟨hgt, hso.sublist (List.drop_sublist _ _)⟩, fun a ha b hb => ?_⟩
  rw [← List.map_take] at ha
  obtain ⟨x, hx, rfl⟩ := List.mem_map.1 ha
  have hxn := h1 x hx
  rcases List.mem_cons.1 hb with rfl | hb
  ·exact hxn
  exact lt_trans _ _ _ hxn (hgt b hb)
 ·rw [look_upd]
  rcases (hmem x).1 hx with rfl | hx
  ·rw [if_pos rfl]
  obtain ⟨h3, h4⟩ := others_iff.1 hx
  rw [if_neg (fun e => h4 e.symm)]
  exact h.of_ x h3
 rw [look_upd] at hl
 split at hl
 ·rename_i e
  exact ⟨⟨name, v, exp⟩, (hmem _).2 (.inl rfl), e⟩
 rename_i hne
 obtain ⟨x, hx, rfl⟩ := h.back k y hl hg
 exact ⟨x, (hmem _).2 (.inr (others_iff.2 ⟨hx, fun e => hne e.symm⟩)), rfl⟩
theorem RelVK.names (h : RelVK M K) (hnd : (M.map (·.1)).Nodup) : namesT M clk = namesR K clk := by
 have hle : ∀ a b : List UInt8, leB a b = !Op.bytesLess b a := by
  intro a b
  rw [bytesLess_eq, leB, ← decide_not]
  exact decide_eq_decide.2 List.not_lt.symm
 refine sorted_ext ?_ ?_ fun k => ?_
 ·unfold namesT
  have hp : ((M.map (·.1)).mergeSort leB).Pairwise (fun a b => leB a b = true) := List.pairwise_mergeSort (fun a b c h1 h2 => by simp only [leB, decide_eq_true_eq] at *; exact List.le_trans h1 h2) (fun a b => by simp only [leB, Bool.or_eq_true, decide_eq_true_eq]; exact List.le_total a b) _
  have hn : ((M.map (·.1)).mergeSort leB).Nodup := ((List.mergeSort_perm _ _).nodup_iff).2 hnd
  refine List.Pairwise.filter _ ((hp.and hn).imp fun {a b} hab => ?_)
  obtain ⟨h1, h2⟩ := hab
  rw [hle] at h1
  cases h3 : Op.bytesLess a b with
  | true => rfl
  | false => exact absurd (lt_total _ _ h3 (by simpa using h1)) h2
 ·unfold namesR
  exact h.so.sublist (List.Sublist.map _ List.filter_sublist)
 unfold namesT namesR
 rw [List.mem_filter, List.mem_map]
 have hmk : k ∈ (M.map (·.1)).mergeSort leB ↔ lookA M k ≠ none := by
  simp only [List.mem_mergeSort, ne_eq, look_none, Classical.not_not]
 rw [hmk]
 constructor
 ·rintro ⟨h1, h2⟩
  cases hl : lookA M k with
  | none => exact absurd hl h1
  | some y =>
   unfold deadNow at h2
   rw [hl] at h2
   simp only [Bool.not_not] at h2
   obtain ⟨x, hx, -⟩ := h.alive hl h2
   obtain ⟨h3, h4, h5⟩ := getK_mem hx
   exact ⟨x, List.mem_filter.2 ⟨h3, h5⟩, h4⟩
 rintro ⟨x, hx, rfl⟩
 obtain ⟨h1, h2⟩ := List.mem_filter.1 hx
 have h3 := h.of_ x h1
 refine ⟨by rw [h3]; simp, ?_⟩
 unfold deadNow
 rw [h3]
 simp only [Bool.not_not]
 rw [alive_live]; exact h2
end
theorem s30callable41 : Callable Tryz.prog 41 := cb Tryz.func41 (by kernel_rfl)
theorem refSetRight (B : Base) (H : List Res) (w : World) (ad : Option Addr) (c : Nat) (l : List (List UInt8)) (hr : RdV B [] ad (textCells l)) (hm : l.length ≤ 1000000) (hv : Inv B H w) :
  Calls Tryz.prog 33 #[.slice ad l.length c] w fun e w' => ∃ b, e = .returned (.bool b) ∧ (b = true ↔ SetOk l) ∧ Inv B H w' := by
 refine cW Tryz.func33 rfl Tryz.ntmps33 ?_
 simp only [al]
 refine sK fun _ k1 => rL (uA rfl ?_)
 refine uW k1 (sK fun _ k2 => ?_)
 refine sK fun _ k3 => rL (uA rfl ?_)
 refine uW k3 (bB ?_)
 gi_loopw [3] (fun x3 wr => ∃ (i : Nat), x3 = vI i ∧ i ≤ l.length ∧ (∀ k, k < i → SetAt l k) ∧ Inv B H wr) (fun x3 _ => l.length - (intOf x3).toNat)
 case atStart => exact ⟨0, rfl, Nat.zero_le _, fun k h => by omega, hv⟩
 case round =>
  obtain ⟨i, rfl, hi, hall, hv⟩ := hrel
  refine sK fun _ k5 => sK fun _ k6 => rL (uM rfl ?_)
  refine uM rfl ?_
  refine uG (vI (l.length : Int)) rfl (ex_len0 Tryz.underlying23 rfl rfl) ?_
  by_cases hb7 : (i : Int) < (l.length : Int)
  ·refine uG (.bool true) rfl (ex_lss rfl rfl rfl (qT hb7)) (uW k6 ?_)
   refine cT rfl (kS ?_)
   refine tK k5 (sK fun _ k8 => ?_)
   refine bB (sK fun _ k9 => ?_)
   obtain ⟨x, hx⟩ : ∃ x, l[i]? = some x := ⟨_, List.getElem?_eq_getElem (show i < l.length by omega)⟩
   obtain ⟨bb, bo, had, hrdx⟩ := text_reads hr hx
   subst had
   refine rW mixed [19] [0,1,2,3,4,5,6,7,8,9,10,11,12,13,14,15,16,17,18,19,20,21,22] 36 rfl (by kernel_rfl) hv ?_
   simp only [qm, opAt]
   refine dM (.slice (some ⟨bb, bo, none⟩) l.length c) rfl (dM (vI i) rfl ?_)
   refine dG (.pointer (some ⟨bb, bo + i, none⟩)) rfl (ex_index rfl rfl rfl (run_idx1 (k := i) Tryz.underlying23 s9es23 (by omega))) ?_
   simp only [zP, po]
   refine dL _ rfl (fun hv => ex_load rfl rfl (run_load1 s9na9 (hrdx _ _ _ (Base.Le.refl _) no_res hv 0 _ rfl))) (dG (vI (x.length : Int)) rfl (ex_lenStr Tryz.underlying9 rfl rfl) ?_)
   by_cases hb10 : (x.length : Int) > 4096
   ·refine dG (.bool true) rfl (ex_gtr rfl rfl rfl (qT hb10)) ?_
    simp only [zP, po]
    refine dM (.bool true) rfl (dP rfl ?_)
    refine dP rfl ?_
    simp only [zP, po]
    refine dP rfl (dP rfl ?_)
    refine dP rfl ?_
    simp only [zP, po]
    refine dP rfl (dP rfl ?_)
    refine dP rfl ?_
    simp only [zP, po]
    refine dP rfl (dP rfl ?_)
    refine dP rfl ?_
    simp only [zP, po]
    refine dP rfl (dP rfl ?_)
    refine dP rfl ?_
    simp only [zP, po]
    refine dP rfl (dK true (.bool true) rfl ?_)
    refine dE fun w11 hv => ?_
    simp only [zP, po]
    refine tK k9 (cT rfl ?_)
    refine sK fun _ k12 => rL (uA rfl ?_)
    refine uW k12 (rR ?_)
    refine bZ (tR ?_)
    refine tR (bZ ?_)
    refine tR (bR rfl rfl ?_)
    exact ⟨false, rfl, ⟨fun h => (by cases h), fun h => by have := (h.2 i x hx).1; omega⟩, hv⟩
   refine dG (.bool false) rfl (ex_gtr rfl rfl rfl (qF hb10)) ?_
   simp only [zP, po]
   refine dM (.bool false) rfl (dM (vI i) rfl ?_)
   by_cases hb13 : (i : Int) > 0
   ·obtain ⟨j, hj⟩ : ∃ j : Nat, i = j + 1 := ⟨i - 1, by omega⟩
    obtain ⟨y, hy⟩ : ∃ x, l[j]? = some x := ⟨_, List.getElem?_eq_getElem (show j < l.length by omega)⟩
    obtain ⟨b9, o9, had9, hrdy⟩ := text_reads hr hy
    cases had9
    have hyl := (hall j (by omega) y hy).1
    skip
    refine dG (.bool true) rfl (ex_gtr rfl rfl rfl (qT hb13)) ?_
    simp only [zP, po]
    refine dM (.bool true) rfl (dM (.slice (some ⟨bb, bo, none⟩) l.length c) rfl ?_)
    refine dM (vI i) rfl ?_
    simp only [zP, po]
    refine dG (vI j) rfl (ex_sub rfl rfl rfl (by rw [i64_in (by omega)]; omega)) (dG (.pointer (some ⟨bb, bo + j, none⟩)) rfl (ex_index rfl rfl rfl (run_idx1 (k := j) Tryz.underlying23 s9es23 (by omega))) ?_)
    refine dL _ rfl (fun hv => ex_load rfl rfl (run_load1 s9na9 (hrdy _ _ _ (Base.Le.refl _) no_res hv 0 _ rfl))) ?_
    simp only [zP, po]
    refine dM (.slice (some ⟨bb, bo, none⟩) l.length c) rfl (dM (vI i) rfl ?_)
    refine dG (.pointer (some ⟨bb, bo + i, none⟩)) rfl (ex_index rfl rfl rfl (run_idx1 (k := i) Tryz.underlying23 s9es23 (by omega))) ?_
    simp only [zP, po]
    refine dL _ rfl (fun hv => ex_load rfl rfl (run_load1 s9na9 (hrdx _ _ _ (Base.Le.refl _) no_res hv 0 _ rfl))) (dS rfl fun w14 hv => ?_)
    by_cases hb15 : Op.bytesLess y x = true
    ·refine mC s30callable41 rfl ((calls_bool (refLess B _ _ y x (by omega) hv) hb15).mono ?_) rfl
     rintro e w16 ⟨rfl, hv⟩
     refine ⟨_, rfl, dW hv ?_⟩
     refine dG (.bool false) rfl (ex_not rfl rfl rfl) ?_
     simp only [zP, po]
     refine dK true (.bool false) rfl (dK false (.bool false) rfl ?_)
     refine dE fun w17 hv => ?_
     simp only [zP, po]
     refine tK k9 (cF rfl ?_)
     refine kS (bN ?_)
     refine tK k8 (rL ?_)
     refine uM rfl ?_
     refine uG (vI ((i + 1 : Nat) : Int)) rfl (ex_add rfl rfl rfl (by rw [i64_in (by omega)]; omega)) (uA rfl ?_)
     refine uZ (then_normal ?_)
     go_roundw
     case rel => exact ⟨i + 1, rfl, by omega, fun k hk => (by
        rcases Nat.lt_or_ge k i with h | h
        ·exact hall k h
        obtain rfl : k = i := by omega
        intro x' hx'
        rw [hx] at hx'; cases hx'
        refine ⟨by omega, fun j' y' hj' hy' => ?_⟩
        rw [show j' = j by omega, hy] at hy'; cases hy'; exact hb15), hv⟩
     case measure => show l.length - (((i + 1 : Nat) : Int)).toNat < l.length - ((i : Int)).toNat; omega
    refine mC s30callable41 rfl ((calls_bool (refLess B _ _ y x (by omega) hv) (by simpa using hb15)).mono ?_) rfl
    rintro e w18 ⟨rfl, hv⟩
    refine ⟨_, rfl, dW hv ?_⟩
    refine dG (.bool true) rfl (ex_not rfl rfl rfl) ?_
    simp only [zP, po]
    refine dK true (.bool true) rfl (dK false (.bool true) rfl ?_)
    refine dE fun w19 hv => ?_
    simp only [zP, po]
    refine tK k9 (cT rfl ?_)
    refine sK fun _ k20 => rL (uA rfl ?_)
    refine uW k20 (rR ?_)
    refine bZ (tR ?_)
    refine tR (bZ ?_)
    refine tR (bR rfl rfl ?_)
    exact ⟨false, rfl, ⟨fun h => (by cases h), fun h => absurd ((h.2 i x hx).2 j y (by omega) hy) hb15⟩, hv⟩
   refine dG (.bool false) rfl (ex_gtr rfl rfl rfl (qF hb13)) ?_
   simp only [zP, po]
   refine dM (.bool false) rfl (dP rfl ?_)
   refine dP rfl ?_
   simp only [zP, po]
   refine dP rfl (dP rfl ?_)
   refine dP rfl ?_
   simp only [zP, po]
   refine dP rfl (dP rfl ?_)
   refine dP rfl ?_
   simp only [zP, po]
   refine dP rfl (dP rfl ?_)
   refine dP rfl ?_
   simp only [zP, po]
   refine dK false (.bool false) rfl (dK false (.bool false) rfl ?_)
   refine dE fun w21 hv => ?_
   simp only [zP, po]
   refine tK k9 (cF rfl ?_)
   refine kS (bN ?_)
   refine tK k8 (rL ?_)
   refine uM rfl ?_
   refine uG (vI ((i + 1 : Nat) : Int)) rfl (ex_add rfl rfl rfl (by rw [i64_in (by omega)]; omega)) (uA rfl ?_)
   refine uZ (then_normal ?_)
   go_roundw
   case rel => exact ⟨i + 1, rfl, by omega, fun k hk => (by
      rcases Nat.lt_or_ge k i with h | h
      ·exact hall k h
      obtain rfl : k = i := by omega
      intro x' hx'
      rw [hx] at hx'; cases hx'
      refine ⟨by omega, fun j' y' hj' hy' => ?_⟩
      omega), hv⟩
   case measure => show l.length - (((i + 1 : Nat) : Int)).toNat < l.length - ((i : Int)).toNat; omega
  refine uG (.bool false) rfl (ex_lss rfl rfl rfl (qF hb7)) (uW k6 ?_)
  refine cF rfl (xE ?_)
  refine tX (tX ?_)
  refine bH (tK k2 ?_)
  refine sK fun _ k22 => rL (uM rfl ?_)
  refine uG (vI (l.length : Int)) rfl (ex_len0 Tryz.underlying23 rfl rfl) ?_
  refine uG (.bool (decide ((l.length : Int) ≤ 512))) rfl (ex_leq rfl rfl rfl rfl) (uA rfl ?_)
  refine uW k22 (rR ?_)
  refine bR rfl rfl ?_
  obtain rfl : i = l.length := by omega
  exact ⟨_, rfl, ⟨fun h9 => ⟨by first | omega | (have h8 : (l.length : Int) ≤ 512 := (by simpa using h9); omega), fun k x hx => hall k (List.getElem?_eq_some_iff.1 hx).1 x hx⟩, fun h9 => by have h8 := h9.1; first | rfl | (rw [decide_eq_true_iff]; omega)⟩, hv⟩
theorem refHashRight (B : Base) (H : List Res) (w : World) (ad : Option Addr) (c : Nat) (l : List (List UInt8 × List UInt8)) (hr : RdV B [] ad (pairCells l)) (hm : l.length ≤ 1000000) (hv : Inv B H w) :
  Calls Tryz.prog 32 #[.slice ad l.length c] w fun e w' => ∃ b, e = .returned (.bool b) ∧ (b = true ↔ HashOk l) ∧ Inv B H w' := by
 refine cW Tryz.func32 rfl Tryz.ntmps32 ?_
 simp only [al]
 refine sK fun _ k1 => rL (uA rfl ?_)
 refine uW k1 (sK fun _ k2 => ?_)
 refine sK fun _ k3 => rL (uM rfl ?_)
 refine uG (vI (l.length : Int)) rfl (ex_len0 Tryz.underlying57 rfl rfl) ?_
 by_cases hb4 : (l.length : Int) > 512
 ·refine uG (.bool true) rfl (ex_gtr rfl rfl rfl (qT hb4)) (uW k3 ?_)
  refine cT rfl (sK fun _ k5 => ?_)
  refine rL (uA rfl ?_)
  refine uW k5 (rR ?_)
  refine tR (bR rfl rfl ?_)
  exact ⟨false, rfl, ⟨fun h => (by cases h), fun h => by have := h.1; omega⟩, hv⟩
 refine uG (.bool false) rfl (ex_gtr rfl rfl rfl (qF hb4)) (uW k3 ?_)
 refine cF rfl (kS ?_)
 refine tK k2 (sK fun _ k6 => ?_)
 refine sK fun _ k7 => rL (uA rfl ?_)
 refine uW k7 (bB ?_)
 gi_loopw [3] (fun x3 wr => ∃ (i : Nat), x3 = vI i ∧ i ≤ l.length ∧ (∀ k, k < i → HashAt l k) ∧ Inv B H wr) (fun x3 _ => l.length - (intOf x3).toNat)
 case atStart => exact ⟨0, rfl, Nat.zero_le _, fun k h => by omega, hv⟩
 case round =>
  obtain ⟨i, rfl, hi, hall, hv⟩ := hrel
  refine sK fun _ k9 => sK fun _ k10 => rL (uM rfl ?_)
  refine uM rfl ?_
  refine uG (vI (l.length : Int)) rfl (ex_len0 Tryz.underlying57 rfl rfl) ?_
  by_cases hb11 : (i : Int) < (l.length : Int)
  ·refine uG (.bool true) rfl (ex_lss rfl rfl rfl (qT hb11)) (uW k10 ?_)
   refine cT rfl (kS ?_)
   refine tK k9 (sK fun _ k12 => ?_)
   refine bB (sK fun _ k13 => ?_)
   obtain ⟨x, hx⟩ : ∃ x, l[i]? = some x := ⟨_, List.getElem?_eq_getElem (show i < l.length by omega)⟩
   obtain ⟨bb, bo, had, hrdx⟩ := pair_reads hr hx
   subst had
   refine rW mixed [31] [0,1,2,3,4,5,6,7,8,9,10,11,12,13,14,15,16,17,18,19,20,21,22,23,24,25,26,27,28,29,30,31,32,33,34] 48 rfl (by kernel_rfl) hv ?_
   simp only [qm, opAt]
   refine dM (.slice (some ⟨bb, bo, none⟩) l.length c) rfl (dM (vI i) rfl ?_)
   refine dG (.pointer (some ⟨bb, bo + i * 2, none⟩)) rfl (ex_index rfl rfl rfl (run_idx (k := i) Tryz.underlying57 s10es57 (by omega))) ?_
   simp only [zP, po]
   refine dG (.pointer (some ⟨bb, bo + i * 2, none⟩)) rfl (ex_field rfl rfl (s10fa100_0 _ _ _)) (dL _ rfl (fun hv => ex_load rfl rfl (run_load1 s9na9 (hrdx _ _ _ (Base.Le.refl _) no_res hv 0 _ rfl))) ?_)
   refine dG (vI (x.1.length : Int)) rfl (ex_lenStr Tryz.underlying9 rfl rfl) ?_
   simp only [zP, po]
   by_cases hb14 : (x.1.length : Int) > 4096
   ·refine dG (.bool true) rfl (ex_gtr rfl rfl rfl (qT hb14)) (dM (.bool true) rfl ?_)
    refine dP rfl ?_
    simp only [zP, po]
    refine dP rfl (dP rfl ?_)
    refine dP rfl ?_
    simp only [zP, po]
    refine dP rfl (dP rfl ?_)
    refine dP rfl ?_
    simp only [zP, po]
    refine dK true (.bool true) rfl (dM (.bool true) rfl ?_)
    refine dP rfl ?_
    simp only [zP, po]
    refine dP rfl (dP rfl ?_)
    refine dP rfl ?_
    simp only [zP, po]
    refine dP rfl (dP rfl ?_)
    refine dP rfl ?_
    simp only [zP, po]
    refine dP rfl (dP rfl ?_)
    refine dP rfl ?_
    simp only [zP, po]
    refine dP rfl (dP rfl ?_)
    refine dP rfl ?_
    simp only [zP, po]
    refine dP rfl (dP rfl ?_)
    refine dP rfl ?_
    simp only [zP, po]
    refine dP rfl (dK true (.bool true) rfl ?_)
    refine dE fun w15 hv => ?_
    simp only [zP, po]
    refine tK k13 (cT rfl ?_)
    refine sK fun _ k16 => rL (uA rfl ?_)
    refine uW k16 (rR ?_)
    refine bZ (tR ?_)
    refine tR (bZ ?_)
    refine tR (bR rfl rfl ?_)
    exact ⟨false, rfl, ⟨fun h => (by cases h), fun h => by have := (h.2 i x hx).1; omega⟩, hv⟩
   refine dG (.bool false) rfl (ex_gtr rfl rfl rfl (qF hb14)) (dM (.bool false) rfl ?_)
   refine dM (.slice (some ⟨bb, bo, none⟩) l.length c) rfl ?_
   simp only [zP, po]
   refine dM (vI i) rfl (dG (.pointer (some ⟨bb, bo + i * 2, none⟩)) rfl (ex_index rfl rfl rfl (run_idx (k := i) Tryz.underlying57 s10es57 (by omega))) ?_)
   refine dG (.pointer (some ⟨bb, bo + i * 2 + 1, none⟩)) rfl (ex_field rfl rfl (s10fa100_1 _ _ _)) ?_
   simp only [zP, po]
   refine dL _ rfl (fun hv => ex_load rfl rfl (run_load1 s9na9 (hrdx _ _ _ (Base.Le.refl _) no_res hv 1 _ rfl))) (dG (vI (x.2.length : Int)) rfl (ex_lenStr Tryz.underlying9 rfl rfl) ?_)
   by_cases hb17 : (x.2.length : Int) > 4096
   ·refine dG (.bool true) rfl (ex_gtr rfl rfl rfl (qT hb17)) ?_
    simp only [zP, po]
    refine dK false (.bool true) rfl (dM (.bool true) rfl ?_)
    refine dP rfl ?_
    simp only [zP, po]
    refine dP rfl (dP rfl ?_)
    refine dP rfl ?_
    simp only [zP, po]
    refine dP rfl (dP rfl ?_)
    refine dP rfl ?_
    simp only [zP, po]
    refine dP rfl (dP rfl ?_)
    refine dP rfl ?_
    simp only [zP, po]
    refine dP rfl (dP rfl ?_)
    refine dP rfl ?_
    simp only [zP, po]
    refine dP rfl (dP rfl ?_)
    refine dP rfl ?_
    simp only [zP, po]
    refine dP rfl (dK true (.bool true) rfl ?_)
    refine dE fun w18 hv => ?_
    simp only [zP, po]
    refine tK k13 (cT rfl ?_)
    refine sK fun _ k19 => rL (uA rfl ?_)
    refine uW k19 (rR ?_)
    refine bZ (tR ?_)
    refine tR (bZ ?_)
    refine tR (bR rfl rfl ?_)
    exact ⟨false, rfl, ⟨fun h => (by cases h), fun h => by have := (h.2 i x hx).1; omega⟩, hv⟩
   refine dG (.bool false) rfl (ex_gtr rfl rfl rfl (qF hb17)) ?_
   simp only [zP, po]
   refine dK false (.bool false) rfl (dM (.bool false) rfl ?_)
   refine dM (vI i) rfl ?_
   simp only [zP, po]
   by_cases hb20 : (i : Int) > 0
   ·obtain ⟨j, hj⟩ : ∃ j : Nat, i = j + 1 := ⟨i - 1, by omega⟩
    obtain ⟨y, hy⟩ : ∃ x, l[j]? = some x := ⟨_, List.getElem?_eq_getElem (show j < l.length by omega)⟩
    obtain ⟨b9, o9, had9, hrdy⟩ := pair_reads hr hy
    cases had9
    have hyl := (hall j (by omega) y hy).1
    skip
    refine dG (.bool true) rfl (ex_gtr rfl rfl rfl (qT hb20)) (dM (.bool true) rfl ?_)
    refine dM (.slice (some ⟨bb, bo, none⟩) l.length c) rfl ?_
    simp only [zP, po]
    refine dM (vI i) rfl (dG (vI j) rfl (ex_sub rfl rfl rfl (by rw [i64_in (by omega)]; omega)) ?_)
    refine dG (.pointer (some ⟨bb, bo + j * 2, none⟩)) rfl (ex_index rfl rfl rfl (run_idx (k := j) Tryz.underlying57 s10es57 (by omega))) ?_
    simp only [zP, po]
    refine dG (.pointer (some ⟨bb, bo + j * 2, none⟩)) rfl (ex_field rfl rfl (s10fa100_0 _ _ _)) (dL _ rfl (fun hv => ex_load rfl rfl (run_load1 s9na9 (hrdy _ _ _ (Base.Le.refl _) no_res hv 0 _ rfl))) ?_)
    refine dM (.slice (some ⟨bb, bo, none⟩) l.length c) rfl ?_
    simp only [zP, po]
    refine dM (vI i) rfl (dG (.pointer (some ⟨bb, bo + i * 2, none⟩)) rfl (ex_index rfl rfl rfl (run_idx (k := i) Tryz.underlying57 s10es57 (by omega))) ?_)
    refine dG (.pointer (some ⟨bb, bo + i * 2, none⟩)) rfl (ex_field rfl rfl (s10fa100_0 _ _ _)) ?_
    simp only [zP, po]
    refine dL _ rfl (fun hv => ex_load rfl rfl (run_load1 s9na9 (hrdx _ _ _ (Base.Le.refl _) no_res hv 0 _ rfl))) (dS rfl fun w21 hv => ?_)
    by_cases hb22 : Op.bytesLess y.1 x.1 = true
    ·refine mC s30callable41 rfl ((calls_bool (refLess B _ _ y.1 x.1 (by omega) hv) hb22).mono ?_) rfl
     rintro e w23 ⟨rfl, hv⟩
     refine ⟨_, rfl, dW hv ?_⟩
     refine dG (.bool false) rfl (ex_not rfl rfl rfl) ?_
     simp only [zP, po]
     refine dK true (.bool false) rfl (dK false (.bool false) rfl ?_)
     refine dE fun w24 hv => ?_
     simp only [zP, po]
     refine tK k13 (cF rfl ?_)
     refine kS (bN ?_)
     refine tK k12 (rL ?_)
     refine uM rfl ?_
     refine uG (vI ((i + 1 : Nat) : Int)) rfl (ex_add rfl rfl rfl (by rw [i64_in (by omega)]; omega)) (uA rfl ?_)
     refine uZ (then_normal ?_)
     go_roundw
     case rel => exact ⟨i + 1, rfl, by omega, fun k hk => (by
        rcases Nat.lt_or_ge k i with h | h
        ·exact hall k h
        obtain rfl : k = i := by omega
        intro x' hx'
        rw [hx] at hx'; cases hx'
        refine ⟨by omega, fun j' y' hj' hy' => ?_⟩
        rw [show j' = j by omega, hy] at hy'; cases hy'; exact hb22), hv⟩
     case measure => show l.length - (((i + 1 : Nat) : Int)).toNat < l.length - ((i : Int)).toNat; omega
    refine mC s30callable41 rfl ((calls_bool (refLess B _ _ y.1 x.1 (by omega) hv) (by simpa using hb22)).mono ?_) rfl
    rintro e w25 ⟨rfl, hv⟩
    refine ⟨_, rfl, dW hv ?_⟩
    refine dG (.bool true) rfl (ex_not rfl rfl rfl) ?_
    simp only [zP, po]
    refine dK true (.bool true) rfl (dK false (.bool true) rfl ?_)
    refine dE fun w26 hv => ?_
    simp only [zP, po]
    refine tK k13 (cT rfl ?_)
    refine sK fun _ k27 => rL (uA rfl ?_)
    refine uW k27 (rR ?_)
    refine bZ (tR ?_)
    refine tR (bZ ?_)
    refine tR (bR rfl rfl ?_)
    exact ⟨false, rfl, ⟨fun h => (by cases h), fun h => absurd ((h.2 i x hx).2 j y (by omega) hy) hb22⟩, hv⟩
   refine dG (.bool false) rfl (ex_gtr rfl rfl rfl (qF hb20)) (dM (.bool false) rfl ?_)
   refine dP rfl ?_
   simp only [zP, po]
   refine dP rfl (dP rfl ?_)
   refine dP rfl ?_
   simp only [zP, po]
   refine dP rfl (dP rfl ?_)
   refine dP rfl ?_
   simp only [zP, po]
   refine dP rfl (dP rfl ?_)
   refine dP rfl ?_
   simp only [zP, po]
   refine dP rfl (dP rfl ?_)
   refine dP rfl ?_
   simp only [zP, po]
   refine dK false (.bool false) rfl (dK false (.bool false) rfl ?_)
   refine dE fun w28 hv => ?_
   simp only [zP, po]
   refine tK k13 (cF rfl ?_)
   refine kS (bN ?_)
   refine tK k12 (rL ?_)
   refine uM rfl ?_
   refine uG (vI ((i + 1 : Nat) : Int)) rfl (ex_add rfl rfl rfl (by rw [i64_in (by omega)]; omega)) (uA rfl ?_)
   refine uZ (then_normal ?_)
   go_roundw
   case rel => exact ⟨i + 1, rfl, by omega, fun k hk => (by
      rcases Nat.lt_or_ge k i with h | h
      ·exact hall k h
      obtain rfl : k = i := by omega
      intro x' hx'
      rw [hx] at hx'; cases hx'
      refine ⟨by omega, fun j' y' hj' hy' => ?_⟩
      omega), hv⟩
   case measure => show l.length - (((i + 1 : Nat) : Int)).toNat < l.length - ((i : Int)).toNat; omega
  refine uG (.bool false) rfl (ex_lss rfl rfl rfl (qF hb11)) (uW k10 ?_)
  refine cF rfl (xE ?_)
  refine tX (tX ?_)
  refine bH (tK k6 ?_)
  refine sK fun _ k29 => rL (uA rfl ?_)
  refine uW k29 (rR ?_)
  refine bR rfl rfl ?_
  obtain rfl : i = l.length := by omega
  exact ⟨_, rfl, ⟨fun h9 => ⟨by first | omega | (have h8 : (l.length : Int) ≤ 512 := (by simpa using h9); omega), fun k x hx => hall k (List.getElem?_eq_some_iff.1 hx).1 x hx⟩, fun h9 => by have h8 := h9.1; first | rfl | (rw [decide_eq_true_iff]; omega)⟩, hv⟩
def beforeB (a b : Int × List UInt8) : Bool := decide (a.1 < b.1) || (decide (a.1 = b.1) && Op.bytesLess a.2 b.2)
theorem before_cmp (a b : Int × List UInt8) : beforeB a b = true ↔ cmpM a b < 0 := by
 unfold beforeB cmpM
 rcases Int.lt_trichotomy a.1 b.1 with h | h | h
 ·have hI : cmpI a.1 b.1 = -1 := by unfold cmpI; rw [if_pos h]
  rw [hI, qT h]; simp [orI]
 ·have hI : cmpI a.1 b.1 = 0 := by unfold cmpI; rw [if_neg (by omega), if_neg (by omega)]
  rw [hI, qT h, qF (show ¬ a.1 < b.1 by omega)]
  simp only [orI, ne_eq, not_true_eq_false, if_false, Bool.false_or, Bool.true_and]
  unfold cmpS
  cases h1 : Op.bytesLess a.2 b.2 with
  | true => simp
  | false => cases h2 : Op.bytesLess b.2 a.2 <;> simp
 have hI : cmpI a.1 b.1 = 1 := by unfold cmpI; rw [if_neg (by omega), if_pos h]
 rw [hI, qF (show ¬ a.1 < b.1 by omega), qF (show ¬ a.1 = b.1 by omega)]; simp [orI]
theorem nodup_place {l : List (Int × List UInt8)} : (l.map memName).Nodup ↔ ∀ (i j : Nat) x y, i < j → l[i]? = some x → l[j]? = some y → x.2 ≠ y.2 := by
 unfold List.Nodup
 rw [List.pairwise_iff_getElem]
 constructor
 ·intro h i j x y hij hx hy e
  obtain ⟨hi, rfl⟩ := List.getElem?_eq_some_iff.1 hx
  obtain ⟨hj, rfl⟩ := List.getElem?_eq_some_iff.1 hy
  exact h i j (by rw [List.length_map]; exact hi) (by rw [List.length_map]; exact hj) hij (by rw [List.getElem_map, List.getElem_map]; exact e)
 intro h i j hi hj hij e
 rw [List.length_map] at hi hj
 rw [List.getElem_map, List.getElem_map] at e
 exact h i j _ _ hij (List.getElem?_eq_getElem hi) (List.getElem?_eq_getElem hj) e
theorem refBefore (B : Base) (H : List Res) (w : World) (a b : Int × List UInt8) (hl : a.2.length ≤ 5000) (hv : Inv B H w) :
  Calls Tryz.prog 70 #[.agg #[vI a.1, vS a.2], .agg #[vI b.1, vS b.2]] w fun e w' => e = .returned (.bool (beforeB a b)) ∧ Inv B H w' := by
 refine cW Tryz.func70 rfl Tryz.ntmps70 ?_
 simp only [al]
 refine sK fun _ k1 => rL (sl_box (L := [vI a.1, vS a.2]) tV (wn rfl) rfl rfl hv (fun w => by kernel_rfl) (fun b2 w3 hv => ?_))
 refine sl_box (L := [vI b.1, vS b.2]) tV (wn rfl) rfl rfl hv (fun w => by kernel_rfl) (fun b4 w5 hv => ?_)
 refine uA rfl (uW k1 ?_)
 refine sK fun _ k6 => rL (uF (vP b2) rfl (s11fa102_0 _ _ _) ?_)
 refine uL _ rfl (run_load1 s2na3 (hv.load 1 0 rfl rfl)) ?_
 refine uF (vP b4) rfl (s11fa102_0 _ _ _) ?_
 refine uL _ rfl (run_load1 s2na3 (hv.load 0 0 rfl rfl)) ?_
 by_cases hb7 : a.1 < b.1
 ·refine uG (.bool true) rfl (ex_lss rfl rfl rfl (qT hb7)) (uM rfl ?_)
  iterate 12 refine uP rfl ?_
  refine uK rfl (uA rfl ?_)
  refine uW k6 (rR ?_)
  refine bR rfl rfl (⟨congrArg (fun b => Ending.returned (Value.bool b)) (by unfold beforeB; simp [*]), (hv.kp [] 0 2)⟩)
 refine uG (.bool false) rfl (ex_lss rfl rfl rfl (qF hb7)) (uM rfl ?_)
 refine uF (vP b2) rfl (s11fa102_0 _ _ _) ?_
 refine uL _ rfl (run_load1 s2na3 (hv.load 1 0 rfl rfl)) ?_
 refine uF (vP b4) rfl (s11fa102_0 _ _ _) ?_
 refine uL _ rfl (run_load1 s2na3 (hv.load 0 0 rfl rfl)) ?_
 by_cases hb8 : a.1 = b.1
 ·refine uG (.bool true) rfl (ex_eql rfl rfl rfl (qT hb8)) ?_
  refine uM rfl ?_
  refine uF (.pointer (some ⟨b2, 1, none⟩)) rfl (s9fa102_1 _ _ _) ?_
  refine uL _ rfl (run_load1 s9na9 (hv.load 1 1 rfl rfl)) ?_
  refine uF (.pointer (some ⟨b4, 1, none⟩)) rfl (s9fa102_1 _ _ _) ?_
  refine uL _ rfl (run_load1 s9na9 (hv.load 0 1 rfl rfl)) ?_
  refine xC s30callable41 rfl ((refLess B _ _ a.2 b.2 (by omega) hv).mono ?_) rfl
  rintro e w9 ⟨rfl, hv⟩
  refine ⟨_, rfl, ?_⟩
  refine uK rfl (uK rfl ?_)
  refine uA rfl (uW k6 ?_)
  refine rR (bR rfl rfl ?_)
  exact ⟨congrArg (fun b => Ending.returned (Value.bool b)) (by unfold beforeB; simp [*]), (hv.kp [] 0 2)⟩
 refine uG (.bool false) rfl (ex_eql rfl rfl rfl (qF hb8)) ?_
 refine uM rfl ?_
 iterate 5 refine uP rfl ?_
 refine uK rfl (uK rfl ?_)
 refine uA rfl (uW k6 ?_)
 refine rR (bR rfl rfl ?_)
 exact ⟨congrArg (fun b => Ending.returned (Value.bool b)) (by unfold beforeB; simp [*]), (hv.kp [] 0 2)⟩
def FirstZ (l : List (Int × List UInt8)) (s : List UInt8) (i : Nat) : Prop := (∃ x, l[i]? = some x ∧ x.2 = s) ∧ ∀ (j : Nat) y, j < i → l[j]? = some y → y.2 ≠ s
open Classical in
noncomputable def zAt (l : List (Int × List UInt8)) (s : List UInt8) : Int := if h : ∃ i, FirstZ l s i then ((Classical.choose h : Nat) : Int) else -1
theorem zAt_of {l : List (Int × List UInt8)} {s : List UInt8} {i : Nat} (h : FirstZ l s i) : zAt l s = (i : Int) := by
 have hex : ∃ i, FirstZ l s i := ⟨i, h⟩
 have h2 := Classical.choose_spec hex
 unfold zAt
 rw [dif_pos hex]
 obtain ⟨⟨x, hx, hxs⟩, h1⟩ := h
 obtain ⟨⟨y, hy, hys⟩, h3⟩ := h2
 rcases Nat.lt_trichotomy (Classical.choose hex) i with h4 | h4 | h4
 ·exact absurd hys (h1 _ y h4 hy)
 ·rw [h4]
 exact absurd hxs (h3 _ x h4 hx)
theorem zAt_no {l : List (Int × List UInt8)} {s : List UInt8} (h : ∀ x ∈ l, x.2 ≠ s) : zAt l s = -1 := by
 unfold zAt
 rw [dif_neg]
 rintro ⟨i, ⟨x, hx, hxs⟩, -⟩
 exact h x (List.mem_of_getElem? hx) hxs
theorem zAt_here {l : List (Int × List UInt8)} {i : Nat} {x : Int × List UInt8} (_ : l[i]? = some x) (h : zAt l x.2 = (i : Int)) : ∀ (j : Nat) y, j < i → l[j]? = some y → y.2 ≠ x.2 := by
 have hex : ∃ i, FirstZ l x.2 i := by
  refine Classical.byContradiction fun hno => ?_
  unfold zAt at h
  rw [dif_neg hno] at h
  omega
 have h2 := Classical.choose_spec hex
 unfold zAt at h
 rw [dif_pos hex] at h
 have h3 : Classical.choose hex = i := by omega
 rw [h3] at h2
 exact h2.2
theorem refZat (B : Base) (H : List Res) (w : World) (ad : Option Addr) (c : Nat) (l : List (Int × List UInt8)) (s : List UInt8) (hr : RdV B [] ad (memCells l)) (hm : l.length ≤ 1000000) (hv : Inv B H w) :
  Calls Tryz.prog 71 #[.slice ad l.length c, vS s] w fun e w' => e = .returned (vI (zAt l s)) ∧ Inv B H w' := by
 refine cW Tryz.func71 rfl Tryz.ntmps71 ?_
 simp only [al]
 refine sK fun _ k1 => rL (uA rfl ?_)
 refine uW k1 (sK fun _ k2 => ?_)
 refine sK fun _ k3 => rL (uA rfl ?_)
 refine uW k3 (bB ?_)
 gi_loopw [5] (fun x5 wr => ∃ (i : Nat), x5 = vI i ∧ i ≤ l.length ∧ (∀ (j : Nat) y, j < i → l[j]? = some y → y.2 ≠ s) ∧ Inv B H wr) (fun x5 _ => l.length - (intOf x5).toNat)
 case atStart => exact ⟨0, rfl, Nat.zero_le _, fun j y h => by omega, hv⟩
 case round =>
  obtain ⟨i, rfl, hi, hno, hv⟩ := hrel
  refine sK fun _ k5 => sK fun _ k6 => rL (uM rfl ?_)
  refine uM rfl ?_
  refine uG (vI (l.length : Int)) rfl (ex_len0 Tryz.underlying58 rfl rfl) ?_
  by_cases hb7 : (i : Int) < (l.length : Int)
  ·refine uG (.bool true) rfl (ex_lss rfl rfl rfl (qT hb7)) (uW k6 ?_)
   refine cT rfl (kS ?_)
   refine tK k5 (sK fun _ k8 => ?_)
   refine bB (sK fun _ k9 => ?_)
   obtain ⟨x, hx⟩ : ∃ x, l[i]? = some x := ⟨_, List.getElem?_eq_getElem (show i < l.length by omega)⟩
   obtain ⟨bb, bo, had, hrdx⟩ := mem_reads hr hx
   subst had
   refine rL (uM rfl ?_)
   refine uM rfl ?_
   refine uG (.pointer (some ⟨bb, bo + i * 2, none⟩)) rfl (ex_index rfl rfl rfl (run_idx (k := i) Tryz.underlying58 s9es58 (by omega))) ?_
   refine uF (.pointer (some ⟨bb, bo + i * 2 + 1, none⟩)) rfl (s9fa102_1 _ _ _) ?_
   refine uL _ rfl (run_load1 s9na9 (hrdx _ _ _ (Base.Le.refl _) no_res hv 1 _ rfl)) (uM rfl ?_)
   by_cases hb10 : x.2 = s
   ·refine uG (.bool true) rfl (ex_seql rfl rfl rfl (qT hb10)) (uW k9 ?_)
    refine cT rfl (sK fun _ k11 => ?_)
    refine rL (uM rfl ?_)
    refine uA rfl (uW k11 ?_)
    refine rR (bZ ?_)
    refine tR (tR ?_)
    refine bZ (tR ?_)
    refine bR rfl rfl (⟨by rw [zAt_of ⟨⟨x, hx, hb10⟩, hno⟩]; rfl, hv⟩)
   refine uG (.bool false) rfl (ex_seql rfl rfl rfl (qF hb10)) (uW k9 ?_)
   refine cF rfl (kS ?_)
   refine bN (tK k8 ?_)
   refine rL (uM rfl ?_)
   refine uG (vI ((i + 1 : Nat) : Int)) rfl (ex_add rfl rfl rfl (by rw [i64_in (by omega)]; omega)) (uA rfl ?_)
   refine uZ (then_normal ?_)
   go_roundw
   case rel => exact ⟨i + 1, rfl, by omega, fun j y hj hy => (by
      rcases Nat.lt_or_ge j i with h | h
      ·exact hno j y h hy
      rw [show j = i by omega, hx] at hy; cases hy; exact hb10), hv⟩
   case measure => show l.length - (((i + 1 : Nat) : Int)).toNat < l.length - ((i : Int)).toNat; omega
  refine uG (.bool false) rfl (ex_lss rfl rfl rfl (qF hb7)) (uW k6 ?_)
  refine cF rfl (xE ?_)
  refine tX (tX ?_)
  refine bH (tK k2 ?_)
  refine sK fun _ k12 => rL (uA rfl ?_)
  refine uW k12 (rR ?_)
  refine bR rfl rfl ?_
  obtain rfl : i = l.length := by omega
  exact ⟨by rw [zAt_no (fun x hx => by obtain ⟨j, hj⟩ := List.mem_iff_getElem?.1 hx; exact hno j x (List.getElem?_eq_some_iff.1 hj).1 hj)]; rfl, hv⟩
def ZAt (l : List (Int × List UInt8)) (i : Nat) : Prop := (∀ x, l[i]? = some x → x.2.length ≤ 4096) ∧ (∀ x, l[i]? = some x → ∀ (j : Nat) y, i = j + 1 → l[j]? = some y → cmpM y x < 0) ∧ ∀ x, l[i]? = some x → ∀ (j : Nat) y, j < i → l[j]? = some y → y.2 ≠ x.2
theorem zset_ok {l : List (Int × List UInt8)} (h : l.length ≤ 512) (ha : ∀ k, k < l.length → ZAt l k) : ZsetOk l := by
 refine ⟨h, List.any_eq_false.2 fun x hx => ?_, fun i x hx => (ha i (List.getElem?_eq_some_iff.1 hx).1).2.1 x hx, nodup_place.2 fun i j x y hij hx hy => (ha j (List.getElem?_eq_some_iff.1 hy).1).2.2 y hy i x hij hx⟩
 obtain ⟨j, hj⟩ := List.mem_iff_getElem?.1 hx
 have := (ha j (List.getElem?_eq_some_iff.1 hj).1).1 x hj
 simp; omega
theorem s30callable70 : Callable Tryz.prog 70 := cb Tryz.func70 (by kernel_rfl)
theorem s30callable71 : Callable Tryz.prog 71 := cb Tryz.func71 (by kernel_rfl)
theorem refZsetRight (B : Base) (H : List Res) (w : World) (ad : Option Addr) (c : Nat) (l : List (Int × List UInt8)) (hr : RdV B [] ad (memCells l)) (hm : l.length ≤ 1000000) (hv : Inv B H w) :
  Calls Tryz.prog 34 #[.slice ad l.length c] w fun e w' => ∃ b, e = .returned (.bool b) ∧ (b = true ↔ ZsetOk l) ∧ Inv B H w' := by
 refine cW Tryz.func34 rfl Tryz.ntmps34 ?_
 simp only [al]
 refine sK fun _ k1 => rL (uA rfl ?_)
 refine uW k1 (sK fun _ k2 => ?_)
 refine sK fun _ k3 => rL (uA rfl ?_)
 refine uW k3 (bB ?_)
 gi_loopw [3] (fun x3 wr => ∃ (i : Nat), x3 = vI i ∧ i ≤ l.length ∧ (∀ k, k < i → ZAt l k) ∧ Inv B H wr) (fun x3 _ => l.length - (intOf x3).toNat)
 case atStart => exact ⟨0, rfl, Nat.zero_le _, fun k h => by omega, hv⟩
 case round =>
  obtain ⟨i, rfl, hi, hall, hv⟩ := hrel
  refine sK fun _ k5 => sK fun _ k6 => rL (uM rfl ?_)
  refine uM rfl ?_
  refine uG (vI (l.length : Int)) rfl (ex_len0 Tryz.underlying58 rfl rfl) ?_
  by_cases hb7 : (i : Int) < (l.length : Int)
  ·refine uG (.bool true) rfl (ex_lss rfl rfl rfl (qT hb7)) (uW k6 ?_)
   refine cT rfl (kS ?_)
   refine tK k5 (sK fun _ k8 => ?_)
   refine bB (sK fun _ k9 => ?_)
   obtain ⟨x, hx⟩ : ∃ x, l[i]? = some x := ⟨_, List.getElem?_eq_getElem (show i < l.length by omega)⟩
   obtain ⟨bb, bo, had, hrdx⟩ := mem_reads hr hx
   subst had
   refine rW mixed [20, 31] [0,1,2,3,4,5,6,7,8,9,10,11,12,13,14,15,16,17,18,19,20,21,22,23,24,25,26,27,28,29,30,32,31,33,34] 48 rfl (by kernel_rfl) hv ?_
   simp only [qm, opAt]
   refine dM (.slice (some ⟨bb, bo, none⟩) l.length c) rfl (dM (vI i) rfl ?_)
   refine dG (.pointer (some ⟨bb, bo + i * 2, none⟩)) rfl (ex_index rfl rfl rfl (run_idx (k := i) Tryz.underlying58 s9es58 (by omega))) ?_
   simp only [zP, po]
   refine dG (.pointer (some ⟨bb, bo + i * 2 + 1, none⟩)) rfl (ex_field rfl rfl (s9fa102_1 _ _ _)) (dL _ rfl (fun hv => ex_load rfl rfl (run_load1 s9na9 (hrdx _ _ _ (Base.Le.refl _) no_res hv 1 _ rfl))) ?_)
   refine dG (vI (x.2.length : Int)) rfl (ex_lenStr Tryz.underlying9 rfl rfl) ?_
   simp only [zP, po]
   by_cases hb10 : (x.2.length : Int) > 4096
   ·refine dG (.bool true) rfl (ex_gtr rfl rfl rfl (qT hb10)) (dM (.bool true) rfl ?_)
    refine dP rfl ?_
    simp only [zP, po]
    refine dP rfl (dP rfl ?_)
    refine dP rfl ?_
    simp only [zP, po]
    refine dP rfl (dP rfl ?_)
    refine dP rfl ?_
    simp only [zP, po]
    refine dP rfl (dP rfl ?_)
    refine dP rfl ?_
    simp only [zP, po]
    refine dP rfl (dP rfl ?_)
    refine dP rfl ?_
    simp only [zP, po]
    refine dP rfl (dP rfl ?_)
    refine dK true (.bool true) rfl ?_
    simp only [zP, po]
    refine dM (.bool true) rfl (dP rfl ?_)
    refine dP rfl ?_
    simp only [zP, po]
    refine dP rfl (dP rfl ?_)
    refine dP rfl ?_
    simp only [zP, po]
    refine dP rfl (dP rfl ?_)
    refine dP rfl ?_
    simp only [zP, po]
    refine dP rfl (dK true (.bool true) rfl ?_)
    refine dE fun w11 hv => ?_
    simp only [zP, po]
    refine tK k9 (cT rfl ?_)
    refine sK fun _ k12 => rL (uA rfl ?_)
    refine uW k12 (rR ?_)
    refine bZ (tR ?_)
    refine tR (bZ ?_)
    refine tR (bR rfl rfl ?_)
    exact ⟨false, rfl, ⟨fun h => (by cases h), fun h => by have h8 := List.any_eq_false.1 h.2.1 x (List.mem_of_getElem? hx); simp at h8; omega⟩, hv⟩
   refine dG (.bool false) rfl (ex_gtr rfl rfl rfl (qF hb10)) (dM (.bool false) rfl ?_)
   refine dM (vI i) rfl ?_
   simp only [zP, po]
   by_cases hb13 : (i : Int) > 0
   ·obtain ⟨j, hj⟩ : ∃ j : Nat, i = j + 1 := ⟨i - 1, by omega⟩
    obtain ⟨y, hy⟩ : ∃ x, l[j]? = some x := ⟨_, List.getElem?_eq_getElem (show j < l.length by omega)⟩
    obtain ⟨b9, o9, had9, hrdy⟩ := mem_reads hr hy
    cases had9
    have hyl := (hall j (by omega)).1 y hy
    skip
    refine dG (.bool true) rfl (ex_gtr rfl rfl rfl (qT hb13)) (dM (.bool true) rfl ?_)
    refine dM (.slice (some ⟨bb, bo, none⟩) l.length c) rfl ?_
    simp only [zP, po]
    refine dM (vI i) rfl (dG (vI j) rfl (ex_sub rfl rfl rfl (by rw [i64_in (by omega)]; omega)) ?_)
    refine dG (.pointer (some ⟨bb, bo + j * 2, none⟩)) rfl (ex_index rfl rfl rfl (run_idx (k := j) Tryz.underlying58 s9es58 (by omega))) ?_
    simp only [zP, po]
    refine dL (.agg #[vI y.1, vS y.2]) rfl (fun hv => ex_load rfl rfl (run_loadR (cs := [vI y.1, vS y.2]) s9wd102 (Reads.mid (pre := []) (mid := [vI y.1, vS y.2]) (post := []) hrdy _ _ _ (Base.Le.refl _) no_res hv))) (dM (.slice (some ⟨bb, bo, none⟩) l.length c) rfl ?_)
    refine dM (vI i) rfl ?_
    simp only [zP, po]
    refine dG (.pointer (some ⟨bb, bo + i * 2, none⟩)) rfl (ex_index rfl rfl rfl (run_idx (k := i) Tryz.underlying58 s9es58 (by omega))) (dL (.agg #[vI x.1, vS x.2]) rfl (fun hv => ex_load rfl rfl (run_loadR (cs := [vI x.1, vS x.2]) s9wd102 (Reads.mid (pre := []) (mid := [vI x.1, vS x.2]) (post := []) hrdx _ _ _ (Base.Le.refl _) no_res hv))) ?_)
    refine dS rfl fun w14 hv => ?_
    by_cases hb15 : beforeB y x = true
    ·refine mC s30callable70 rfl ((calls_bool (refBefore B _ _ y x (by omega) hv) hb15).mono ?_) rfl
     rintro e w16 ⟨rfl, hv⟩
     refine ⟨_, rfl, dW hv ?_⟩
     simp only [zP, po]
     refine dG (.bool false) rfl (ex_not rfl rfl rfl) (dK true (.bool false) rfl ?_)
     refine dK false (.bool false) rfl ?_
     simp only [zP, po]
     refine dM (.bool false) rfl (dM (.slice (some ⟨bb, bo, none⟩) l.length c) rfl ?_)
     refine dM (.slice (some ⟨bb, bo, none⟩) l.length c) rfl ?_
     simp only [zP, po]
     refine dM (vI i) rfl (dG (.pointer (some ⟨bb, bo + i * 2, none⟩)) rfl (ex_index rfl rfl rfl (run_idx (k := i) Tryz.underlying58 s9es58 (by omega))) ?_)
     refine dG (.pointer (some ⟨bb, bo + i * 2 + 1, none⟩)) rfl (ex_field rfl rfl (s9fa102_1 _ _ _)) ?_
     simp only [zP, po]
     refine dL _ rfl (fun hv => ex_load rfl rfl (run_load1 s9na9 (hrdx _ _ _ (Base.Le.refl _) no_res hv 1 _ rfl))) (dM (vI i) rfl ?_)
     refine dS rfl fun w17 hv => mC s30callable71 rfl ((refZat B _ _ _ c l x.2 hr hm hv).mono ?_) rfl
     rintro e w18 ⟨rfl, hv⟩
     refine ⟨_, rfl, dW hv ?_⟩
     simp only [zP, po]
     refine dG (.bool (decide ((zAt l x.2) ≠ (i : Int)))) rfl (ex_neq rfl rfl rfl rfl) (dK false (.bool (decide ((zAt l x.2) ≠ (i : Int)))) rfl ?_)
     refine dE fun w19 hv => ?_
     simp only [zP, po]
     refine tK k9 (wpIn_cond_split (t := decide ((zAt l x.2) ≠ (i : Int))) rfl (fun hc20 => ?_) (fun hc20 => ?_))
     ·refine sK fun _ k21 => rL (uA rfl ?_)
      refine uW k21 (rR ?_)
      refine bZ (tR ?_)
      refine tR (bZ ?_)
      refine tR (bR rfl rfl ?_)
      exact ⟨false, rfl, ⟨fun h => (by cases h), fun h => by
       have h5 : zAt l x.2 ≠ (i : Int) := by simpa using hc20
       exact absurd (zAt_of ⟨⟨x, hx, rfl⟩, fun j y hj hy => nodup_place.1 h.2.2.2 j i y x hj hy hx⟩) h5⟩, hv⟩
     refine kS (bN ?_)
     refine tK k8 (rL ?_)
     refine uM rfl ?_
     refine uG (vI ((i + 1 : Nat) : Int)) rfl (ex_add rfl rfl rfl (by rw [i64_in (by omega)]; omega)) (uA rfl ?_)
     refine uZ (then_normal ?_)
     go_roundw
     case rel => exact ⟨i + 1, rfl, by omega, fun k hk => (by
        rcases Nat.lt_or_ge k i with h | h
        ·exact hall k h
        obtain rfl : k = i := by omega
        refine ⟨fun x' hx' => ?_, fun x' hx' j' y' hj' hy' => ?_, fun x' hx' j' y' hj' hy' => ?_⟩ <;> (rw [hx] at hx'; cases hx')
        ·omega
        ·rw [show j' = j by omega, hy] at hy'; cases hy'; exact (before_cmp _ _).1 hb15
        have h5 : zAt l x.2 = (k : Int) := by simpa using hc20
        exact zAt_here hx h5 j' y' hj' hy'), hv⟩
     case measure => show l.length - (((i + 1 : Nat) : Int)).toNat < l.length - ((i : Int)).toNat; omega
    refine mC s30callable70 rfl ((calls_bool (refBefore B _ _ y x (by omega) hv) (by simpa using hb15)).mono ?_) rfl
    rintro e w22 ⟨rfl, hv⟩
    refine ⟨_, rfl, dW hv ?_⟩
    simp only [zP, po]
    refine dG (.bool true) rfl (ex_not rfl rfl rfl) (dK true (.bool true) rfl ?_)
    refine dK false (.bool true) rfl ?_
    simp only [zP, po]
    refine dM (.bool true) rfl (dP rfl ?_)
    refine dP rfl ?_
    simp only [zP, po]
    refine dP rfl (dP rfl ?_)
    refine dP rfl ?_
    simp only [zP, po]
    refine dP rfl (dP rfl ?_)
    refine dP rfl ?_
    simp only [zP, po]
    refine dP rfl (dK true (.bool true) rfl ?_)
    refine dE fun w23 hv => ?_
    simp only [zP, po]
    refine tK k9 (cT rfl ?_)
    refine sK fun _ k24 => rL (uA rfl ?_)
    refine uW k24 (rR ?_)
    refine bZ (tR ?_)
    refine tR (bZ ?_)
    refine tR (bR rfl rfl ?_)
    exact ⟨false, rfl, ⟨fun h => (by cases h), fun h => absurd ((before_cmp _ _).2 (h.2.2.1 i x hx j y (by omega) hy)) hb15⟩, hv⟩
   refine dG (.bool false) rfl (ex_gtr rfl rfl rfl (qF hb13)) (dM (.bool false) rfl ?_)
   refine dP rfl ?_
   simp only [zP, po]
   refine dP rfl (dP rfl ?_)
   refine dP rfl ?_
   simp only [zP, po]
   refine dP rfl (dP rfl ?_)
   refine dP rfl ?_
   simp only [zP, po]
   refine dP rfl (dP rfl ?_)
   refine dP rfl ?_
   simp only [zP, po]
   refine dP rfl (dK false (.bool false) rfl ?_)
   refine dK false (.bool false) rfl ?_
   simp only [zP, po]
   refine dM (.bool false) rfl (dM (.slice (some ⟨bb, bo, none⟩) l.length c) rfl ?_)
   refine dM (.slice (some ⟨bb, bo, none⟩) l.length c) rfl ?_
   simp only [zP, po]
   refine dM (vI i) rfl (dG (.pointer (some ⟨bb, bo + i * 2, none⟩)) rfl (ex_index rfl rfl rfl (run_idx (k := i) Tryz.underlying58 s9es58 (by omega))) ?_)
   refine dG (.pointer (some ⟨bb, bo + i * 2 + 1, none⟩)) rfl (ex_field rfl rfl (s9fa102_1 _ _ _)) ?_
   simp only [zP, po]
   refine dL _ rfl (fun hv => ex_load rfl rfl (run_load1 s9na9 (hrdx _ _ _ (Base.Le.refl _) no_res hv 1 _ rfl))) (dM (vI i) rfl ?_)
   refine dS rfl fun w25 hv => mC s30callable71 rfl ((refZat B _ _ _ c l x.2 hr hm hv).mono ?_) rfl
   rintro e w26 ⟨rfl, hv⟩
   refine ⟨_, rfl, dW hv ?_⟩
   simp only [zP, po]
   refine dG (.bool (decide ((zAt l x.2) ≠ (i : Int)))) rfl (ex_neq rfl rfl rfl rfl) (dK false (.bool (decide ((zAt l x.2) ≠ (i : Int)))) rfl ?_)
   refine dE fun w27 hv => ?_
   simp only [zP, po]
   refine tK k9 (wpIn_cond_split (t := decide ((zAt l x.2) ≠ (i : Int))) rfl (fun hc28 => ?_) (fun hc28 => ?_))
   ·refine sK fun _ k29 => rL (uA rfl ?_)
    refine uW k29 (rR ?_)
    refine bZ (tR ?_)
    refine tR (bZ ?_)
    refine tR (bR rfl rfl ?_)
    exact ⟨false, rfl, ⟨fun h => (by cases h), fun h => by
     have h5 : zAt l x.2 ≠ (i : Int) := by simpa using hc28
     exact absurd (zAt_of ⟨⟨x, hx, rfl⟩, fun j y hj hy => nodup_place.1 h.2.2.2 j i y x hj hy hx⟩) h5⟩, hv⟩
   refine kS (bN ?_)
   refine tK k8 (rL ?_)
   refine uM rfl ?_
   refine uG (vI ((i + 1 : Nat) : Int)) rfl (ex_add rfl rfl rfl (by rw [i64_in (by omega)]; omega)) (uA rfl ?_)
   refine uZ (then_normal ?_)
   go_roundw
   case rel => exact ⟨i + 1, rfl, by omega, fun k hk => (by
      rcases Nat.lt_or_ge k i with h | h
      ·exact hall k h
      obtain rfl : k = i := by omega
      refine ⟨fun x' hx' => ?_, fun x' hx' j' y' hj' hy' => ?_, fun x' hx' j' y' hj' hy' => ?_⟩ <;> (rw [hx] at hx'; cases hx')
      ·omega
      ·omega
      have h5 : zAt l x.2 = (k : Int) := by simpa using hc28
      exact zAt_here hx h5 j' y' hj' hy'), hv⟩
   case measure => show l.length - (((i + 1 : Nat) : Int)).toNat < l.length - ((i : Int)).toNat; omega
  refine uG (.bool false) rfl (ex_lss rfl rfl rfl (qF hb7)) (uW k6 ?_)
  refine cF rfl (xE ?_)
  refine tX (tX ?_)
  refine bH (tK k2 ?_)
  refine sK fun _ k30 => rL (uM rfl ?_)
  refine uG (vI (l.length : Int)) rfl (ex_len0 Tryz.underlying58 rfl rfl) ?_
  refine uG (.bool (decide ((l.length : Int) ≤ 512))) rfl (ex_leq rfl rfl rfl rfl) (uA rfl ?_)
  refine uW k30 (rR ?_)
  refine bR rfl rfl ?_
  obtain rfl : i = l.length := by omega
  exact ⟨_, rfl, by rw [decide_eq_true_iff]; exact ⟨fun h9 => zset_ok (by omega) hall, fun h9 => by have := h9.1; omega⟩, hv⟩
end Go.Proofs.YtmpackidbgfoiaaGreatDoor
