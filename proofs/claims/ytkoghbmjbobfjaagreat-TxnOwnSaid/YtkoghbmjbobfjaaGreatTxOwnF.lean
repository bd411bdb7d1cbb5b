/- An evaluator of calls, plain data, made for the kernel. -/
import Derived.Test.YtkoghbmjbobfjaaGreatTxOwnA
set_option maxRecDepth 100000
namespace Go.Eng
open Go
noncomputable section
inductive T (α : Type) where
 | e
 | n (v : α) (l r : T α)
def T.get {α : Type} (d : α) (t : T α) : Nat → α := T.rec (motive := fun _ => Nat → α) (fun _ => d) (fun v _ _ gl gr k => Bool.rec (Bool.rec (gr (k / 2 - 1)) (gl (k / 2)) (Nat.beq (k % 2) 1)) v (Nat.beq k 0)) t
def T.set {α : Type} (d : α) (f : Nat) : T α → Nat → α → T α := Nat.rec (motive := fun _ => T α → Nat → α → T α) (fun t _ _ => t)
 (fun _ ih t k v => T.rec (motive := fun _ => T α)
  (Bool.rec (Bool.rec (.n d .e (ih .e (k / 2 - 1) v)) (.n d (ih .e (k / 2) v) .e) (Nat.beq (k % 2) 1)) (.n v .e .e) (Nat.beq k 0))
  (fun x l r _ _ => Bool.rec (Bool.rec (.n x l (ih r (k / 2 - 1) v)) (.n x (ih l (k / 2) v) r) (Nat.beq (k % 2) 1)) (.n v l r) (Nat.beq k 0)) t) f
def odds {α : Type} : List α → List α
 | _ :: b :: l => b :: odds l
 | _ => []
def evens {α : Type} : List α → List α
 | a :: _ :: l => a :: evens l
 | l => l
def T.of {α : Type} : Nat → List α → T α
 | 0, _ => .e
 | _ + 1, [] => .e
 | f + 1, a :: l => .n a (T.of f (evens l)) (T.of f (odds l))
inductive Pc where
 | l (n x : Nat)
 | a (j : Nat)
inductive Cp where
 | k (c : Nat)
 | u (e : Nat)
inductive V where
  | b (x : Bool)
  | i (k : IntKind) (n : Int)
  | q (k : IntKind) (c : Int) (us : List Nat)
  | s (ps : List Pc)
  | p (a : Option (Nat × Nat))
  | sl (a : Option (Nat × Nat)) (len : Nat) (cap : Cp)
  /-- the part of a row from its known end on -/
  | sx (k o e l sz : Nat)
  | m (r : Option Nat)
  | f (fn : Fn) (fst cap : List V)
  | nf
  | t (ty : TypeId) (v : V)
  | ni
  | g (cs : List V)
  | u (vs : List V)
  /-- a slice that was there at the beginning, and a pointer to one of its elements -/
  | wl (j : Nat)
  | wp (j i : Nat)
  /-- a pointer to a cell of a package's variable -/
  | gl (g i : Nat)
  deriving Inhabited
inductive O where
 | dead
 | cells (L : List V) (ty : TypeId) (grown str : Bool)
 | map (es : List (V × V × Nat)) (clock : Nat)
 | miter (r : Option Nat) (since : Nat) (seen : List Nat) (last : Nat)
 | loop (st : Nat) (pend : Option Code) (f : FuncId) (n : Nat) (fr : T V) (ps : List Nat) (assign body : Code) (dr : Nat)
 | defd
inductive Res (α : Type) where
 | ok (a : α)
 | no (why : String)
def Res.bind {α β : Type} (r : Res α) (f : α → Res β) : Res β := Res.rec (motive := fun _ => Res β) (fun a => f a) (fun w => .no w) r
instance : Monad Res where
 pure := Res.ok
 bind := Res.bind
structure TI where
 d : TypeDesc
 sz : Nat
 bytes : Nat
 agg : Bool
 z : Option (List V)
 str : String
 methods : Array Method
def numB (l : List UInt8) : Nat := l.foldl (fun n c => n * 256 + c.toNat) 0
def lit (n x : Nat) : List Pc := cond (Nat.beq n 0) [] [.l n x]
def leafOf : Value → Option V
 | .bool b => some (.b b)
 | .int k n => some (.i k n)
 | .string s => some (.s (lit s.data.toList.length (numB s.data.toList)))
 | .pointer none => some (.p none)
 | .slice none 0 0 => some (.sl none 0 (.k 0))
 | .map none => some (.m none)
 | .nilFunc => some .nf
 | .nilIface => some .ni
 | .func fn a b => match fn, a.toList, b.toList with
  | .func f, [], [] => some (.f (.func f) [] [])
  | _, _, _ => none
 | _ => none
def leaves : List Value → Option (List V)
 | [] => some []
 | v :: l => match leafOf v, leaves l with
  | some x, some y => some (x :: y)
  | _, _ => none
def ofVal : Value → Option V
 | .agg cs => (leaves cs.toList).map .g
 | .tuple vs => match vs.toList with
  | [] => some (.u [])
  | _ => none
 | v => leafOf v
def isAggD : TypeDesc → Bool
 | .struct _ | .array _ _ => true
 | _ => false
def zOf (agg : Bool) : Value → Option (List V)
 | .agg cs => cond agg (leaves cs.toList) none
 | v => cond agg none (leaves [v])
def tiOf (P : Program) (i : TypeInfo) : TI :=
 let d := match i.desc with
  | .named _ u => ((P.info? u).map (·.desc)).getD .invalid
  | d => d
 let agg := isAggD d
 { d, sz := i.size, bytes := i.bytes, agg, z := i.zero.bind (zOf agg), str := i.str, methods := i.methods }
structure St where
 h : T O
 nx : Nat
 r : Nat
 w : Nat
structure Pr where
  ty : T (Option TI)
  fn : T (Option Func)
  /-- how long the unknown texts are, at least and at most -/
  bnd : Nat → Nat × Nat
  /-- the slices that were there: their lengths and the elements from the first on -/
  win : Nat → Option (V × List V)
  /-- calls that are known -/
  orc : FuncId → List V → St → Option (St × V)
  /-- calls that are known where they are no deferred ones -/
  orn : FuncId → List V → St → Option (St × V)
  /-- what is known of unknown numbers and texts -/
  fact : BinOp → V → V → Option V
def sumLo (P : Pr) : List Nat → Nat
 | [] => 0
 | j :: r => (P.bnd j).1 + sumLo P r
def sumHi (P : Pr) : List Nat → Nat
 | [] => 0
 | j :: r => (P.bnd j).2 + sumHi P r
def depth : Nat := 40
def rd (σ : St) (k : Nat) : St := St.casesOn σ fun h nx r w => ⟨h, nx, Nat.lor r (2 ^ k), w⟩
def obj (σ : St) (k : Nat) : O := σ.h.get .dead k
def wr (σ : St) (k : Nat) (o : O) : St := St.casesOn σ fun h nx r w => ⟨h.set .dead (k + 1) k o, nx, r, Nat.lor w (2 ^ k)⟩
def new (σ : St) (o : O) : St × Nat := St.casesOn σ fun h nx r w => (⟨h.set .dead (nx + 1) nx o, nx + 1, r, Nat.lor w (2 ^ nx)⟩, nx)
inductive D where
 | mark (d : Nat)
 | call (f : FuncId) (args : List V)
structure Fr where
 n : Nat
 t : T V
 ds : List D
def und : V := .u []
def Fr.at (fr : Fr) (k : Nat) : V := T.get und fr.t k
def Fr.put (fr : Fr) (k : Option Nat) (v : V) : Res Fr := match k with
 | some k => Fr.casesOn fr fun n t ds => cond (Nat.blt k n) (.ok ⟨n, T.set und (k + 1) t k v, ds⟩) (.no "slot")
 | none => .ok fr
def opnd (fr : Fr) : Operand → Res V
 | .tmp t => .ok (fr.at t)
 | .const v => match ofVal v with
  | some x => .ok x
  | none => .no "const"
 | .global g => .ok (.gl g 0)
 | .func f => .ok (.f (.func f) [] [])
def opnds (fr : Fr) : List Operand → Res (List V)
 | [] => .ok []
 | x :: l => (opnd fr x).bind fun v => (opnds fr l).bind fun vs => .ok (v :: vs)
-- numbers
def ilt : Int → Int → Bool
 | .ofNat a, .ofNat b => Nat.blt a b
 | .ofNat _, .negSucc _ => false
 | .negSucc _, .ofNat _ => true
 | .negSucc a, .negSucc b => Nat.blt b a
def ieq : Int → Int → Bool
 | .ofNat a, .ofNat b => Nat.beq a b
 | .negSucc a, .negSucc b => Nat.beq a b
 | _, _ => false
def inK (k : IntKind) (n : Int) : Bool := match n with
 | .ofNat a => Nat.blt a (cond k.signed (2 ^ (k.bits - 1)) (2 ^ k.bits))
 | .negSucc a => k.signed && Nat.blt a (2 ^ (k.bits - 1))
def wrp (k : IntKind) (n : Int) : Int := cond (inK k n) n (k.wrap n)
def beqK : IntKind → IntKind → Bool
 | .i8, .i8 | .i16, .i16 | .i32, .i32 | .i64, .i64 | .u8, .u8 | .u16, .u16 | .u32, .u32 | .u64, .u64 => true
 | _, _ => false
def cmpI (op : BinOp) (a b : Int) : Option Bool := match op with
 | .eql => some (ieq a b)
 | .neq => some (!ieq a b)
 | .lss => some (ilt a b)
 | .leq => some (!ilt b a)
 | .gtr => some (ilt b a)
 | .geq => some (!ilt a b)
 | _ => none
def bits (k : IntKind) (r x y : Nat) : Res V := cond (Nat.blt x (2 ^ k.bits) && Nat.blt y (2 ^ k.bits)) (.ok (.i k (wrp k (.ofNat r)))) (.no "bits")
def intOp (op : BinOp) (k : IntKind) (a b : Int) : Res V := match op with
 | .add => .ok (.i k (wrp k (a + b)))
 | .sub => .ok (.i k (wrp k (a - b)))
 | .mul => .ok (.i k (wrp k (a * b)))
 | .quo => cond (ieq b 0) (.no "div 0") (.ok (.i k (wrp k (a.tdiv b))))
 | .rem => cond (ieq b 0) (.no "rem 0") (.ok (.i k (a.tmod b)))
 | .and => match a, b with
  | .ofNat x, .ofNat y => bits k (Nat.land x y) x y
  | _, _ => .no "and"
 | .or => match a, b with
  | .ofNat x, .ofNat y => bits k (Nat.lor x y) x y
  | _, _ => .no "or"
 | .xor => match a, b with
  | .ofNat x, .ofNat y => bits k (Nat.xor x y) x y
  | _, _ => .no "xor"
 | op => match cmpI op a b with
  | some c => .ok (.b c)
  | none => .no "int op"
-- texts
def cat : List Pc → List Pc → List Pc
 | [], b => b
 | [.l n x], .l m y :: r => .l (n + m) (x * 256 ^ m + y % 256 ^ m) :: r
 | p :: a, b => p :: cat a b
def lit? : List Pc → Option (Nat × Nat)
 | [] => some (0, 0)
 | [.l n x] => some (n, x)
 | _ => none
def samePs : List Pc → List Pc → Bool
 | [], [] => true
 | .l n x :: a, .l m y :: b => Nat.beq n m && Nat.beq x y && samePs a b
 | .a i :: a, .a j :: b => Nat.beq i j && samePs a b
 | _, _ => false
def eqS (a b : List Pc) : Option Bool := match lit? a, lit? b with
 | some (n, x), some (m, y) => cond (Nat.blt x (256 ^ n) && Nat.blt y (256 ^ m)) (some (Nat.beq n m && Nat.beq x y)) none
 | _, _ => cond (samePs a b) (some true) none
def digs : Nat → Nat → List Nat → List Nat
 | 0, _, acc => acc
 | n + 1, x, acc => digs n (x / 256) (x % 256 :: acc)
def lessD : List Nat → List Nat → Bool
 | _, [] => false
 | [], _ :: _ => true
 | a :: x, b :: y => Nat.blt a b || (Nat.beq a b && lessD x y)
def ltS (a b : List Pc) : Option Bool := match lit? a, lit? b with
 | some (n, x), some (m, y) => some (lessD (digs n x []) (digs m y []))
 | _, _ => none
def lenS : List Pc → Nat × List Nat
 | [] => (0, [])
 | .l n _ :: r => let (c, us) := lenS r; (n + c, us)
 | .a j :: r => let (c, us) := lenS r; (c, j :: us)
def strOp (P : Pr) (op : BinOp) (a b : List Pc) : Res V := match op with
 | .add => cond (Nat.ble ((lenS a).1 + (lenS b).1 + (sumHi P (lenS a).2 + sumHi P (lenS b).2)) 1000000000) (.ok (.s (cat a b))) (.no "text +")
 | .eql => match eqS a b with | some c => .ok (.b c) | none => .no "text ="
 | .neq => match eqS a b with | some c => .ok (.b (!c)) | none => .no "text ≠"
 | .lss => match ltS a b with | some c => .ok (.b c) | none => .no "text <"
 | .geq => match ltS a b with | some c => .ok (.b (!c)) | none => .no "text ≥"
 | .gtr => match ltS b a with | some c => .ok (.b c) | none => .no "text >"
 | .leq => match ltS b a with | some c => .ok (.b (!c)) | none => .no "text ≤"
 | _ => .no "text op"
def lenV (ps : List Pc) : V := match lenS ps with
 | (c, []) => .i .i64 (.ofNat c)
 | (c, us) => .q .i64 (.ofNat c) us
def cellsD : List Nat → List V
 | [] => []
 | c :: r => .i .u8 (.ofNat c) :: cellsD r
def bytesL (n x : Nat) : List V := cellsD (digs n x [])
def numD : List Nat → Nat → Nat
 | [], x => x
 | c :: r, x => numD r (x * 256 + c)
def octet : V → Option Nat
 | .i .u8 (.ofNat c) => cond (Nat.blt c 256) (some c) none
 | _ => none
def numV : List V → Nat → Nat → Option (Nat × Nat)
 | [], n, x => some (n, x)
 | a :: r, n, x => match octet a with
  | some c => numV r (n + 1) (x * 256 + c)
  | none => none
def cmpQ (op : BinOp) (lo hi n : Int) : Option Bool :=
 match op with
 | .lss => cond (ilt hi n) (some true) (cond (ilt lo n) none (some false))
 | .geq => cond (ilt hi n) (some false) (cond (ilt lo n) none (some true))
 | .gtr => cond (ilt n lo) (some true) (cond (ilt n hi) none (some false))
 | .leq => cond (ilt n lo) (some false) (cond (ilt n hi) none (some true))
 | .eql => cond (ilt n lo || ilt hi n) (some false) none
 | .neq => cond (ilt n lo || ilt hi n) (some true) none
 | _ => none
-- memory
def cellsOf : V → List V
 | .g cs => cs
 | v => [v]
def putL : List V → Nat → List V → Option (List V)
 | L, 0, [] => some L
 | _ :: L, 0, v :: vs => (putL L 0 vs).map (v :: ·)
 | x :: L, k + 1, vs => (putL L k vs).map (x :: ·)
 | [], 0, _ :: _ => none
 | [], _ + 1, _ => none
def takeL : Nat → List V → Option (List V)
 | 0, _ => some []
 | n + 1, v :: L => (takeL n L).map (v :: ·)
 | _ + 1, [] => none
def dropL : Nat → List V → List V
 | 0, L => L
 | n + 1, _ :: L => dropL n L
 | _ + 1, [] => []
def isLeaf : V → Bool
 | .g _ | .u _ => false
 | _ => true
def allLeaf : List V → Bool
 | [] => true
 | v :: l => isLeaf v && allLeaf l
def loadN (σ : St) (k off n : Nat) : Res (St × List V) := match obj σ k with
 | .cells L _ _ _ => match takeL n (dropL off L) with
  | some vs => .ok (rd σ k, vs)
  | none => .no "load: no cells"
 | _ => .no "load: dead"
def storeN (σ : St) (k off : Nat) (vs : List V) : Res St := match obj σ k with
 | .cells L ty gr st => cond (allLeaf vs) (match putL L off vs with
  | some L' => .ok (wr σ k (.cells L' ty gr st))
  | none => .no "store: no cells") (.no "store: no leaf")
 | _ => .no "store: dead"
def ti (P : Pr) (t : TypeId) : Res TI := match P.ty.get none t with
 | some i => .ok i
 | none => .no "type"
def wholeOrOne (agg : Bool) (vs : List V) : Res V := cond agg (.ok (.g vs)) (match vs with | [v] => .ok v | _ => .no "one cell")
def loadT (P : Pr) (σ : St) (t : TypeId) (k off : Nat) : Res (St × V) :=
 (ti P t).bind fun i => (loadN σ k off i.sz).bind fun (σ, vs) => (wholeOrOne i.agg vs).bind fun v => .ok (σ, v)
def zeros (z : List V) : Nat → List V
 | 0 => []
 | n + 1 => z ++ zeros z n
def zc (i : TI) : Res (List V) := match i.z with
 | some l => cond (Nat.beq l.length i.sz) (.ok l) (.no "zero: size")
 | none => .no "zero"
def fieldsOf (i : TI) : Res (List Field) := match i.d with
 | .struct fs => .ok fs.toList
 | _ => .no "struct"
def natOf : V → Res Nat
 | .i _ (.ofNat n) => .ok n
 | _ => .no "nat"
def sliceOf (a : Option (Nat × Nat)) (l h m sz : Nat) : V := .sl (cond (Nat.beq m l) a (a.map fun (k, o) => (k, o + l * sz))) (h - l) (.k (m - l))
def firsts (σ : St) (sz n : Nat) : V → Res (St × List V)
 | .sl none _ _ => .ok (σ, [])
 | .sl (some (k, o)) _ _ => loadN σ k o (n * sz)
 | .sx _ _ _ _ _ => cond (Nat.beq n 0) (.ok (σ, [])) (.no "firsts")
 | .s ps => match lit? ps with
  | some (m, x) => cond (Nat.beq sz 1) (match takeL n (bytesL m x) with
   | some l => .ok (σ, l)
   | none => .no "octets") (.no "octets: size")
  | none => .no "octets"
 | _ => .no "firsts"
def lenOf : V → Res Nat
 | .sl _ n _ => .ok n
 | .sx _ _ _ _ _ => .ok 0
 | .s ps => match lit? ps with
  | some (m, _) => .ok m
  | none => .no "len of a text"
 | _ => .no "lenOf"
def fits (n bytes : Nat) : Bool := Nat.ble n 1000000 && Nat.ble bytes 1000000
def grow (σ : St) (e : TypeId) (st : Bool) (L : List V) (n : Nat) : St × V := let (σ, k) := new σ (.cells L e true st); (σ, .sl (some (k, 0)) n (.u 0))
def isSeq : TypeDesc → Bool
 | .slice _ | .string => true
 | _ => false
def appendU (σ : St) (e : TypeId) (sz : Nat) (k o len c n : Nat) (new' : List V) : Res (St × V) := match obj σ k with
 | .cells L ty true st => cond (Nat.beq ty e && Nat.beq o (c * sz)) (cond (Nat.ble (o + (len + n) * sz) L.length)
   (cond (Nat.beq n 0) (.ok (rd σ k, .sl (some (k, o)) len (.u c))) ((storeN σ k (o + len * sz) new').bind fun σ => .ok (σ, .sl (some (k, o)) (len + n) (.u c))))
   (cond (Nat.beq c 0) ((loadN σ k o (len * sz)).bind fun (σ, old) => .ok (grow (wr σ k .dead) e st (old ++ new') (len + n))) (.no "append: a part"))) (.no "append: another type")
 | _ => .no "append: dead"
def appendK (σ : St) (e : TypeId) (sz : Nat) (k o len c n : Nat) (new' : List V) : Res (St × V) := cond (Nat.ble (len + n) c)
  (cond (Nat.beq n 0) (.ok (σ, .sl (some (k, o)) len (.k c))) ((storeN σ k (o + len * sz) new').bind fun σ => .ok (σ, .sl (some (k, o)) (len + n) (.k c))))
  ((loadN σ k o (len * sz)).bind fun (σ, old) => .ok (grow σ e false (old ++ new') (len + n)))
def appendTo (σ : St) (e : TypeId) (sz : Nat) (a : Option (Nat × Nat)) (len : Nat) (cap : Cp) (n : Nat) (new' : List V) : Res (St × V) := match a with
 | none => cond (Nat.beq n 0) (.ok (σ, .sl none len cap)) (.ok (grow σ e false new' n))
 | some (k, o) => match cap with
  | .k c => appendK σ e sz k o len c n new'
  | .u c => appendU σ e sz k o len c n new'
def append (P : Pr) (σ : St) (sT xT : TypeId) (s x : V) : Res (St × V) :=
 (ti P sT).bind fun i => (ti P xT).bind fun ix => cond (isSeq ix.d) (match i.d, s with
 | .slice e, .sl a len cap =>
  (ti P e).bind fun ie => (zc ie).bind fun _ => (lenOf x).bind fun n => (firsts σ ie.sz n x).bind fun (σ, new') =>
  cond (fits (len + n) ie.bytes && Nat.blt 0 ie.sz) (appendTo σ e ie.sz a len cap n new') (.no "append: size")
 | _, _ => .no "append") (.no "append: what")
def copy (P : Pr) (σ : St) (dT : TypeId) (d s : V) : Res (St × V) :=
 (ti P dT).bind fun i => match i.d, d with
 | .slice e, .sl a dl _ =>
  (ti P e).bind fun ie => (lenOf s).bind fun sn =>
  let n := cond (Nat.ble sn dl) sn dl
  (firsts σ ie.sz n s).bind fun (σ, cs) =>
  match a with
  | none => .ok (σ, .i .i64 (.ofNat n))
  | some (k, o) => cond (Nat.beq n 0) (.ok (σ, .i .i64 (.ofNat n))) ((storeN σ k o cs).bind fun σ => .ok (σ, .i .i64 (.ofNat n)))
 | _, _ => .no "copy"
def bound (v : Option V) (d y : Nat) : Res Nat := match v with
 | none => .ok d
 | some v => (natOf v).bind fun n => cond (Nat.ble n y) (.ok n) (.no "slice bounds")
def bounds (len cap : Nat) (l h m : Option V) : Res (Nat × Nat × Nat) := (bound m cap cap).bind fun m' =>
  (match h, m with
   | none, some _ => (Res.no "slice: max without high" : Res Nat)
   | h, _ => bound h len m').bind fun h' => (bound l 0 h').bind fun l' => .ok (l', h', m')
def cutS (ps : List Pc) (l h m : Option V) : Res V := match lit? ps, m with
 | some (n, x), none => (bounds n n l h none).bind fun r => .ok (.s (lit (r.2.1 - r.1) (numD (((digs n x []).drop r.1).take (r.2.1 - r.1)) 0)))
 | _, _ => .no "part of a text"
def sliceU (σ : St) (k o len c sz lim : Nat) (l h m : Option V) : Res (St × V) := (bounds len lim l h m).bind fun r => match m with
 | some _ => .ok (σ, sliceOf (some (k, o)) r.1 r.2.1 r.2.2 sz)
 | none => cond (Nat.beq r.1 0) (.ok (σ, .sl (some (k, o)) r.2.1 (.u c))) (cond (Nat.blt r.1 lim) (.ok (σ, .sl (some (k, o + r.1 * sz)) (r.2.1 - r.1) (.u (c + r.1)))) (cond (Nat.beq r.2.1 r.1) (.ok (σ, .sx k o c r.1 sz)) (.no "slice: an end")))
def slice (P : Pr) (σ : St) (t : TypeId) (x : V) (l h m : Option V) : Res (St × V) :=
 (ti P t).bind fun i => match i.d, x with
 | .string, .s ps => (cutS ps l h m).bind fun v => .ok (σ, v)
 | .slice e, .sl a len (.k c) => (ti P e).bind fun ie => (bounds len c l h m).bind fun r => .ok (σ, sliceOf a r.1 r.2.1 r.2.2 ie.sz)
 | .slice e, .sl (some (k, o)) len (.u c) =>
  (ti P e).bind fun ie => match obj σ k with
  | .cells L ty true _ => cond (Nat.beq ty e && Nat.beq o (c * ie.sz) && Nat.blt 0 ie.sz) (sliceU (rd σ k) k o len c ie.sz ((L.length - o) / ie.sz) l h m) (.no "slice: type")
  | _ => .no "slice: dead"
 | .array n e, .p (some (k, o)) => (ti P e).bind fun ie => (bounds n n l h m).bind fun r => .ok (σ, sliceOf (some (k, o)) r.1 r.2.1 r.2.2 ie.sz)
 | _, _ => .no "slice"
def indexAt (P : Pr) (t : TypeId) (x ix : V) : Res V :=
 (ti P t).bind fun i => (natOf ix).bind fun j => match i.d, x with
 | .array n e, .p (some (k, o)) => (ti P e).bind fun ie => cond (Nat.blt j n) (.ok (.p (some (k, o + j * ie.sz)))) (.no "index")
 | .array n e, .gl g o => (ti P e).bind fun ie => cond (Nat.blt j n) (.ok (.gl g (o + j * ie.sz))) (.no "index")
 | .slice e, .sl (some (k, o)) n _ => (ti P e).bind fun ie => cond (Nat.blt j n) (.ok (.p (some (k, o + j * ie.sz)))) (.no "index")
 | .slice e, .wl r => (ti P e).bind fun ie => match P.win r with
  | some (_, cs) => cond (Nat.blt j cs.length && Nat.beq ie.sz 1) (.ok (.wp r j)) (.no "index")
  | none => .no "index"
 | _, _ => .no "indexAddr"
def index (P : Pr) (t : TypeId) (x ix : V) : Res V :=
 (ti P t).bind fun i => (natOf ix).bind fun j => match i.d, x with
 | .array n e, .g cs => (ti P e).bind fun ie => cond (Nat.blt j n) (match takeL ie.sz (dropL (j * ie.sz) cs) with | some vs => wholeOrOne ie.agg vs | none => .no "index") (.no "index")
 | .string, .s ps => match lit? ps with
  | some (n, y) => cond (Nat.blt j n) (.ok (.i .u8 (.ofNat (y / 256 ^ (n - 1 - j) % 256)))) (.no "index of a text")
  | none => .no "index of a text"
 | _, _ => .no "index"
def fieldOf (P : Pr) (t : TypeId) (x : V) (f : Nat) : Res V :=
 (ti P t).bind fun i => (fieldsOf i).bind fun fs => match fs[f]?, x with
 | some fd, .g cs => (ti P fd.type).bind fun ifd => match takeL ifd.sz (dropL fd.offset cs) with | some vs => wholeOrOne ifd.agg vs | none => .no "field"
 | _, _ => .no "field"
def fieldAt (P : Pr) (t : TypeId) (x : V) (f : Nat) : Res V :=
 (ti P t).bind fun i => (fieldsOf i).bind fun fs => match fs[f]?, x with
 | some fd, .p (some (k, o)) => (ti P fd.type).bind fun ifd => cond (Nat.beq ifd.sz 0) (.no "field of no size") (.ok (.p (some (k, o + fd.offset))))
 | _, _ => .no "fieldAddr"
def fillL (place : Nat → Option (Nat × Nat)) : List V → List (Nat × V) → Res (List V)
 | L, [] => .ok L
 | L, (i, v) :: r => match place i with
  | some (off, sz) => cond (Nat.beq (cellsOf v).length sz && allLeaf (cellsOf v)) (match putL L off (cellsOf v) with | some L' => fillL place L' r | none => .no "build") (.no "build: size")
  | none => .no "build: place"
def places (P : Pr) : List Field → Res (List (Nat × Nat))
 | [] => .ok []
 | f :: r => (ti P f.type).bind fun i => (places P r).bind fun l => .ok ((f.offset, i.sz) :: l)
def parts (fr : Fr) : List (Nat × Operand) → Res (List (Nat × V))
 | [] => .ok []
 | (i, x) :: r => (opnd fr x).bind fun v => (parts fr r).bind fun l => .ok ((i, v) :: l)
def build (P : Pr) (t : TypeId) (ps : List (Nat × V)) : Res V :=
 (ti P t).bind fun i => (zc i).bind fun z => match i.d with
 | .struct fs => (places P fs.toList).bind fun pl => (fillL (fun k => pl[k]?) z ps).bind fun L => .ok (.g L)
 | .array _ e => (ti P e).bind fun ie => (fillL (fun k => some (k * ie.sz, ie.sz)) z ps).bind fun L => .ok (.g L)
 | _ => .no "build"
def buildSlice (P : Pr) (σ : St) (t : TypeId) (len : Nat) (ps : List (Nat × V)) : Res (St × V) :=
 (ti P t).bind fun i => match i.d with
 | .slice e => (ti P e).bind fun ie => (zc ie).bind fun z => (fillL (fun k => some (k * ie.sz, ie.sz)) (zeros z len) ps).bind fun L =>
  cond (Nat.ble (len * ie.sz) 16777216) (let (σ, k) := new σ (.cells L e false false); .ok (σ, .sl (some (k, 0)) len (.k len))) (.no "buildSlice: size")
 | _ => .no "buildSlice"
def makeSlice (P : Pr) (σ : St) (t : TypeId) (l c : V) : Res (St × V) :=
 (ti P t).bind fun i => match i.d with
 | .slice e => (ti P e).bind fun ie => (zc ie).bind fun z => (natOf l).bind fun l => (natOf c).bind fun c =>
  cond (Nat.ble l c && Nat.ble (c * ie.bytes) 1000000000 && Nat.ble c 1000000000) (let (σ, k) := new σ (.cells (zeros z c) e false false); .ok (σ, .sl (some (k, 0)) l (.k c))) (.no "makeSlice: size")
 | _ => .no "makeSlice"
def toText (P : Pr) (σ : St) (e : TypeId) (x : V) : Res (St × V) := (ti P e).bind fun ie => match ie.d, x with
  | .int .u8, .sl none _ _ => .ok (σ, .s [])
  | .int .u8, .sx _ _ _ _ _ => .ok (σ, .s [])
  | .int .u8, .sl (some (k, o)) n _ => (loadN σ k o n).bind fun (σ, vs) => match numV vs 0 0 with
   | some (n, y) => .ok (σ, .s (lit n y))
   | none => .no "convert: octets"
  | _, _ => .no "convert to a text"
def toRow (P : Pr) (σ : St) (e : TypeId) (ps : List Pc) : Res (St × V) := (ti P e).bind fun ie => match ie.d, lit? ps with
  | .int .u8, some (n, y) => cond (Nat.beq ie.sz 1) (let (σ, k) := new σ (.cells (bytesL n y) e true true); .ok (σ, .sl (some (k, 0)) n (.u 0))) (.no "convert: size")
  | _, _ => .no "convert to octets"
def convert (P : Pr) (σ : St) (src dst : TypeId) (x : V) : Res (St × V) :=
 (ti P src).bind fun i => (ti P dst).bind fun j => match i.d, j.d, x with
 | .int _, .int k, .i _ n => .ok (σ, .i k (wrp k n))
 | .string, .string, .s ps => .ok (σ, .s ps)
 | .string, .slice e, .s ps => toRow P σ e ps
 | .slice e, .string, x => toText P σ e x
 | _, _, _ => .no "convert"
-- equality
def isConst : Operand → Bool
 | .const _ => true
 | _ => false
def eqV (P : Pr) (σ : St) (t : TypeId) (xo yo : Operand) (x y : V) : Res (St × Bool) := (ti P t).bind fun i => match i.d, x, y with
 | .bool, .b x, .b y => .ok (σ, x == y)
 | .pointer _, .p none, .p b => .ok (σ, b.isNone)
 | .pointer _, .p (some _), .p none => .ok (σ, false)
 | .pointer e, .p (some (k, o)), .p (some (k', o')) => (ti P e).bind fun ie => cond (Nat.beq ie.sz 0) (.no "== of no size") <|
   cond (Nat.beq k k') (.ok (σ, Nat.beq o o')) (match obj σ k, obj σ k' with
  | .cells _ _ _ false, .cells _ _ _ false => .ok (rd (rd σ k) k', false)
  | _, _ => .no "== pointers")
 | .slice _, .sl none _ _, .sl b _ _ => .ok (σ, b.isNone)
 | .slice _, .sl (some _) _ _, .sl none _ _ => .ok (σ, false)
 | .slice _, .sx _ _ _ _ _, .sl none _ _ => .ok (σ, false)
 | .map _ _, .m none, .m b => .ok (σ, b.isNone)
 | .map _ _, .m (some _), .m none => .ok (σ, false)
 | .func _ _ _, .nf, .nf => .ok (σ, true)
 | .func _ _ _, .nf, .f _ _ _ => .ok (σ, false)
 | .func _ _ _, .f _ _ _, .nf => .ok (σ, false)
 | .interface _, .ni, .ni => cond (isConst xo || isConst yo) (.ok (σ, true)) (.no "nil = nil")
 | .interface _, .ni, .t _ _ => .ok (σ, false)
 | .interface _, .t _ _, .ni => .ok (σ, false)
 | _, _, _ => .no "=="
def intBin (σ : St) (op : BinOp) (k : IntKind) (a : Int) (k' : IntKind) (b : Int) : Res (St × V) := match op with
 | .shl => match b with
  | .ofNat n => .ok (σ, .i k (wrp k (a * 2 ^ (min n k.bits))))
  | _ => .no "shl"
 | .shr => match b with
  | .ofNat n => .ok (σ, .i k (a.fdiv (2 ^ (min n k.bits))))
  | _ => .no "shr"
 | op => cond (beqK k k') ((intOp op k a b).bind fun v => .ok (σ, v)) (.no "binOp: kinds")
def qBin (P : Pr) (σ : St) (op : BinOp) (k : IntKind) (c : Int) (us : List Nat) (k' : IntKind) (b : Int) : Res (St × V) := cond (beqK k k') (match op with
  | .add => cond (ilt (-4000000000000000000) (c + b) && ilt (c + b + .ofNat (sumHi P us)) 4000000000000000000 && beqK k .i64) (.ok (σ, .q k (c + b) us)) (.no "q +")
  | op => match cmpQ op (c + .ofNat (sumLo P us)) (c + .ofNat (sumHi P us)) b with
   | some r => .ok (σ, .b r)
   | none => .no "q ?") (.no "binOp: kinds")
def flipB : BinOp → Option BinOp
 | .lss => some .gtr
 | .gtr => some .lss
 | .leq => some .geq
 | .geq => some .leq
 | .eql => some .eql
 | .neq => some .neq
 | _ => none
def iqBin (P : Pr) (σ : St) (op : BinOp) (k : IntKind) (b : Int) (k' : IntKind) (c : Int) (us : List Nat) : Res (St × V) := cond (beqK k k') (match op with
  | .add => cond (ilt (-4000000000000000000) (c + b) && ilt (c + b + .ofNat (sumHi P us)) 4000000000000000000 && beqK k .i64) (.ok (σ, .q k (c + b) us)) (.no "q +")
  | op => match flipB op with
  | some op' => match cmpQ op' (c + .ofNat (sumLo P us)) (c + .ofNat (sumHi P us)) b with
   | some r => .ok (σ, .b r)
   | none => .no "q ?"
  | none => .no "q") (.no "binOp: kinds")
def binOp0 (P : Pr) (σ : St) (op : BinOp) (t : TypeId) (xo yo : Operand) (x y : V) : Res (St × V) := match x with
 | .i k a => match y with
  | .i k' b => intBin σ op k a k' b
  | .q k' c us => iqBin P σ op k a k' c us
  | _ => .no "binOp"
 | .q k c us => match y with
  | .i k' b => qBin P σ op k c us k' b
  | _ => .no "binOp"
 | .s a => match y with
  | .s b => (strOp P op a b).bind fun v => .ok (σ, v)
  | _ => .no "binOp"
 | x => match op with
  | .eql => (eqV P σ t xo yo x y).bind fun (σ, c) => .ok (σ, .b c)
  | .neq => (eqV P σ t xo yo x y).bind fun (σ, c) => .ok (σ, .b (!c))
  | _ => .no "binOp"
def binOp (P : Pr) (σ : St) (op : BinOp) (t : TypeId) (xo yo : Operand) (x y : V) : Res (St × V) := match P.fact op x y with
 | some v => .ok (σ, v)
 | none => binOp0 P σ op t xo yo x y
def unOp (op : UnOp) : V → Res V
 | .b x => match op with | .not => .ok (.b (!x)) | _ => .no "unOp"
 | .i k n => match op, n with
  | .neg, n => .ok (.i k (wrp k (0 - n)))
  | .xor, .ofNat a => cond (!k.signed && Nat.blt a (2 ^ k.bits)) (.ok (.i k (wrp k (.ofNat (Nat.xor (2 ^ k.bits - 1) a))))) (.no "unOp ^")
  | _, _ => .no "unOp"
 | _ => .no "unOp"
-- maps
def eqKey (d : TypeDesc) (k k' : V) : Res Bool := match d, k, k' with
 | .string, .s a, .s b => match eqS a b with | some c => .ok c | none => .no "key: texts"
 | .int _, .i j a, .i j' b => cond (beqK j j') (.ok (ieq a b)) (.no "key: kinds")
 | _, _, _ => .no "map: key"
def isKey : TypeDesc → Bool
 | .string | .int _ => true
 | _ => false
def findK (d : TypeDesc) (k : V) : List (V × V × Nat) → Nat → Res (Option (Nat × V))
 | [], _ => .ok none
 | (k', v, _) :: r, j => (eqKey d k k').bind fun c => cond c (.ok (some (j, v))) (findK d k r (j + 1))
def setVal : List (V × V × Nat) → Nat → V → List (V × V × Nat)
 | [], _, _ => []
 | (k, _, n) :: r, 0, v => (k, v, n) :: r
 | e :: r, j + 1, v => e :: setVal r j v
def keyOf (P : Pr) (t : TypeId) : Res TypeDesc := (ti P t).bind fun i => match i.d with
 | .map kt _ => (ti P kt).bind fun ik => cond (isKey ik.d) (.ok ik.d) (.no "map: key's type")
 | _ => .no "map: type"
def mapUp (P : Pr) (σ : St) (t : TypeId) (m k v : V) : Res St := match m with
 | .m (some r) => (keyOf P t).bind fun d => match obj σ r with
  | .map es clock => (findK d k es 0).bind fun
   | some (j, _) => .ok (wr (rd σ r) r (.map (setVal es j v) clock))
   | none => .ok (wr (rd σ r) r (.map (es ++ [(k, v, clock)]) (clock + 1)))
  | _ => .no "map"
 | _ => .no "map: nil"
def zeroT (P : Pr) (t : TypeId) : Res V := (ti P t).bind fun i => (zc i).bind fun z => wholeOrOne i.agg z
def entriesOf (σ : St) : V → Res (St × List (V × V × Nat))
 | .m none => .ok (σ, [])
 | .m (some r) => match obj σ r with
  | .map es _ => .ok (rd σ r, es)
  | _ => .no "lookup: map"
 | _ => .no "lookup: map"
def lookup (P : Pr) (σ : St) (t : TypeId) (m k : V) (ok : Bool) : Res (St × V) :=
 (keyOf P t).bind fun d => (ti P t).bind fun i => match i.d with
 | .map _ e => (entriesOf σ m).bind fun (σ, es) => (findK d k es 0).bind fun
   | some (_, v) => .ok (σ, cond ok (.u [v, .b true]) v)
   | none => (zeroT P e).bind fun z => .ok (σ, cond ok (.u [z, .b false]) z)
 | _ => .no "lookup"
def anyNat (x : Nat) : List Nat → Bool
 | [] => false
 | y :: l => Nat.beq x y || anyNat x l
def nextV (σ : St) (k r since : Nat) (seen : List Nat) (last : Nat) (es : List (V × V × Nat)) (clock : Nat) : Res (St × V) :=
 cond (!seen.isEmpty && !es.isEmpty && es.all (fun e => Nat.ble last e.2.2)) (.no "next: all gone") <|
 match es.filter (fun e => !anyNat e.2.2 seen) with
 | [] => .ok (rd (rd σ k) r, .u [.b false])
 | [(key, v, born)] => cond (Nat.blt born since) (.ok (wr (rd σ r) k (.miter (some r) since (seen ++ [born]) clock), .u [.b true, key, v])) (.no "next: new")
 | _ => .no "next: a choice"
structure Ih where
 call : FuncId → List V → St → Res (St × V)
 exec : Option Nat → FuncId → Code → Fr → St → Res (St × Fr × Exit)
 scope : Option Nat → FuncId → Code → Code → Fr → St → Res (St × Fr × Exit)
def methodOf (P : Pr) (t : TypeId) (v : V) (name : String) : Res (FuncId × V) :=
 (ti P t).bind fun i => match i.methods.toList.find? (fun m => m.name == name) with
 | some m => match m.path.toList, m.func with
  | [], some (f, ptr) => match i.d, ptr with
   | .pointer _, true => .ok (f, v)
   | .pointer _, false => .no "method: value receiver behind a pointer"
   | _, true => .no "method: pointer receiver"
   | _, false => .ok (f, v)
  | _, _ => .no "method: path"
 | none => .no "method"
def callD (P : Pr) (ih : Ih) (σ : St) (f : FuncId) (args : List V) : Res (St × V) := match P.fn.get none f with
 | some fn => match fn.body with
  | some _ => ih.call f args σ
  | none => .no ("no body: " ++ fn.name)
 | none => .no "no function"
def callF (P : Pr) (ih : Ih) (σ : St) (f : FuncId) (args : List V) : Res (St × V) := match P.fn.get none f with
 | some fn => match fn.body with
  | some _ => match P.orn f args σ with
   | some x => .ok x
   | none => ih.call f args σ
  | none => .no ("no body: " ++ fn.name)
 | none => .no "no function"
def minF (P : Pr) (mx : Bool) (a b : V) : Option Bool := match P.fact .lss (cond mx a b) (cond mx b a) with
 | some (.b t) => some t
 | _ => none
def minI (P : Pr) (mx : Bool) : V → List V → Res V
 | v, [] => .ok v
 | .i k a, .i _ b :: r => minI P mx (.i k (cond (cond mx (ilt a b) (ilt b a)) b a)) r
 | .q k c us, .i k' b :: r => cond (beqK k k') (match cmpQ (cond mx .lss .gtr) (c + .ofNat (sumLo P us)) (c + .ofNat (sumHi P us)) b with
  | some t => minI P mx (cond t (.i k b) (.q k c us)) r
  | none => .no "min ?") (.no "min: kinds")
 | .i k a, .q k' c us :: r => cond (beqK k k') (match cmpQ (cond mx .gtr .lss) (c + .ofNat (sumLo P us)) (c + .ofNat (sumHi P us)) a with
  | some t => minI P mx (cond t (.q k c us) (.i k a)) r
  | none => .no "min ?") (.no "min: kinds")
 | .q k c us, .q k' c' us' :: r => cond (beqK k .i64 && beqK k' .i64) (match minF P mx (.q k c us) (.q k' c' us') with
  | some t => minI P mx (cond t (.q k' c' us') (.q k c us)) r
  | none => .no "min ?") (.no "min: kinds")
 | _, _ => .no "min, max"
def builtin (P : Pr) (σ : St) (b : Builtin) (ts : List TypeId) (args : List V) : Res (St × V) := match b, ts, args with
 | .len, t :: _, x :: _ => (ti P t).bind fun i => match i.d, x with
  | .string, .s ps => .ok (σ, lenV ps)
  | .array n _, _ => .ok (σ, .i .i64 (.ofNat n))
  | .slice _, .sl _ n _ => .ok (σ, .i .i64 (.ofNat n))
  | .slice _, .sx _ _ _ _ _ => .ok (σ, .i .i64 0)
  | .slice _, .wl r => match P.win r with
   | some (n, _) => .ok (σ, n)
   | none => .no "len"
  | .map _ _, .m none => .ok (σ, .i .i64 0)
  | .map _ _, .m (some r) => match obj σ r with
   | .map es _ => .ok (rd σ r, .i .i64 (.ofNat es.length))
   | _ => .no "len: map"
  | _, _ => .no "len"
 | .append, t :: t2 :: _, s :: x :: _ => append P σ t t2 s x
 | .copy, t :: _, d :: s :: _ => copy P σ t d s
 | .recover, _, _ => .ok (σ, .ni)
 | .min, _, x :: r => (minI P false x r).bind fun v => .ok (σ, v)
 | .max, _, x :: r => (minI P true x r).bind fun v => .ok (σ, v)
 | .clear, t :: _, .sl a n _ :: _ => (ti P t).bind fun i => match i.d, a with
  | _, none => .ok (σ, .u [])
  | .slice e, some (k, o) => cond (Nat.beq n 0) (.ok (σ, .u [])) ((ti P e).bind fun ie => (zc ie).bind fun z => (storeN σ k o (zeros z n)).bind fun σ => .ok (σ, .u []))
  | _, _ => .no "clear"
 | .cap, t :: _, .sl _ _ (.k c) :: _ => (ti P t).bind fun i => match i.d with
  | .slice _ => .ok (σ, .i .i64 (.ofNat c))
  | _ => .no "cap"
 | _, _, _ => .no "builtin"
def setParams (fr : Fr) : List Nat → List V → Res Fr
 | [], [] => .ok fr
 | t :: ts, v :: vs => (fr.put (some t) v).bind fun fr => setParams fr ts vs
 | _, _ => .no "yield: arguments"
def setLoop (σ : St) (l st : Nat) (pend : Option Code) : Res St := match obj σ l with
 | .loop _ _ f n fr ps as' bd dr => .ok (wr σ l (.loop st pend f n fr ps as' bd dr))
 | _ => .no "loop"
def busyLoop (σ : St) (l : Nat) : Res St := match obj σ l with
 | .loop 0 p f n fr ps as' bd dr => .ok (wr σ l (.loop 1 p f n fr ps as' bd dr))
 | _ => .no "loop: not ready"
def endRoundV (l : Nat) : St × Fr × Exit → Res (St × V)
 | (σ, _, .normal) => (setLoop σ l 0 none).bind fun σ => .ok (σ, .b true)
 | (σ, _, .exit id) => (setLoop σ l 2 (some (.exit id))).bind fun σ => .ok (σ, .b false)
 | (σ, _, .ret) => (setLoop σ l 2 (some .ret)).bind fun σ => .ok (σ, .b false)
 | _ => .no "round"
def yieldV (ih : Ih) (σ : St) (l : Nat) (args : List V) : Res (St × V) := match obj σ l with
 | .loop _ _ f n fr ps as' bd _ => (setParams ⟨n, fr, []⟩ ps args).bind fun fr1 => (ih.exec (some l) f as' fr1 (rd σ l)).bind fun
  | (σ, fr2, .normal) => (busyLoop σ l).bind fun σ => (ih.exec (some l) f bd fr2 σ).bind fun r => endRoundV l r
  | _ => .no "round: assign"
 | _ => .no "yield"
def callV (P : Pr) (ih : Ih) (σ : St) (f : V) (args : List V) : Res (St × V) := match f with
 | .f (.func f) fst cap => callF P ih σ f (fst ++ args ++ cap)
 | .f (.yield l) fst _ => yieldV ih σ l (fst ++ args)
 | _ => .no "call of a value"
def callFn (P : Pr) (ih : Ih) (σ : St) (f : V) (args : List V) : Res (St × V) := match f with
 | .f (.func f) fst cap => callF P ih σ f (fst ++ args ++ cap)
 | _ => .no "range over a value"
def optO (fr : Fr) : Option Operand → Res (Option V)
 | none => .ok none
 | some x => (opnd fr x).bind fun v => .ok (some v)
def isYield : Fn → Bool
 | .yield _ => true
 | _ => false
def oper (P : Pr) (ih : Ih) (fr : Fr) (σ : St) (o : Oper) : Res (St × V) := match o.op with
 | .move x | .assign x => (opnd fr x).bind fun v => .ok (σ, v)
 | .pick c a b => (opnd fr c).bind fun
  | .b t => (opnd fr (cond t a b)).bind fun v => .ok (σ, v)
  | _ => .no "pick"
 | .alloc t => (ti P t).bind fun i => (zc i).bind fun z => let (σ, k) := new σ (.cells z t false false); .ok (σ, .p (some (k, 0)))
 | .box t x => (opnd fr x).bind fun v => cond (allLeaf (cellsOf v)) (let (σ, k) := new σ (.cells (cellsOf v) t false false); .ok (σ, .p (some (k, 0)))) (.no "box")
 | .build t ps => (parts fr ps.toList).bind fun l => (build P t l).bind fun v => .ok (σ, v)
 | .buildSlice t n ps => (parts fr ps.toList).bind fun l => buildSlice P σ t n l
 | .load t x => (opnd fr x).bind fun
  | .p (some (k, o)) => loadT P σ t k o
  | .wp r j => (ti P t).bind fun i => cond (Nat.beq i.sz 1 && !i.agg) (match P.win r with
   | some (_, cs) => match cs[j]? with
    | some v => .ok (σ, v)
    | none => .no "load"
   | none => .no "load") (.no "load: size")
  | .gl g j => (ti P t).bind fun i => cond (Nat.beq i.sz 1 && !i.agg) (match P.win (g + 1) with
   | some (_, cs) => match cs[j]? with
    | some v => .ok (σ, v)
    | none => .no "load"
   | none => .no "load of a global") (.no "load: size")
  | _ => .no "load"
 | .store t x y => (opnd fr x).bind fun a => (opnd fr y).bind fun v => match a with
  | .p (some (k, o)) => (ti P t).bind fun i => cond (Nat.beq (cellsOf v).length i.sz) ((storeN σ k o (cellsOf v)).bind fun σ => .ok (σ, und)) (.no "store: size")
  | _ => .no "store"
 | .nilCheck x => (opnd fr x).bind fun
  | .p (some a) => .ok (σ, .p (some a))
  | .f fn a b => (match fn with | .method _ => .no "nilCheck of a method" | _ => .ok (σ, .f fn a b))
  | .t ty v => .ok (σ, .t ty v)
  | _ => .no "nilCheck"
 | .binOp op t x y _ => (opnd fr x).bind fun a => (opnd fr y).bind fun b => binOp P σ op t x y a b
 | .unOp op _ x => (opnd fr x).bind fun a => (unOp op a).bind fun v => .ok (σ, v)
 | .convert s d x => (opnd fr x).bind fun a => convert P σ s d a
 | .makeInterface t x => (opnd fr x).bind fun v => (ti P t).bind fun i => match i.d with
  | .interface _ => .no "makeInterface"
  | _ => .ok (σ, .t t v)
 | .makeFunc fn a b => cond (isYield fn) (.no "makeFunc") ((opnds fr a.toList).bind fun a => (opnds fr b.toList).bind fun b => .ok (σ, .f fn a b))
 | .makeMap _ none => let (σ, k) := new σ (.map [] 0); .ok (σ, .m (some k))
 | .makeMap t (some x) => (ti P t).bind fun i => match i.d with
  | .map _ _ => (opnd fr x).bind fun
   | .i _ _ => let (σ, k) := new σ (.map [] 0); .ok (σ, .m (some k))
   | _ => .no "makeMap: room"
  | _ => .no "makeMap"
 | .makeSlice t l c => (opnd fr l).bind fun l => (opnd fr c).bind fun c => makeSlice P σ t l c
 | .slice t x l h m => (opnd fr x).bind fun x => (optO fr l).bind fun l => (optO fr h).bind fun h => (optO fr m).bind fun m => slice P σ t x l h m
 | .fieldAddr t x f => (opnd fr x).bind fun x => (fieldAt P t x f).bind fun v => .ok (σ, v)
 | .field t x f => (opnd fr x).bind fun x => (fieldOf P t x f).bind fun v => .ok (σ, v)
 | .indexAddr t x i => (opnd fr x).bind fun x => (opnd fr i).bind fun i => (indexAt P t x i).bind fun v => .ok (σ, v)
 | .index t x i => (opnd fr x).bind fun x => (opnd fr i).bind fun i => (index P t x i).bind fun v => .ok (σ, v)
 | .lookup t x i ok => (opnd fr x).bind fun x => (opnd fr i).bind fun i => lookup P σ t x i ok
 | .mapUpdate t m k v | .insert t m k v => (opnd fr m).bind fun m => (opnd fr k).bind fun k => (opnd fr v).bind fun v => (mapUp P σ t m k v).bind fun σ => .ok (σ, und)
 | .extract x i => (opnd fr x).bind fun
  | .u vs => match vs[i]? with | some v => .ok (σ, v) | none => .no "extract"
  | _ => .no "extract"
 | .range t x => (opnd fr x).bind fun x => (ti P t).bind fun i => match i.d, x with
  | .map _ _, .m none => let (σ, k) := new σ (.miter none 0 [] 0); .ok (σ, .p (some (k, 0)))
  | .map _ _, .m (some r) => match obj σ r with
   | .map _ clock => let (σ, k) := new (rd σ r) (.miter (some r) clock [] clock); .ok (σ, .p (some (k, 0)))
   | _ => .no "range"
  | _, _ => .no "range"
 | .next x false => (opnd fr x).bind fun
  | .p (some (k, 0)) => match obj σ k with
   | .miter none _ _ _ => .ok (rd σ k, .u [.b false])
   | .miter (some r) since seen last => match obj σ r with
    | .map es clock => nextV σ k r since seen last es clock
    | _ => .no "next: map"
   | _ => .no "next"
  | _ => .no "next"
 | .call c => (opnds fr c.args.toList).bind fun args => match c.callee with
  | .builtin b => builtin P σ b c.argTypes.toList args
  | .value f => (opnd fr f).bind fun f => callV P ih σ f args
  | .invoke x name => (opnd fr x).bind fun
   | .t t v => (methodOf P t v name).bind fun (f, x) => callF P ih σ f (x :: args)
   | _ => .no "invoke"
 | .defer _ => .no "op defer"
 | .entry x => (opnd fr x).bind fun
  | .p (some (k, 0)) => match obj σ k with
   | .miter (some r) _ seen stepped => match obj σ r, seen.getLast? with
    | .map es clock, some st => cond (Nat.beq clock stepped) (match es.find? (fun e => Nat.beq e.2.2 st) with
     | some e => .ok (rd (rd σ k) r, .u [e.1, e.2.1])
     | none => .no "entry: gone") (.no "entry: an insertion")
    | _, _ => .no "entry"
   | _ => .no "entry"
  | _ => .no "entry"
 | .sliceToArrayPointer _ _ => .no "op sliceToArrayPointer"
 | .next _ true => .no "op next string"
 | .panic _ => .no "op panic"
 | .ready _ => .no "op ready"
 | .waits _ => .no "op waits"
 | _ => .no "op other"
-- regions
def wantedV (ops : List Oper) (fr : Fr) (o : Oper) : Bool := match o.guard with
 | none => true
 | some (j, w) => match ops[j]? with
  | some g => match g.dst with
   | some d => match fr.at d with
    | .b x => x == w
    | _ => false
   | none => false
  | none => false
def deferV (fr : Fr) (c : Call) : Res D := (opnds fr c.args.toList).bind fun args => match c.callee with
 | .value f => (opnd fr f).bind fun
  | .f (.func f) fst cap => .ok (.call f (fst ++ args ++ cap))
  | _ => .no "defer: a value"
 | _ => .no "defer"
def runOps (P : Pr) (ih : Ih) (rnd : Option Nat) (ops : List Oper) : List Oper → Fr → St → Res (St × Fr)
 | [], fr, σ => .ok (σ, fr)
 | o :: r, fr, σ => cond (wantedV ops fr o)
   (match o.op with
   | .defer c => match rnd with
    | none => (deferV fr c).bind fun d => ({ fr with ds := d :: fr.ds }.put o.dst und).bind fun fr => runOps P ih rnd ops r fr σ
    | some _ => .no "defer in a round"
   | _ => (oper P ih fr σ o).bind fun (σ, v) => (fr.put o.dst v).bind fun fr => runOps P ih rnd ops r fr σ)
   ((fr.put o.dst und).bind fun fr => runOps P ih rnd ops r fr σ)
def apart (m : Nat) : List (Nat × Nat) → Nat → Nat → Nat → Bool
 | [], _, _, _ => true
 | (r', w') :: l, j, r, w => (m.testBit j || (Nat.beq (Nat.land w' (Nat.lor r w)) 0 && Nat.beq (Nat.land w r') 0)) && apart m l (j + 1) r w
def readsT (ops : List Oper) (o : Oper) : List Nat := (match o.guard with
 | some (j, _) => ((ops[j]?).bind (·.dst)).toList
 | none => []) ++ o.op.operands.toList.filterMap fun | .tmp t => some t | _ => none
def slotsOk (ops : Array Oper) (ms : List Nat) (l : List (Oper × Nat)) : Bool :=
 l.all fun x => (readsT ops.toList x.1).all (fun t => l.all fun y => match y.1.dst with
   | some d => cond (Nat.beq d t) (cond (Nat.blt y.2 x.2) ((ms.getD x.2 0).testBit y.2) (Nat.blt x.2 y.2 && (ms.getD y.2 0).testBit x.2)) true
   | none => true)
def drawOk (ops : Array Oper) : Bool := Pm.backward ops && Pm.onceDst ops && slotsOk ops (Pm.masks ops) ops.toList.zipIdx
def runDrawn (P : Pr) (ih : Ih) (ops : List Oper) : List Oper → List Nat → List (Nat × Nat) → Fr → St → Res (St × Fr)
 | [], _, _, fr, σ => .ok (σ, fr)
 | o :: os, ms, fps, fr, σ => cond (wantedV ops fr o)
   ((oper P ih fr { σ with r := 0, w := 0 } o).bind fun (σ', v) =>
    cond (apart (ms.headD 0) fps 0 σ'.r σ'.w)
     ((fr.put o.dst v).bind fun fr => runDrawn P ih ops os ms.tail (fps ++ [(σ'.r, σ'.w)]) fr { σ' with r := Nat.lor σ.r σ'.r, w := Nat.lor σ.w σ'.w })
     (.no "drawn: not apart"))
   ((fr.put o.dst und).bind fun fr => runDrawn P ih ops os ms.tail (fps ++ [(0, 0)]) fr σ)
def exitOf : Code → Res Exit
 | .exit id => .ok (.exit id)
 | .ret => .ok .ret
 | _ => .no "jump"
def around (rnd : Option Nat) (fr : Fr) (σ : St) : Res (St × Nat × Fr) := match rnd with
 | none => let (σ, d) := new σ .defd; .ok (σ, d, { fr with ds := .mark d :: fr.ds })
 | some l => match obj σ l with
  | .loop _ _ _ _ _ _ _ _ d => .ok (rd σ l, d, fr)
  | _ => .no "rangeFunc: around"
def run (P : Pr) (ih : Ih) (rnd : Option Nat) (f : FuncId) (c : Code) (fr : Fr) (σ : St) : Res (St × Fr × Exit) := match c with
 | .skip | .label _ => .ok (σ, fr, .normal)
 | .region _ ops d => cond d
   (cond (drawOk ops) ((runDrawn P ih ops.toList ops.toList (Pm.masks ops) [] fr σ).bind fun (σ, fr) => .ok (σ, fr, .normal)) (.no "drawn: slots"))
   ((runOps P ih rnd ops.toList ops.toList fr σ).bind fun (σ, fr) => .ok (σ, fr, .normal))
 | .seq a b => (ih.exec rnd f a fr σ).bind fun
  | (σ, fr, .normal) => ih.exec rnd f b fr σ
  | r => .ok r
 | .cond x a b => (opnd fr x).bind fun
  | .b t => ih.exec rnd f (cond t a b) fr σ
  | _ => .no "cond"
 | .block id a => (ih.exec rnd f a fr σ).bind fun
  | (σ, fr, .exit j) => .ok (σ, fr, cond (Nat.beq j id) .normal (.exit j))
  | r => .ok r
 | .loop a => (ih.exec rnd f a fr σ).bind fun
  | (σ, fr, .normal) => ih.exec rnd f (.loop a) fr σ
  | r => .ok r
 | .exit id => .ok (σ, fr, .exit id)
 | .ret => .ok (σ, fr, .ret)
 | .rangeFunc g ps as' bd => (opnd fr g).bind fun gv =>
  (around rnd fr σ).bind fun (σ, d, fr) =>
  let (σ, l) := new σ (.loop 0 none f fr.n fr.t ps.toList as' bd d)
  (callFn P ih σ gv [.f (.yield l) [] []]).bind fun (σ, _) => match obj σ l with
  | .loop 0 none _ _ _ _ _ _ _ => .ok (wr σ l .dead, fr, .normal)
  | .loop 2 (some j) _ _ _ _ _ _ _ => (exitOf j).bind fun e => .ok (wr σ l .dead, fr, e)
  | _ => .no "rangeFunc"
 | .scope b => ih.scope rnd f b b fr σ
 | .goto l => .ok (σ, fr, .goto l)
 | _ => .no "code"
def runScope (ih : Ih) (rnd : Option Nat) (f : FuncId) (b c : Code) (fr : Fr) (σ : St) : Res (St × Fr × Exit) :=
 (ih.exec rnd f c fr σ).bind fun
 | (σ, fr, .goto l) => match findLabel b l with
  | some c => ih.scope rnd f b c fr σ
  | none => .ok (σ, fr, .goto l)
 | r => .ok r
def argsFr : List V → Nat → Fr → Res Fr
 | [], _, fr => .ok fr
 | v :: l, k, fr => (fr.put (some k) v).bind fun fr => argsFr l (k + 1) fr
def takeDs (P : Pr) (ih : Ih) (σ : St) : List D → Res St
 | [] => .ok σ
 | .mark d :: l => match obj σ d with
  | .defd => takeDs P ih (wr σ d .dead) l
  | _ => .no "mark"
 | .call f args :: l => (callD P ih σ f args).bind fun (σ, _) => takeDs P ih σ l
def resultsV (P : Pr) (fr : Fr) : List ResultVar → St → Res (St × List V)
 | [], σ => .ok (σ, [])
 | .tmp t :: r, σ => (resultsV P fr r σ).bind fun (σ, l) => .ok (σ, fr.at t :: l)
 | .cell a t :: r, σ => match fr.at a with
  | .p (some (k, o)) => (loadT P σ t k o).bind fun (σ, v) => (resultsV P fr r σ).bind fun (σ, l) => .ok (σ, v :: l)
  | _ => .no "result"
def endOk : Exit → Bool
 | .normal | .ret => true
 | _ => false
def one : List V → V
 | [v] => v
 | l => .u l
def runCall (P : Pr) (ih : Ih) (f : FuncId) (args : List V) (σ : St) : Res (St × V) := match P.fn.get none f with
 | some fn => match fn.body with
  | some c => (argsFr args 0 ⟨fn.ntmps, .e, []⟩).bind fun fr => (ih.exec none f c fr σ).bind fun (σ, fr, e) =>
   cond (endOk e) ((takeDs P ih σ fr.ds).bind fun σ => (resultsV P fr fn.results.toList σ).bind fun (σ, l) => .ok (σ, one l)) (.no "end")
  | none => .no "no body"
 | none => .no "no function"
def step (P : Pr) (ih : Ih) : Ih := ⟨fun f args σ => match P.orc f args σ with
 | some x => .ok x
 | none => runCall P ih f args σ, run P ih, runScope ih⟩
def ev (P : Pr) : Nat → Ih
 | 0 => ⟨fun _ _ _ => .no "fuel", fun _ _ _ _ _ => .no "fuel", fun _ _ _ _ _ _ => .no "fuel"⟩
 | n + 1 => step P (ev P n)
def tiOk (P : Program) (i : TypeInfo) : Option TI := match (tiOf P i).d with
 | .invalid => none
 | _ => some (tiOf P i)
def fnOk (fn : Func) : Option Func := cond (fn.name == "runtime.NumGoroutine") none (some fn)
def stay (o : FuncId → List V → Option V) (f : FuncId) (args : List V) (σ : St) : Option (St × V) := match o f args with
 | some v => some (σ, v)
 | none => none
def prSt (P : Program) (bnd : Nat → Nat × Nat) (win : Nat → Option (V × List V)) (orc orn : FuncId → List V → St → Option (St × V)) (fact : BinOp → V → V → Option V) : Pr := ⟨T.of 40 (P.types.toList.map (tiOk P)), T.of 40 (P.funcs.toList.map fnOk), bnd, win, orc, orn, fact⟩
def prAll (P : Program) (bnd : Nat → Nat × Nat) (win : Nat → Option (V × List V)) (orc orn : FuncId → List V → Option V) (fact : BinOp → V → V → Option V) : Pr := ⟨T.of 40 (P.types.toList.map (tiOk P)), T.of 40 (P.funcs.toList.map fnOk), bnd, win, stay orc, stay orn, fact⟩
def prOf (P : Program) (bnd : Nat → Nat × Nat) (win : Nat → Option (V × List V)) (orc : FuncId → List V → Option V) : Pr := prAll P bnd win orc (fun _ _ => none) (fun _ _ _ => none)
def st0 : St := ⟨.e, 0, 0, 0⟩
end
end Go.Eng
/- The evaluator's worlds, and what they say of the model's. -/
namespace Go.Eng
open Go Go.RowKit Go.Pm
-- trees
theorem T.get_e {α : Type} (d : α) (k : Nat) : (T.e : T α).get d k = d := rfl
theorem T.get_n {α : Type} (d v : α) (l r : T α) (k : Nat) : (T.n v l r).get d k = cond (Nat.beq k 0) v (cond (Nat.beq (k % 2) 1) (l.get d (k / 2)) (r.get d (k / 2 - 1))) := by
 show Bool.rec (motive := fun _ => α) (Bool.rec (motive := fun _ => α) (r.get d (k / 2 - 1)) (l.get d (k / 2)) (Nat.beq (k % 2) 1)) v (Nat.beq k 0) = _
 cases Nat.beq k 0 <;> cases Nat.beq (k % 2) 1 <;> rfl
theorem beq_of {a b : Nat} : Nat.beq a b = decide (a = b) := by
 by_cases h : a = b
 ·subst h; simp
 have : Nat.beq a b = false := Bool.eq_false_iff.2 fun e => h (Nat.eq_of_beq_eq_true e)
 rw [this]; simp [h]
theorem T.set_e {α : Type} (d : α) (f : Nat) (k : Nat) (v : α) : T.set d (f + 1) .e k v = cond (Nat.beq k 0) (.n v .e .e) (cond (Nat.beq (k % 2) 1) (.n d (T.set d f .e (k / 2) v) .e) (.n d .e (T.set d f .e (k / 2 - 1) v))) := by
 show Bool.rec (motive := fun _ => T α) (Bool.rec (motive := fun _ => T α) (.n d .e (T.set d f .e (k / 2 - 1) v)) (.n d (T.set d f .e (k / 2) v) .e) (Nat.beq (k % 2) 1)) (.n v .e .e) (Nat.beq k 0) = _
 cases Nat.beq k 0 <;> cases Nat.beq (k % 2) 1 <;> rfl
theorem T.set_n {α : Type} (d x : α) (l r : T α) (f : Nat) (k : Nat) (v : α) : T.set d (f + 1) (.n x l r) k v = cond (Nat.beq k 0) (.n v l r) (cond (Nat.beq (k % 2) 1) (.n x (T.set d f l (k / 2) v) r) (.n x l (T.set d f r (k / 2 - 1) v))) := by
 show Bool.rec (motive := fun _ => T α) (Bool.rec (motive := fun _ => T α) (.n x l (T.set d f r (k / 2 - 1) v)) (.n x (T.set d f l (k / 2) v) r) (Nat.beq (k % 2) 1)) (.n v l r) (Nat.beq k 0) = _
 cases Nat.beq k 0 <;> cases Nat.beq (k % 2) 1 <;> rfl
theorem T.get_set {α : Type} (d : α) : ∀ (f : Nat) (t : T α) (k j : Nat) (v : α), k < f → (t.set d f k v).get d j = if j = k then v else t.get d j := by
 intro f
 induction f with
 | zero => intro t k j v h; simp at h
 | succ f ih =>
  intro t k j v h
  have h1 : k % 2 = 1 → k / 2 < f := fun _ => by omega
  have h2 : k % 2 ≠ 1 → k ≠ 0 → k / 2 - 1 < f := fun _ _ => by omega
  cases t with
  | e =>
   by_cases k0 : k = 0
   ·subst k0
    by_cases j0 : j = 0
    ·subst j0; simp [T.set_e, T.get_n, T.get_e]
    simp [T.set_e, T.get_n, T.get_e, beq_of, j0]
   by_cases ko : k % 2 = 1
   ·have e1 : (T.e : T α).set d (f + 1) k v = .n d ((T.e : T α).set d f (k / 2) v) .e := by simp [T.set_e, beq_of, k0, ko]
    rw [e1]
    by_cases j0 : j = 0
    ·subst j0; simp [T.get_n, T.get_e, Ne.symm k0]
    by_cases jo : j % 2 = 1
    ·simp only [T.get_n, beq_of, j0, jo, decide_false, decide_true, cond_false, cond_true]
     rw [ih _ _ _ _ (h1 ko)]
     by_cases e : j = k
     ·subst e; simp
     rw [if_neg (by omega), if_neg e]; simp [T.get_e]
    have : j ≠ k := fun e => jo (e ▸ ko)
    simp [T.get_n, T.get_e, beq_of, j0, jo, this]
   have e1 : (T.e : T α).set d (f + 1) k v = .n d .e ((T.e : T α).set d f (k / 2 - 1) v) := by simp [T.set_e, beq_of, k0, ko]
   rw [e1]
   by_cases j0 : j = 0
   ·subst j0; simp [T.get_n, T.get_e, Ne.symm k0]
   by_cases jo : j % 2 = 1
   ·have : j ≠ k := fun e => ko (e ▸ jo)
    simp [T.get_n, T.get_e, beq_of, j0, jo, this]
   simp only [T.get_n, beq_of, j0, jo, decide_false, cond_false]
   rw [ih _ _ _ _ (h2 ko k0)]
   by_cases e : j = k
   ·subst e; simp
   rw [if_neg (by omega), if_neg e]; simp [T.get_e]
  | n x l r =>
   by_cases k0 : k = 0
   ·subst k0
    by_cases j0 : j = 0
    ·subst j0; simp [T.set_n, T.get_n]
    simp [T.set_n, T.get_n, beq_of, j0]
   by_cases ko : k % 2 = 1
   ·have e1 : (T.n x l r).set d (f + 1) k v = .n x (l.set d f (k / 2) v) r := by simp [T.set_n, beq_of, k0, ko]
    rw [e1]
    by_cases j0 : j = 0
    ·subst j0; simp [T.get_n, Ne.symm k0]
    by_cases jo : j % 2 = 1
    ·simp only [T.get_n, beq_of, j0, jo, decide_false, decide_true, cond_false, cond_true]
     rw [ih _ _ _ _ (h1 ko)]
     by_cases e : j = k
     ·subst e; simp
     rw [if_neg (by omega), if_neg e]
    have : j ≠ k := fun e => jo (e ▸ ko)
    simp [T.get_n, beq_of, j0, jo, this]
   have e1 : (T.n x l r).set d (f + 1) k v = .n x l (r.set d f (k / 2 - 1) v) := by simp [T.set_n, beq_of, k0, ko]
   rw [e1]
   by_cases j0 : j = 0
   ·subst j0; simp [T.get_n, Ne.symm k0]
   by_cases jo : j % 2 = 1
   ·have : j ≠ k := fun e => ko (e ▸ jo)
    simp [T.get_n, beq_of, j0, jo, this]
   simp only [T.get_n, beq_of, j0, jo, decide_false, cond_false]
   rw [ih _ _ _ _ (h2 ko k0)]
   by_cases e : j = k
   ·subst e; simp
   rw [if_neg (by omega), if_neg e]
-- what values mean
structure At where
  txt : Nat → List UInt8
  /-- the slices that were there: their blocks, places, lengths, capacities -/
  win : Nat → Nat × Nat × Nat × Nat
  wc : Nat → List V
  spot : Nat → Option Nat
  /-- a whole block that is known -/
  blk : Nat → Option Obj := fun _ => none
instance : CoeFun At fun _ => Nat → List UInt8 := ⟨At.txt⟩
abbrev Mu := Nat → Option (Nat × Nat)
def bytesP (α : At) : List Pc → List UInt8
 | [] => []
 | .l n x :: r => beOf n x ++ bytesP α r
 | .a j :: r => α j ++ bytesP α r
def lenP (α : At) : List Nat → Int
 | [] => 0
 | j :: r => ((α j).length : Int) + lenP α r
def concFn (μ : Mu) : Fn → Option Fn
 | .yield l => (μ l).map fun x => .yield x.1
 | f => some f
mutual
def conc (α : At) (μ : Mu) : V → Option Value
 | .b x => some (.bool x)
 | .i k n => some (.int k n)
 | .q k c us => some (.int k (c + lenP α us))
 | .s ps => some (.string ⟨(bytesP α ps).toArray⟩)
 | .p none => some (.pointer none)
 | .p (some (k, o)) => (μ k).map fun x => .pointer (some ⟨x.1, o, none⟩)
 | .sl none n c => match n, c with
  | 0, .k 0 => some (.slice none 0 0)
  | _, _ => none
 | .sl (some (k, o)) n (.k c) => (μ k).map fun x => .slice (some ⟨x.1, o, none⟩) n c
 | .sl (some (k, o)) n (.u e) => (μ k).map fun x => .slice (some ⟨x.1, o, none⟩) n (x.2 - e)
 | .sx k o e l sz => (μ k).map fun x => if x.2 - e = l then .slice (some ⟨x.1, o, none⟩) 0 0 else .slice (some ⟨x.1, o + l * sz, none⟩) 0 (x.2 - e - l)
 | .m none => some (.map none)
 | .m (some r) => (μ r).map fun x => .map (some x.1)
 | .f fn a b => match concFn μ fn, concL α μ a, concL α μ b with
  | some fn, some a, some b => some (.func fn a.toArray b.toArray)
  | _, _, _ => none
 | .nf => some .nilFunc
 | .t ty v => (conc α μ v).map (.iface ty)
 | .ni => some .nilIface
 | .g cs => (concL α μ cs).map fun l => .agg l.toArray
 | .u vs => (concL α μ vs).map fun l => .tuple l.toArray
 | .wl j => some (.slice (some ⟨(α.win j).1, (α.win j).2.1, α.spot j⟩) (α.win j).2.2.1 (α.win j).2.2.2)
 | .wp j i => some (.pointer (some ⟨(α.win j).1, (α.win j).2.1 + i, none⟩))
 | .gl g i => some (.pointer (some ⟨g, i, none⟩))
def concL (α : At) (μ : Mu) : List V → Option (List Value)
 | [] => some []
 | v :: l => match conc α μ v, concL α μ l with
  | some x, some y => some (x :: y)
  | _, _ => none
end
def Mu.Le (μ μ' : Mu) : Prop := ∀ k x, μ k = some x → μ' k = some x
theorem Mu.Le.refl (μ : Mu) : μ.Le μ := fun _ _ h => h
theorem Mu.Le.trans {a b c : Mu} (h : a.Le b) (h' : b.Le c) : a.Le c := fun k x e => h' k x (h k x e)
theorem map_mono {μ μ' : Mu} (h : μ.Le μ') {β : Type} {f : Nat × Nat → β} {k : Nat} {y : β} (e : (μ k).map f = some y) : (μ' k).map f = some y := by
 cases hk : μ k with
 | none => rw [hk] at e; cases e
 | some x => rw [hk] at e; rw [h k x hk]; exact e
theorem concFn_mono {μ μ' : Mu} (h : μ.Le μ') {f g : Fn} (e : concFn μ f = some g) : concFn μ' f = some g := by
 cases f with
 | yield l => exact map_mono h e
 | _ => exact e
mutual
theorem conc_mono {α : At} {μ μ' : Mu} (h : μ.Le μ') : ∀ (v : V) {x : Value}, conc α μ v = some x → conc α μ' v = some x
 | .b _, _, e => by simpa only [conc] using e
 | .i _ _, _, e => by simpa only [conc] using e
 | .q _ _ _, _, e => by simpa only [conc] using e
 | .s _, _, e => by simpa only [conc] using e
 | .p none, _, e => by simpa only [conc] using e
 | .p (some (k, o)), _, e => by simp only [conc] at e ⊢; exact map_mono h e
 | .sl none _ _, _, e => by simpa only [conc] using e
 | .sl (some (k, o)) _ (.k _), _, e => by simp only [conc] at e ⊢; exact map_mono h e
 | .sl (some (k, o)) _ (.u _), _, e => by simp only [conc] at e ⊢; exact map_mono h e
 | .sx _ _ _ _ _, _, e => by simp only [conc] at e ⊢; exact map_mono h e
 | .m none, _, e => by simpa only [conc] using e
 | .m (some _), _, e => by simp only [conc] at e ⊢; exact map_mono h e
 | .f fn a b, x, e => by
  simp only [conc] at e ⊢
  cases h1 : concFn μ fn with
  | none => rw [h1] at e; simp at e
  | some f' => cases h2 : concL α μ a with
   | none => rw [h1, h2] at e; simp at e
   | some a' => cases h3 : concL α μ b with
    | none => rw [h1, h2, h3] at e; simp at e
    | some b' =>
     rw [h1, h2, h3] at e
     rw [concFn_mono h h1, concL_mono h a h2, concL_mono h b h3]
     exact e
 | .nf, _, e => by simpa only [conc] using e
 | .t ty v, x, e => by
  simp only [conc] at e ⊢
  cases h1 : conc α μ v with
  | none => rw [h1] at e; simp at e
  | some y => rw [h1] at e; rw [conc_mono h v h1]; exact e
 | .ni, _, e => by simpa only [conc] using e
 | .g cs, x, e => by
  simp only [conc] at e ⊢
  cases h1 : concL α μ cs with
  | none => rw [h1] at e; simp at e
  | some y => rw [h1] at e; rw [concL_mono h cs h1]; exact e
 | .u cs, x, e => by
  simp only [conc] at e ⊢
  cases h1 : concL α μ cs with
  | none => rw [h1] at e; simp at e
  | some y => rw [h1] at e; rw [concL_mono h cs h1]; exact e
 | .wl _, _, e => by simpa only [conc] using e
 | .wp _ _, _, e => by simpa only [conc] using e
 | .gl _ _, _, e => by simpa only [conc] using e
theorem concL_mono {α : At} {μ μ' : Mu} (h : μ.Le μ') : ∀ (l : List V) {x : List Value}, concL α μ l = some x → concL α μ' l = some x
 | [], _, e => by simpa only [concL] using e
 | v :: l, x, e => by
  simp only [concL] at e ⊢
  cases h1 : conc α μ v with
  | none => rw [h1] at e; simp at e
  | some y => cases h2 : concL α μ l with
   | none => rw [h1, h2] at e; simp at e
   | some z => rw [h1, h2] at e; rw [conc_mono h v h1, concL_mono h l h2]; exact e
end
theorem concL_cons {α : At} {μ : Mu} {v : V} {l : List V} {xs : List Value} (h : concL α μ (v :: l) = some xs) : ∃ x ys, conc α μ v = some x ∧ concL α μ l = some ys ∧ xs = x :: ys := by
 simp only [concL] at h
 cases h1 : conc α μ v with
 | none => rw [h1] at h; simp at h
 | some y => cases h2 : concL α μ l with
  | none => rw [h1, h2] at h; simp at h
  | some z => rw [h1, h2] at h; exact ⟨y, z, rfl, rfl, (Option.some.inj h).symm⟩
theorem concL_mk {α : At} {μ : Mu} {v : V} {l : List V} {x : Value} {ys : List Value} (h1 : conc α μ v = some x) (h2 : concL α μ l = some ys) : concL α μ (v :: l) = some (x :: ys) := by
 simp only [concL, h1, h2]
theorem concL_length {α : At} {μ : Mu} : ∀ {l : List V} {xs : List Value}, concL α μ l = some xs → xs.length = l.length
 | [], xs, h => by simp only [concL, Option.some.injEq] at h; subst h; rfl
 | v :: l, xs, h => by
  obtain ⟨x, ys, h1, h2, rfl⟩ := concL_cons h
  simp [concL_length h2]
theorem concL_append {α : At} {μ : Mu} : ∀ {l m : List V} {xs ys : List Value}, concL α μ l = some xs → concL α μ m = some ys → concL α μ (l ++ m) = some (xs ++ ys)
 | [], m, xs, ys, h, h' => by simp only [concL, Option.some.injEq] at h; subst h; exact h'
 | v :: l, m, xs, ys, h, h' => by
  obtain ⟨x, zs, h1, h2, rfl⟩ := concL_cons h
  exact concL_mk h1 (concL_append h2 h')
-- memory
structure FrR (α : At) (μ : Mu) (n : Nat) (t : T V) (tmps : Array Value) : Prop where
 size : tmps.size = n
 at_ : ∀ k, conc α μ (T.get und t k) = some (tmps.getD k undef)
def stOf : Nat → Option LoopState
 | 0 => some .ready
 | 1 => some .busy
 | 2 => some .done
 | _ => none
def entsR (α : At) (μ : Mu) : List (V × V × Nat) → List MapEntry → Prop
 | [], [] => True
 | (k, v, n) :: l, e :: r => conc α μ k = some e.key ∧ conc α μ v = some e.val ∧ e.born = n ∧ entsR α μ l r
 | _, _ => False
def ObjR (P : Program) (α : At) (μ : Mu) (cap : Nat) : O → Obj → Prop
  | .dead, _ => True
  | .cells L ty gr st, o => ∃ (vs : List Value) (arr : Array Value) (fz : Nat × Nat), concL α μ L = some vs ∧ allLeaf L = true ∧ o = .cells arr ty fz ∧ (st = false → fz = (0, 0)) ∧ (∀ i, i < arr.size → ¬ (fz.1 ≤ i ∧ i < fz.2)) ∧
      (match gr with
       | false => arr.toList = vs
       | true => (∃ rest, arr.toList = vs ++ rest) ∧ ∃ i, P.info? ty = some i ∧ arr.size = cap * i.size)
  | .map es clock, o => ∃ l : List MapEntry, o = .map l.toArray clock ∧ entsR α μ es l
  | .miter r since seen last, o => (match r with
      | none => o = .mapIter none since seen.toArray last
      | some r => ∃ b x, μ r = some (b, x) ∧ o = .mapIter (some b) since seen.toArray last)
  | .loop st pend f n fr ps as' bd dr, o => ∃ s tmps b x, stOf st = some s ∧ FrR α μ n fr tmps ∧ μ dr = some (b, x) ∧ o = .loop { state := s, pending := pend, fn := f, tmps, params := ps.toArray, assign := as', body := bd, defers := b }
  | .defd, o => o = .deferred (some [])
structure Sim (P : Program) (α : At) (μ : Mu) (c : Nat → O) (w : World) : Prop where
 live : ∀ k, c k ≠ .dead → ∃ b cap o, μ k = some (b, cap) ∧ w.heap[b]? = some o ∧ ObjR P α μ cap (c k) o
 inj : ∀ j k b x y, c j ≠ .dead → c k ≠ .dead → μ j = some (b, x) → μ k = some (b, y) → j = k
 win : ∀ j i v, (α.wc j)[i]? = some v → ∃ x, conc α (fun _ => none) v = some x ∧ w.cell? ⟨(α.win j).1, (α.win j).2.1 + i, none⟩ = some x
 full : ∀ j o, α.blk j = some o → α.wc j ≠ [] → w.heap[(α.win j).1]? = some o
 sep : ∀ k b x, c k ≠ .dead → μ k = some (b, x) → ∀ j, α.wc j ≠ [] → b ≠ (α.win j).1
end Go.Eng
/- Steps of the evaluator's state, and of the model's world beside it. -/
namespace Go.Eng
open Go Go.RowKit Go.Pm
def Wf (σ : St) : Prop := ∀ k, σ.nx ≤ k → obj σ k = .dead
structure Tr (σ σ' : St) : Prop where
 r : ∀ k, σ.r.testBit k = true → σ'.r.testBit k = true
 w : ∀ k, σ.w.testBit k = true → σ'.w.testBit k = true
 nx : σ.nx ≤ σ'.nx
 un : ∀ k, σ'.w.testBit k = false → obj σ' k = obj σ k
 dead : ∀ k, k < σ.nx → obj σ k = .dead → obj σ' k = .dead
 born : ∀ k, σ.nx ≤ k → k < σ'.nx → σ'.w.testBit k = true
 wf : Wf σ → Wf σ'
theorem Tr.refl (σ : St) : Tr σ σ := ⟨fun _ h => h, fun _ h => h, Nat.le_refl _, fun _ _ => rfl, fun _ _ h => h, fun _ _ _ => by omega, fun h => h⟩
theorem Tr.trans {a b c : St} (h : Tr a b) (k : Tr b c) : Tr a c := by
 refine ⟨fun i e => k.r i (h.r i e), fun i e => k.w i (h.w i e), Nat.le_trans h.nx k.nx, fun i e => ?_, fun i hi e => k.dead i (Nat.lt_of_lt_of_le hi h.nx) (h.dead i hi e), fun i h1 h2 => ?_, fun x => k.wf (h.wf x)⟩
 ·have : b.w.testBit i = false := by
   cases hb : b.w.testBit i with
   | false => rfl
   | true => rw [k.w i hb] at e; cases e
  rw [k.un i e, h.un i this]
 by_cases hi : i < b.nx
 ·exact k.w i (h.born i h1 hi)
 exact k.born i (by omega) h2
def Sub (σ : St) (M : Nat → Prop) : Prop := ∀ k, (σ.r.testBit k = true ∨ σ.w.testBit k = true) → M k
theorem Sub.of_tr {σ σ' : St} {M : Nat → Prop} (h : Tr σ σ') (s : Sub σ' M) : Sub σ M := fun k hk => s k (hk.imp (h.r k) (h.w k))
structure Pre (P : Program) (α : At) (μ : Mu) (c : Nat → O) (σ : St) (w : World) (M : Nat → Prop) (N : Nat) : Prop where
 sim : Sim P α μ c w
 ag : ∀ k, M k → c k = obj σ k
 fresh : ∀ k, σ.nx ≤ k → k < N → μ k = none
structure Post (P : Program) (α : At) (μ : Mu) (c : Nat → O) (σ : St) (w : World) (μ' : Mu) (c' : Nat → O) (σ' : St) (w' : World) (M : Nat → Prop) (N : Nat) : Prop where
 pre : Pre P α μ' c' σ' w' M N
 out : ∀ k, (k < σ.nx ∨ σ'.nx ≤ k) → μ' k = μ k
 keep : ∀ k, σ'.w.testBit k = false → c' k = c k
 born : ∀ k b x, σ.nx ≤ k → k < σ'.nx → μ' k = some (b, x) → w.heap.size ≤ b ∨ ∃ j y, σ'.w.testBit j = true ∧ j < σ.nx ∧ c j ≠ .dead ∧ μ j = some (b, y)
 frame : ∀ b, b < w.heap.size → (∀ j y, σ'.w.testBit j = true → c j ≠ .dead → μ j = some (b, y) → False) → w'.heap[b]? = w.heap[b]?
 size : w.heap.size ≤ w'.heap.size
 os : w'.os = w.os
 tape : w'.tape = w.tape
 output : w'.output = w.output
variable {P : Program} {α : At} {μ μ' μ'' : Mu} {c c' c'' : Nat → O} {σ σ' σ'' : St} {w w' w'' : World} {M : Nat → Prop} {N : Nat}
theorem Post.refl (h : Pre P α μ c σ w M N) : Post P α μ c σ w μ c σ w M N :=
 ⟨h, fun _ _ => rfl, fun _ _ => rfl, fun _ _ _ _ _ _ => by omega, fun _ _ _ => rfl, Nat.le_refl _, rfl, rfl, rfl⟩
theorem Post.le (h : Pre P α μ c σ w M N) (hN : σ'.nx ≤ N) (h' : Post P α μ c σ w μ' c' σ' w' M N) : μ.Le μ' := by
 intro k x e
 by_cases hk : k < σ.nx ∨ σ'.nx ≤ k
 ·rw [h'.out k hk]; exact e
 rw [h.fresh k (by omega) (by omega)] at e; cases e
theorem Tr.bitF (h : Tr σ σ') {k : Nat} (e : σ'.w.testBit k = false) : σ.w.testBit k = false := by
 cases hb : σ.w.testBit k with
 | false => rfl
 | true => rw [h.w k hb] at e; cases e
theorem Post.live (h : Pre P α μ c σ w M N) (h1 : Post P α μ c σ w μ' c' σ' w' M N) (t1 : Tr σ σ') (hM : ∀ k, σ'.w.testBit k = true → M k) {j : Nat} (hj : j < σ.nx) (hc : c' j ≠ .dead) : c j ≠ .dead := by
 cases hb : σ'.w.testBit j with
 | false => rw [← h1.keep j hb]; exact hc
 | true =>
  have hm := hM j hb
  intro e
  rw [h.ag j hm] at e
  rw [h1.pre.ag j hm] at hc
  exact hc (t1.dead j hj e)
theorem Post.trans (h : Pre P α μ c σ w M N) (wf : Wf σ) (h1 : Post P α μ c σ w μ' c' σ' w' M N) (t1 : Tr σ σ') (h2 : Post P α μ' c' σ' w' μ'' c'' σ'' w'' M N) (t2 : Tr σ' σ'') (hM : Sub σ'' M) : Post P α μ c σ w μ'' c'' σ'' w'' M N := by
 have hM1 : ∀ k, σ'.w.testBit k = true → M k := fun k e => hM k (.inr (t2.w k e))
 have hlive := fun {j} => Post.live (j := j) h h1 t1 hM1
 refine ⟨h2.pre, fun k hk => ?_, fun k hk => ?_, fun k b x ha hb hx => ?_, fun b hb hn => ?_, Nat.le_trans h1.size h2.size, h2.os.trans h1.os, h2.tape.trans h1.tape, h2.output.trans h1.output⟩
 ·have n1 := t1.nx; have n2 := t2.nx
  rw [h2.out k (by omega), h1.out k (by omega)]
 ·rw [h2.keep k hk, h1.keep k (t2.bitF hk)]
 ·by_cases hk : k < σ'.nx
  ·rw [h2.out k (.inl hk)] at hx
   rcases h1.born k b x ha hk hx with h3 | ⟨j, y, h3, h4, h5, h6⟩
   ·exact .inl h3
   exact .inr ⟨j, y, t2.w j h3, h4, h5, h6⟩
  rcases h2.born k b x (by omega) hb hx with h3 | ⟨j, y, h3, h4, h5, h6⟩
  ·exact .inl (Nat.le_trans h1.size h3)
  by_cases hj : j < σ.nx
  ·exact .inr ⟨j, y, h3, hj, hlive hj h5, by rw [← h1.out j (.inl hj)]; exact h6⟩
  rcases h1.born j b y (by omega) h4 h6 with h7 | ⟨i, z, h7, h8, h9, h10⟩
  ·exact .inl h7
  exact .inr ⟨i, z, t2.w i h7, h8, h9, h10⟩
 have e1 : w'.heap[b]? = w.heap[b]? := h1.frame b hb (fun j y a1 a2 a3 => hn j y (t2.w j a1) a2 a3)
 rw [← e1]
 refine h2.frame b (Nat.lt_of_lt_of_le hb h1.size) (fun j y a1 a2 a3 => ?_)
 by_cases hj : j < σ.nx
 ·exact hn j y a1 (hlive hj a2) (by rw [← h1.out j (.inl hj)]; exact a3)
 by_cases hj' : j < σ'.nx
 ·rcases h1.born j b y (by omega) hj' a3 with h7 | ⟨i, z, h7, h8, h9, h10⟩
  ·omega
  exact hn i z (t2.w i h7) h9 h10
 have hm := hM j (.inr a1)
 rw [h1.pre.ag j hm, t1.wf wf j (by omega)] at a2
 exact a2 rfl
end Go.Eng
/- The evaluator's steps of memory: a read, a write, a new block; beside the model's. -/
namespace Go.Eng
open Go Go.RowKit Go.Pm
def upd {β : Type} (f : Nat → β) (k : Nat) (x : β) : Nat → β := fun j => if j = k then x else f j
theorem upd_same {β : Type} (f : Nat → β) (k : Nat) (x : β) : upd f k x k = x := by simp [upd]
theorem upd_ne {β : Type} (f : Nat → β) {k j : Nat} (x : β) (h : j ≠ k) : upd f k x j = f j := by simp [upd, h]
theorem bit_lor (a k j : Nat) : (Nat.lor a (2 ^ k)).testBit j = (a.testBit j || decide (j = k)) := by
 show (a ||| 2 ^ k).testBit j = _
 rw [Nat.testBit_or, Nat.testBit_two_pow]
 congr 1
 simp [eq_comm]
theorem obj_wr (σ : St) (k : Nat) (o : O) (j : Nat) : obj (wr σ k o) j = if j = k then o else obj σ j := by
 simp only [obj, wr]
 exact T.get_set _ _ _ _ _ _ (Nat.lt_succ_self k)
theorem obj_rd (σ : St) (k j : Nat) : obj (rd σ k) j = obj σ j := rfl
theorem obj_new (σ : St) (o : O) (j : Nat) : obj (new σ o).1 j = if j = σ.nx then o else obj σ j := by
 simp only [obj, new]
 exact T.get_set _ _ _ _ _ _ (Nat.lt_succ_self _)
theorem tr_rd (σ : St) (k : Nat) : Tr σ (rd σ k) :=
 ⟨fun j h => by show (Nat.lor σ.r (2 ^ k)).testBit j = true; rw [bit_lor, h]; rfl, fun _ h => h, Nat.le_refl _, fun _ _ => rfl, fun _ _ h => h, fun _ _ _ => by simp [rd] at *; omega, fun h => h⟩
theorem tr_wr {σ : St} {k : Nat} (o : O) (hl : obj σ k ≠ .dead) : Tr σ (wr σ k o) := by
 refine ⟨fun _ h => h, fun j h => ?_, Nat.le_refl _, fun j h => ?_, fun j _ h => ?_, fun j h1 h2 => ?_, fun h j hj => ?_⟩
 ·show (Nat.lor σ.w (2 ^ k)).testBit j = true; rw [bit_lor, h]; rfl
 ·change (Nat.lor σ.w (2 ^ k)).testBit j = false at h
  rw [bit_lor] at h
  rw [obj_wr, if_neg (by intro e; simp [e] at h)]
 ·rw [obj_wr]; split
  ·rename_i e; subst e; exact absurd h hl
  exact h
 ·simp [wr] at h2; omega
 have hj' : obj σ j = .dead := h j hj
 rw [obj_wr, if_neg (by intro e; subst e; exact hl hj')]; exact hj'
theorem tr_new (σ : St) (o : O) : Tr σ (new σ o).1 := by
 refine ⟨fun _ h => h, fun j h => ?_, Nat.le_succ _, fun j h => ?_, fun j h1 h => ?_, fun j h1 h2 => ?_, fun h j hj => ?_⟩
 ·show (Nat.lor σ.w (2 ^ σ.nx)).testBit j = true; rw [bit_lor, h]; rfl
 ·change (Nat.lor σ.w (2 ^ σ.nx)).testBit j = false at h
  rw [bit_lor] at h
  rw [obj_new, if_neg (by intro e; simp [e] at h)]
 ·rw [obj_new, if_neg (by omega)]; exact h
 ·have : j = σ.nx := by simp [new] at h2; omega
  subst this
  show (Nat.lor σ.w (2 ^ σ.nx)).testBit σ.nx = true
  rw [bit_lor]; simp
 have : σ.nx + 1 ≤ j := hj
 rw [obj_new, if_neg (by omega)]; exact h j (by omega)
theorem entsR_mono {α : At} {μ μ' : Mu} (h : μ.Le μ') : ∀ (l : List (V × V × Nat)) (r : List MapEntry), entsR α μ l r → entsR α μ' l r
 | [], [], _ => trivial
 | (_, _, _) :: l, _ :: r, hh => ⟨conc_mono h _ hh.1, conc_mono h _ hh.2.1, hh.2.2.1, entsR_mono h l r hh.2.2.2⟩
 | [], _ :: _, hh => hh.elim
 | _ :: _, [], hh => hh.elim
theorem FrR.mono {α : At} {μ μ' : Mu} {n : Nat} {t : T V} {tmps : Array Value} (h : μ.Le μ') (f : FrR α μ n t tmps) : FrR α μ' n t tmps :=
 ⟨f.size, fun k => conc_mono h _ (f.at_ k)⟩
theorem ObjR.mono {P : Program} {α : At} {μ μ' : Mu} (h : μ.Le μ') {cap : Nat} {O' : O} {o : Obj} (r : ObjR P α μ cap O' o) : ObjR P α μ' cap O' o := by
 cases O' with
 | dead => trivial
 | cells L ty gr st =>
  obtain ⟨vs, arr, fz, h1, h2⟩ := r
  exact ⟨vs, arr, fz, concL_mono h _ h1, h2⟩
 | map es clock =>
  obtain ⟨l, h1, h2⟩ := r
  exact ⟨l, h1, entsR_mono h _ _ h2⟩
 | miter r' since seen last =>
  cases r' with
  | none => exact r
  | some r' => obtain ⟨b, x, h1, h2⟩ := r; exact ⟨b, x, h _ _ h1, h2⟩
 | loop st pend f n fr ps as' bd dr =>
  obtain ⟨s, tmps, b, x, h1, h2, h3, h4⟩ := r
  exact ⟨s, tmps, b, x, h1, h2.mono h, h _ _ h3, h4⟩
 | defd => exact r
theorem cell_other {w w' : World} {b : Nat} {o : Nat} (h : w'.heap[b]? = w.heap[b]?) : w'.cell? ⟨b, o, none⟩ = w.cell? ⟨b, o, none⟩ := by
 unfold World.cell?
 rw [h]
theorem cell_lt {w : World} {b o : Nat} {x : Value} (h : w.cell? ⟨b, o, none⟩ = some x) : b < w.heap.size := by
 unfold World.cell? at h
 split at h
 ·rename_i h1; exact (Array.getElem?_eq_some_iff.1 h1).1
 cases h
section
variable {P : Program} {α : At} {μ μ' μ'' : Mu} {c c' c'' : Nat → O} {σ σ' σ'' : St} {w w' w'' : World} {M : Nat → Prop} {N : Nat} {k : Nat}
theorem Sim.winLt (h : Sim P α μ c w) {j : Nat} (hj : α.wc j ≠ []) : (α.win j).1 < w.heap.size := by
 cases hw : α.wc j with
 | nil => exact absurd hw hj
 | cons v l =>
  obtain ⟨x, -, hx⟩ := h.win j 0 v (by rw [hw]; rfl)
  exact cell_lt hx
theorem win_ne {j i : Nat} {v : V} (h : (α.wc j)[i]? = some v) : α.wc j ≠ [] := by
 intro e; rw [e] at h; simp at h
theorem Pre.get (h : Pre P α μ c σ w M N) (hk : M k) {x : O} (ho : obj σ k = x) (hd : x ≠ .dead) : ∃ b cap o, μ k = some (b, cap) ∧ w.heap[b]? = some o ∧ ObjR P α μ cap x o := by
 have e := h.ag k hk
 rw [ho] at e
 obtain ⟨b, cap, o, h1, h2, h3⟩ := h.sim.live k (by rw [e]; exact hd)
 exact ⟨b, cap, o, h1, h2, e ▸ h3⟩
theorem Post.rd (h : Pre P α μ c σ w M N) (k : Nat) : Post P α μ c σ w μ c (rd σ k) w M N :=
 ⟨⟨h.sim, fun j hj => h.ag j hj, fun j h1 h2 => h.fresh j h1 h2⟩, fun _ _ => rfl, fun _ _ => rfl, fun j b x h1 h2 _ => by simp [Eng.rd] at h2; omega, fun _ _ _ => rfl, Nat.le_refl _, rfl, rfl, rfl⟩
structure Wrote (w w' : World) (b : Nat) (o : Obj) : Prop where
 at_ : w'.heap[b]? = some o
 other : ∀ j, j ≠ b → w'.heap[j]? = w.heap[j]?
 size : w'.heap.size = w.heap.size
 os : w'.os = w.os
 tape : w'.tape = w.tape
 output : w'.output = w.output
theorem Post.wr (h : Pre P α μ c σ w M N) (hk : M k) (hl : obj σ k ≠ .dead) {b cap : Nat} (hμ : μ k = some (b, cap)) {o : Obj} (hw : Wrote w w' b o) {x : O} (hx : ObjR P α μ cap x o) :
  Post P α μ c σ w μ (upd c k x) (wr σ k x) w' M N := by
 have hc : c k ≠ .dead := by rw [h.ag k hk]; exact hl
 refine ⟨⟨⟨fun j hj => ?_, fun i j b' x' y' h1 h2 h3 h4 => ?_, fun j i v hv => (h.sim.win j i v hv).imp fun x hx => ⟨hx.1, by rw [cell_other (hw.other _ (Ne.symm (h.sim.sep k b cap hc hμ j (win_ne hv))))]; exact hx.2⟩, fun j o ho hj => by rw [hw.other _ (Ne.symm (h.sim.sep k b cap hc hμ j hj))]; exact h.sim.full j o ho hj, fun i b' x' h1 h2 => h.sim.sep i b' x' (by
  by_cases e : i = k
  ·subst e; exact hc
  rwa [upd_ne _ _ e] at h1) h2⟩, fun j hj => ?_, fun j h1 h2 => h.fresh j h1 h2⟩, fun _ _ => rfl, fun j hj => ?_, fun j b x h1 h2 _ => by simp [Eng.wr] at h2; omega, fun b' h1 h2 => ?_, by rw [hw.size]; exact Nat.le_refl _, hw.os, hw.tape, hw.output⟩
 ·by_cases e : j = k
  ·subst e
   rw [upd_same]
   exact ⟨b, cap, o, hμ, hw.at_, hx⟩
  rw [upd_ne _ _ e] at hj ⊢
  obtain ⟨b', cap', o', h1, h2, h3⟩ := h.sim.live j hj
  refine ⟨b', cap', o', h1, ?_, h3⟩
  rw [hw.other b' (fun e' => ?_)]
  ·exact h2
  subst e'; exact e (h.sim.inj j k b' cap' cap hj hc h1 hμ)
 ·have live : ∀ i, upd c k x i ≠ .dead → c i ≠ .dead := fun i hi => by
   by_cases e : i = k
   ·subst e; exact hc
   rwa [upd_ne _ _ e] at hi
  exact h.sim.inj i j b' x' y' (live i h1) (live j h2) h3 h4
 ·rw [obj_wr]
  by_cases e : j = k
  ·subst e; rw [upd_same, if_pos rfl]
  rw [upd_ne _ _ e, if_neg e]; exact h.ag j hj
 ·change (Nat.lor σ.w (2 ^ k)).testBit j = false at hj
  rw [bit_lor] at hj
  rw [upd_ne _ _ (by intro e; simp [e] at hj)]
 refine hw.other b' (fun e => ?_)
 subst e
 exact h2 k cap (by show (Nat.lor σ.w (2 ^ k)).testBit k = true; rw [bit_lor]; simp) hc hμ
theorem Post.kill (h : Pre P α μ c σ w M N) (hk : M k) : Post P α μ c σ w μ (upd c k .dead) (Eng.wr σ k .dead) w M N := by
 have live : ∀ i, upd c k .dead i ≠ .dead → c i ≠ .dead ∧ i ≠ k := fun i hi => by
  by_cases e : i = k
  ·subst e; rw [upd_same] at hi; exact absurd rfl hi
  rw [upd_ne _ _ e] at hi; exact ⟨hi, e⟩
 refine ⟨⟨⟨fun j hj => ?_, fun i j b' x' y' h1 h2 h3 h4 => h.sim.inj i j b' x' y' (live i h1).1 (live j h2).1 h3 h4, h.sim.win, h.sim.full, fun i b' x' h1 h2 => h.sim.sep i b' x' (live i h1).1 h2⟩, fun j hj => ?_, fun j h1 h2 => h.fresh j h1 h2⟩, fun _ _ => rfl, fun j hj => ?_, fun j b x h1 h2 _ => by simp [Eng.wr] at h2; omega, fun _ _ _ => rfl, Nat.le_refl _, rfl, rfl, rfl⟩
 ·obtain ⟨h1, h2⟩ := live j hj
  rw [upd_ne _ _ h2]
  exact h.sim.live j h1
 ·rw [obj_wr]
  by_cases e : j = k
  ·subst e; rw [upd_same, if_pos rfl]
  rw [upd_ne _ _ e, if_neg e]; exact h.ag j hj
 change (Nat.lor σ.w (2 ^ k)).testBit j = false at hj
 rw [bit_lor] at hj
 rw [upd_ne _ _ (by intro e; simp [e] at hj)]
structure Made (w w' : World) (o : Obj) : Prop where
 at_ : w'.heap[w.heap.size]? = some o
 other : ∀ j, j < w.heap.size → w'.heap[j]? = w.heap[j]?
 size : w.heap.size ≤ w'.heap.size
 os : w'.os = w.os
 tape : w'.tape = w.tape
 output : w'.output = w.output
theorem Pre.lt (h : Pre P α μ c σ w M N) {j b x : Nat} (hj : c j ≠ .dead) (hμ : μ j = some (b, x)) : b < w.heap.size := by
 obtain ⟨b', cap', o', h1, h2, -⟩ := h.sim.live j hj
 rw [h1] at hμ
 cases hμ
 exact (Array.getElem?_eq_some_iff.1 h2).1
theorem Post.new (h : Pre P α μ c σ w M N) (wf : Wf σ) (hM : M σ.nx) (hN : σ.nx + 1 ≤ N) {o : Obj} {cap : Nat} (hw : Made w w' o) {x : O} (hx : ObjR P α (upd μ σ.nx (some (w.heap.size, cap))) cap x o) :
  Post P α μ c σ w (upd μ σ.nx (some (w.heap.size, cap))) (upd c σ.nx x) (Eng.new σ x).1 w' M N ∧ μ.Le (upd μ σ.nx (some (w.heap.size, cap))) := by
 have hfr : μ σ.nx = none := h.fresh σ.nx (Nat.le_refl _) (by omega)
 have hle : μ.Le (upd μ σ.nx (some (w.heap.size, cap))) := fun j y hj => by
  rw [upd_ne _ _ (by intro e; subst e; rw [hfr] at hj; cases hj)]; exact hj
 have hcd : c σ.nx = .dead := by rw [h.ag _ hM]; exact wf _ (Nat.le_refl _)
 refine ⟨⟨⟨⟨fun j hj => ?_, fun i j b' x' y' h1 h2 h3 h4 => ?_, fun j i v hv => (h.sim.win j i v hv).imp fun x hx => ⟨hx.1, by rw [cell_other (hw.other _ (h.sim.winLt (win_ne hv)))]; exact hx.2⟩, fun j o ho hj => by rw [hw.other _ (h.sim.winLt hj)]; exact h.sim.full j o ho hj, fun i b' x' h1 h2 j hj => by
  by_cases e : i = σ.nx
  ·subst e
   rw [upd_same] at h2; cases h2
   exact Nat.ne_of_gt (h.sim.winLt hj)
  rw [upd_ne _ _ e] at h1 h2
  exact h.sim.sep i b' x' h1 h2 j hj⟩, fun j hj => ?_, fun j h1 h2 => ?_⟩, fun j hj => ?_, fun j hj => ?_, fun j b y h1 h2 hy => ?_, fun b' h1 _ => hw.other b' h1, hw.size, hw.os, hw.tape, hw.output⟩, hle⟩
 ·by_cases e : j = σ.nx
  ·subst e
   rw [upd_same, upd_same]
   exact ⟨_, cap, o, rfl, hw.at_, hx⟩
  rw [upd_ne _ _ e] at hj
  rw [upd_ne _ _ e, upd_ne _ _ e]
  obtain ⟨b', cap', o', h1, h2, h3⟩ := h.sim.live j hj
  exact ⟨b', cap', o', h1, by rw [hw.other b' (Array.getElem?_eq_some_iff.1 h2).1]; exact h2, h3.mono hle⟩
 ·by_cases e : i = σ.nx
  ·by_cases e' : j = σ.nx
   ·rw [e, e']
   subst e
   rw [upd_same] at h3; cases h3
   rw [upd_ne _ _ e'] at h2 h4
   exact absurd (h.lt h2 h4) (Nat.lt_irrefl _)
  by_cases e' : j = σ.nx
  ·subst e'
   rw [upd_same] at h4; cases h4
   rw [upd_ne _ _ e] at h1 h3
   exact absurd (h.lt h1 h3) (Nat.lt_irrefl _)
  rw [upd_ne _ _ e] at h1 h3
  rw [upd_ne _ _ e'] at h2 h4
  exact h.sim.inj i j b' x' y' h1 h2 h3 h4
 ·rw [obj_new]
  by_cases e : j = σ.nx
  ·subst e; rw [upd_same, if_pos rfl]
  rw [upd_ne _ _ e, if_neg e]; exact h.ag j hj
 ·have h1' : σ.nx + 1 ≤ j := h1
  rw [upd_ne _ _ (by omega)]
  exact h.fresh j (by omega) h2
 ·have : j ≠ σ.nx := by
   rcases hj with hj | hj
   ·omega
   have : σ.nx + 1 ≤ j := hj
   omega
  rw [upd_ne _ _ this]
 ·change (Nat.lor σ.w (2 ^ σ.nx)).testBit j = false at hj
  rw [bit_lor] at hj
  rw [upd_ne _ _ (by intro e; simp [e] at hj)]
 have : j = σ.nx := by
  have : j < σ.nx + 1 := h2
  omega
 subst this
 rw [upd_same] at hy; cases hy
 exact .inl (Nat.le_refl _)
theorem made_alloc (w : World) (o : Obj) : Made w (w.alloc o) o := ⟨heap_alloc_new w o, fun j hj => heap_old w o j hj, by show w.heap.size ≤ (w.heap.push o).size; simp, rfl, rfl, rfl⟩
end
end Go.Eng
/- The evaluator's tables, constants and frames, and what they say of the program's. -/
namespace Go.Eng
open Go Go.RowKit Go.Pm
theorem evens_get {β : Type} : ∀ (l : List β) (k : Nat), (evens l)[k]? = l[2 * k]?
 | [], k => by simp [evens]
 | [a], 0 => by simp [evens]
 | [a], k + 1 => by simp [evens]
 | a :: b :: l, 0 => by simp [evens]
 | a :: b :: l, k + 1 => by
  rw [show 2 * (k + 1) = 2 * k + 1 + 1 by omega]
  simp [evens, evens_get l k]
theorem odds_get {β : Type} : ∀ (l : List β) (k : Nat), (odds l)[k]? = l[2 * k + 1]?
 | [], k => by simp [odds]
 | [a], k => by simp [odds]
 | a :: b :: l, 0 => by simp [odds]
 | a :: b :: l, k + 1 => by
  rw [show 2 * (k + 1) + 1 = (2 * k + 1) + 1 + 1 by omega]
  simp [odds, odds_get l k]
theorem T.get_of {β : Type} (d : β) : ∀ (f : Nat) (l : List β) (k : Nat) (x : β), (T.of f l).get d k = x → x ≠ d → l[k]? = some x
 | 0, l, k, x, h, hx => by simp [T.of, T.get] at h; exact absurd h.symm hx
 | f + 1, [], k, x, h, hx => by simp [T.of, T.get] at h; exact absurd h.symm hx
 | f + 1, a :: l, k, x, h, hx => by
  simp only [T.of, T.get_n, beq_of] at h
  by_cases k0 : k = 0
  ·subst k0; simp at h; simp [h]
  by_cases ko : k % 2 = 1
  ·simp [k0, ko] at h
   have := T.get_of d f _ _ x h hx
   rw [evens_get] at this
   rw [show k = 2 * (k / 2) + 1 by omega]
   simpa using this
  simp [k0, ko] at h
  have := T.get_of d f _ _ x h hx
  rw [odds_get] at this
  rw [show k = (2 * (k / 2 - 1) + 1) + 1 by omega]
  simpa using this
structure PrOk (pr : Pr) (P : Program) : Prop where
 ty : ∀ t i, pr.ty.get none t = some i → ∃ inf, P.info? t = some inf ∧ i = tiOf P inf ∧ i.d ≠ .invalid
 fn : ∀ f x, pr.fn.get none f = some x → P.funcs[f]? = some x ∧ (x.name == "runtime.NumGoroutine") = false
theorem prStOk (P : Program) (bnd : Nat → Nat × Nat) (win : Nat → Option (V × List V)) (orc orn : FuncId → List V → St → Option (St × V)) (fact : BinOp → V → V → Option V) : PrOk (prSt P bnd win orc orn fact) P := by
 refine ⟨fun t i h => ?_, fun f x h => ?_⟩
 ·have := T.get_of none _ _ t (some i) h (by simp)
  simp only [List.getElem?_map, Option.map_eq_some_iff] at this
  obtain ⟨inf, h1, h2⟩ := this
  have h1' : P.types[t]? = some inf := by simpa using h1
  unfold tiOk at h2
  have hd : (tiOf P inf).d ≠ .invalid ∧ tiOf P inf = i := by
   split at h2
   ·cases h2
   rename_i hne; exact ⟨hne, Option.some.inj h2⟩
  refine ⟨inf, ?_, hd.2.symm, hd.2 ▸ hd.1⟩
  unfold Tables.info?
  rw [if_pos (Array.getElem?_eq_some_iff.1 h1').1]
  exact h1'
 have := T.get_of none _ _ f (some x) h (by simp)
 simp only [List.getElem?_map, Option.map_eq_some_iff] at this
 obtain ⟨y, h1, h2⟩ := this
 unfold fnOk at h2
 cases hb : (y.name == "runtime.NumGoroutine") with
 | true => rw [hb] at h2; cases h2
 | false =>
  rw [hb] at h2
  cases h2
  exact ⟨by simpa using h1, hb⟩
theorem prAllOk (P : Program) (bnd : Nat → Nat × Nat) (win : Nat → Option (V × List V)) (orc orn : FuncId → List V → Option V) (fact : BinOp → V → V → Option V) : PrOk (prAll P bnd win orc orn fact) P := prStOk P bnd win _ _ fact
theorem stay_no {x : St × V} (h : none = some x) : False := by cases h
theorem prOk (P : Program) (bnd : Nat → Nat × Nat) (win : Nat → Option (V × List V)) (orc : FuncId → List V → Option V) : PrOk (prOf P bnd win orc) P := prAllOk P bnd win orc _ _
theorem bind_ok {β γ : Type} {r : Res β} {f : β → Res γ} {x : γ} (h : r.bind f = .ok x) : ∃ y, r = .ok y ∧ f y = .ok x := by
 cases r with
 | ok y => exact ⟨y, rfl, h⟩
 | no s => cases h
theorem cond_ok {β : Type} {b : Bool} {x : Res β} {s : String} {y : β} (h : cond b x (.no s) = .ok y) : b = true ∧ x = .ok y := by
 cases b with
 | true => exact ⟨rfl, h⟩
 | false => cases h
structure TyOk (P : Program) (t : TypeId) (i : TI) : Prop where
 info : ∃ inf, P.info? t = some inf ∧ inf.size = i.sz ∧ inf.bytes = i.bytes ∧ inf.methods = i.methods ∧ (∀ z, i.z = some z → ∃ v, inf.zero = some v ∧ leaves v.cells.toList = some z ∧ (i.agg = true → v = .agg v.cells) ∧ (i.agg = false → v.cells = #[v]))
 und : i.d ≠ .invalid → P.underlying t = some i.d
 ok : P.underlying t = some i.d
 agg : i.agg = isAggD i.d
theorem zOf_ok {agg : Bool} {v : Value} {z : List V} (h : zOf agg v = some z) : leaves v.cells.toList = some z ∧ (agg = true → v = .agg v.cells) ∧ (agg = false → v.cells = #[v]) := by
 cases v with
 | agg cs =>
  cases agg with
  | true => exact ⟨h, fun _ => rfl, (fun e => by cases e)⟩
  | false => cases h
 | _ =>
  cases agg with
  | true => cases h
  | false => exact ⟨h, (fun e => by cases e), fun _ => rfl⟩
theorem ti_ok {pr : Pr} {P : Program} (hp : PrOk pr P) {t : TypeId} {i : TI} (h : ti pr t = .ok i) : TyOk P t i := by
 unfold ti at h
 split at h
 ·rename_i j hj
  cases h
  obtain ⟨inf, h1, rfl, hne⟩ := hp.ty t _ hj
  have und : (tiOf P inf).d ≠ .invalid → P.underlying t = some (tiOf P inf).d := by
   intro hd
   unfold Program.underlying
   simp only [tiOf] at hd ⊢
   rw [h1]
   clear hne hj h1
   obtain ⟨desc, _, _, _, _, _, _, _, _, _⟩ := inf
   cases desc with
   | named n u =>
    simp only at hd ⊢
    cases hu : P.info? u with
    | none => rw [hu] at hd; simp at hd
    | some j => simp
   | _ => rfl
  refine ⟨⟨inf, h1, rfl, rfl, rfl, fun z hz => ?_⟩, und, und hne, rfl⟩
  simp only [tiOf, Option.bind_eq_some_iff] at hz
  obtain ⟨v, h2, h3⟩ := hz
  exact ⟨v, h2, zOf_ok h3⟩
 cases h
-- constants
theorem numB_eq (l : List UInt8) : numB l = numOf l := rfl
theorem bytesP_lit (α : At) (n x : Nat) : bytesP α (lit n x) = beOf n x := by
 unfold lit
 rw [beq_of]
 by_cases h : n = 0
 ·subst h; simp [bytesP, beOf]
 simp [h, bytesP]
theorem arr_nil {β : Type} {a : Array β} (h : a.toList = []) : a = #[] := by
 cases a; simp at h; simp [h]
theorem leafOf_ok {α : At} {μ : Mu} {v : Value} {x : V} (h : leafOf v = some x) : conc α μ x = some v ∧ isLeaf x = true := by
 cases v with
 | bool b => cases h; exact ⟨by simp [conc], rfl⟩
 | int k n => cases h; exact ⟨by simp [conc], rfl⟩
 | string s =>
  cases h
  refine ⟨?_, rfl⟩
  simp only [conc]
  rw [bytesP_lit, numB_eq, be_numOf]
 | pointer a =>
  cases a with
  | none => cases h; exact ⟨by simp [conc], rfl⟩
  | some a => cases h
 | slice a n m =>
  cases a with
  | none =>
   cases n with
   | zero => cases m with
    | zero => cases h; exact ⟨by simp [conc], rfl⟩
    | succ m => cases h
   | succ n => cases h
  | some a => cases h
 | map a =>
  cases a with
  | none => cases h; exact ⟨by simp [conc], rfl⟩
  | some a => cases h
 | nilFunc => cases h; exact ⟨by simp [conc], rfl⟩
 | nilIface => cases h; exact ⟨by simp [conc], rfl⟩
 | func fn a b =>
  simp only [leafOf] at h
  split at h
  ·rename_i f ha hb
   cases h
   rw [arr_nil ha, arr_nil hb]
   exact ⟨by simp [conc, concL, concFn], rfl⟩
  cases h
 | _ => cases h
theorem leaves_ok {α : At} {μ : Mu} : ∀ {l : List Value} {xs : List V}, leaves l = some xs → concL α μ xs = some l ∧ allLeaf xs = true
 | [], xs, h => by simp only [leaves, Option.some.injEq] at h; subst h; exact ⟨by simp [concL], rfl⟩
 | v :: l, xs, h => by
  simp only [leaves] at h
  cases h1 : leafOf v with
  | none => rw [h1] at h; cases h
  | some x => cases h2 : leaves l with
   | none => rw [h1, h2] at h; cases h
   | some ys =>
    rw [h1, h2] at h
    cases h
    obtain ⟨h3, h4⟩ := leafOf_ok (α := α) (μ := μ) h1
    obtain ⟨h5, h6⟩ := leaves_ok (α := α) (μ := μ) h2
    exact ⟨concL_mk h3 h5, by simp [allLeaf, h4, h6]⟩
theorem ofVal_ok {α : At} {μ : Mu} {v : Value} {x : V} (h : ofVal v = some x) : conc α μ x = some v := by
 cases v with
 | agg cs =>
  simp only [ofVal, Option.map_eq_some_iff] at h
  obtain ⟨l, h1, rfl⟩ := h
  simp [conc, (leaves_ok h1).1]
 | tuple vs =>
  simp only [ofVal] at h
  split at h
  ·rename_i hv; cases h; rw [arr_nil hv]; simp [conc, concL]
  cases h
 | _ => exact (leafOf_ok (by simpa only [ofVal] using h)).1
-- frames
abbrev FrA (α : At) (μ : Mu) (fr : Fr) (a : Act) : Prop := FrR α μ fr.n fr.t a.tmps
theorem opnd_ok {α : At} {μ : Mu} {fr : Fr} {a : Act} (hf : FrA α μ fr a) {x : Operand} {v : V} (h : opnd fr x = .ok v) : conc α μ v = some (a.eval x) := by
 cases x with
 | tmp t => cases h; exact hf.at_ t
 | const c =>
  simp only [opnd] at h
  split at h
  ·rename_i y hy; cases h; exact ofVal_ok hy
  cases h
 | global g => cases h; simp [conc, Act.eval]
 | func f => cases h; simp [conc, concL, concFn, Act.eval]
theorem opnds_ok {α : At} {μ : Mu} {fr : Fr} {a : Act} (hf : FrA α μ fr a) : ∀ {l : List Operand} {vs : List V}, opnds fr l = .ok vs → concL α μ vs = some (l.map a.eval)
 | [], vs, h => by cases h; simp [concL]
 | x :: l, vs, h => by
  obtain ⟨v, h1, h2⟩ := bind_ok h
  obtain ⟨ws, h3, h4⟩ := bind_ok h2
  cases h4
  exact concL_mk (opnd_ok hf h1) (opnds_ok hf h3)
theorem put_ok {α : At} {μ : Mu} {fr fr' : Fr} {a : Act} (hf : FrA α μ fr a) {d : Option Nat} {v : V} {x : Value} (hv : conc α μ v = some x) (h : fr.put d v = .ok fr') : FrA α μ fr' (a.put d x) ∧ fr'.ds = fr.ds ∧ fr'.n = fr.n := by
 cases d with
 | none => cases h; exact ⟨hf, rfl, rfl⟩
 | some k =>
  simp only [Fr.put] at h
  obtain ⟨h1, h2⟩ := cond_ok h
  cases h2
  have hk : k < fr.n := by simpa [Nat.blt_eq] using h1
  refine ⟨⟨by simp [Act.put, hf.size], fun j => ?_⟩, rfl, rfl⟩
  show conc α μ (T.get und (T.set und (k + 1) fr.t k v) j) = _
  rw [T.get_set _ _ _ _ _ _ (Nat.lt_succ_self k)]
  by_cases e : j = k
  ·subst e
   rw [if_pos rfl, hv]
   simp [Act.put, Array.getD_eq_getD_getElem?, hf.size, hk]
  rw [if_neg e, hf.at_ j]
  simp [Act.put, Array.getD_eq_getD_getElem?, Array.getElem?_setIfInBounds_ne (Ne.symm e)]
end Go.Eng
/- The evaluator's loads and stores, beside the model's. -/
namespace Go.Eng
open Go Go.RowKit Go.Pm
theorem takeL_eq : ∀ (n : Nat) (L vs : List V), takeL n L = some vs → vs = L.take n ∧ n ≤ L.length
 | 0, L, vs, h => by simp only [takeL, Option.some.injEq] at h; subst h; exact ⟨by simp, Nat.zero_le _⟩
 | n + 1, [], vs, h => by simp [takeL] at h
 | n + 1, v :: L, vs, h => by
  simp only [takeL, Option.map_eq_some_iff] at h
  obtain ⟨r, h1, rfl⟩ := h
  obtain ⟨h2, h3⟩ := takeL_eq n L r h1
  exact ⟨by rw [h2]; simp, by simp; omega⟩
theorem dropL_eq : ∀ (n : Nat) (L : List V), dropL n L = L.drop n
 | 0, L => by simp [dropL]
 | n + 1, [] => by simp [dropL]
 | n + 1, v :: L => by simp [dropL, dropL_eq n L]
theorem putL_eq : ∀ (L : List V) (k : Nat) (vs L' : List V), putL L k vs = some L' → L' = L.take k ++ vs ++ L.drop (k + vs.length) ∧ k + vs.length ≤ L.length
 | L, 0, [], L', h => by
  have : L' = L := by cases L <;> simp_all [putL]
  subst this; exact ⟨by simp, by simp⟩
 | x :: L, 0, v :: vs, L', h => by
  simp only [putL, Option.map_eq_some_iff] at h
  obtain ⟨r, h1, rfl⟩ := h
  obtain ⟨h2, h3⟩ := putL_eq L 0 vs r h1
  refine ⟨?_, by simp at h3 ⊢; omega⟩
  rw [h2]; simp
 | x :: L, k + 1, vs, L', h => by
  simp only [putL, Option.map_eq_some_iff] at h
  obtain ⟨r, h1, rfl⟩ := h
  obtain ⟨h2, h3⟩ := putL_eq L k vs r h1
  refine ⟨?_, by simp at h3 ⊢; omega⟩
  rw [h2, show k + 1 + vs.length = k + vs.length + 1 by omega]; simp
 | [], 0, _ :: _, L', h => by simp [putL] at h
 | [], _ + 1, _, L', h => by simp [putL] at h
theorem concL_drop {α : At} {μ : Mu} : ∀ (k : Nat) {L : List V} {xs : List Value}, concL α μ L = some xs → concL α μ (L.drop k) = some (xs.drop k)
 | 0, _, _, h => by simpa using h
 | k + 1, [], xs, h => by simp only [concL, Option.some.injEq] at h; subst h; simp [concL]
 | k + 1, v :: L, xs, h => by
  obtain ⟨x, ys, h1, h2, rfl⟩ := concL_cons h
  simpa using concL_drop k h2
theorem concL_take {α : At} {μ : Mu} : ∀ (k : Nat) {L : List V} {xs : List Value}, concL α μ L = some xs → concL α μ (L.take k) = some (xs.take k)
 | 0, _, _, _ => by simp [concL]
 | k + 1, [], xs, h => by simp only [concL, Option.some.injEq] at h; subst h; simp [concL]
 | k + 1, v :: L, xs, h => by
  obtain ⟨x, ys, h1, h2, rfl⟩ := concL_cons h
  simpa using concL_mk h1 (concL_take k h2)
theorem allLeaf_iff : ∀ (L : List V), allLeaf L = true ↔ ∀ v ∈ L, isLeaf v = true
 | [] => by simp [allLeaf]
 | v :: L => by simp [allLeaf, allLeaf_iff L]
theorem leaf_one {α : At} {μ : Mu} {v : V} {x : Value} (hl : isLeaf v = true) (h : conc α μ v = some x) : x.oneCell' = true ∧ x.cells = #[x] := by
 cases v with
 | g cs => cases hl
 | u vs => cases hl
 | b x => simp only [conc, Option.some.injEq] at h; subst h; exact ⟨rfl, rfl⟩
 | i k n => simp only [conc, Option.some.injEq] at h; subst h; exact ⟨rfl, rfl⟩
 | q k c us => simp only [conc, Option.some.injEq] at h; subst h; exact ⟨rfl, rfl⟩
 | s ps => simp only [conc, Option.some.injEq] at h; subst h; exact ⟨rfl, rfl⟩
 | nf => simp only [conc, Option.some.injEq] at h; subst h; exact ⟨rfl, rfl⟩
 | wl _ => simp only [conc, Option.some.injEq] at h; subst h; exact ⟨rfl, rfl⟩
 | wp _ _ => simp only [conc, Option.some.injEq] at h; subst h; exact ⟨rfl, rfl⟩
 | gl _ _ => simp only [conc, Option.some.injEq] at h; subst h; exact ⟨rfl, rfl⟩
 | ni => simp only [conc, Option.some.injEq] at h; subst h; exact ⟨rfl, rfl⟩
 | p a =>
  rcases a with _ | ⟨k, o⟩
  ·simp only [conc, Option.some.injEq] at h; subst h; exact ⟨rfl, rfl⟩
  simp only [conc, Option.map_eq_some_iff] at h; obtain ⟨_, _, rfl⟩ := h; exact ⟨rfl, rfl⟩
 | m a =>
  rcases a with _ | k
  ·simp only [conc, Option.some.injEq] at h; subst h; exact ⟨rfl, rfl⟩
  simp only [conc, Option.map_eq_some_iff] at h; obtain ⟨_, _, rfl⟩ := h; exact ⟨rfl, rfl⟩
 | t ty v => simp only [conc, Option.map_eq_some_iff] at h; obtain ⟨_, _, rfl⟩ := h; exact ⟨rfl, rfl⟩
 | sx k o e l sz =>
  simp only [conc, Option.map_eq_some_iff] at h; obtain ⟨_, _, rfl⟩ := h
  split <;> exact ⟨rfl, rfl⟩
 | sl a n c =>
  rcases a with _ | ⟨k, o⟩
  ·simp only [conc] at h; split at h
   ·cases h; exact ⟨rfl, rfl⟩
   cases h
  cases c <;> (simp only [conc, Option.map_eq_some_iff] at h; obtain ⟨_, _, rfl⟩ := h; exact ⟨rfl, rfl⟩)
 | f fn a b =>
  simp only [conc] at h
  split at h
  ·cases h; exact ⟨rfl, rfl⟩
  cases h
theorem leaves_one {α : At} {μ : Mu} : ∀ {L : List V} {xs : List Value}, allLeaf L = true → concL α μ L = some xs → ∀ x ∈ xs, x.oneCell' = true
 | [], xs, _, h => by simp only [concL, Option.some.injEq] at h; subst h; simp
 | v :: L, xs, hl, h => by
  obtain ⟨x, ys, h1, h2, rfl⟩ := concL_cons h
  simp only [allLeaf, Bool.and_eq_true] at hl
  intro y hy
  cases List.mem_cons.1 hy with
  | inl e => subst e; exact (leaf_one hl.1 h1).1
  | inr e => exact leaves_one hl.2 h2 y e
theorem leaf_of_conc {α : At} {μ : Mu} {v : V} {x : Value} (h : conc α μ v = some x) (hc : (cellsOf v).length = x.cells.size → True) : concL α μ (cellsOf v) = some x.cells.toList ∨ ∃ vs, v = .u vs := by
 cases v with
 | g cs => simp only [conc, Option.map_eq_some_iff] at h; obtain ⟨l, h1, rfl⟩ := h; left; simpa [cellsOf, Value.cells] using h1
 | u vs => exact .inr ⟨vs, rfl⟩
 | _ => left; rw [(leaf_one rfl h).2]; exact concL_mk h (by simp [concL])
theorem run_storeCells_fz {P : Program} (g o : Nat) (t : TypeId) (fz : Nat × Nat) : ∀ (vs : List Value) (i : Nat) (cur : Array Value) (w : World), w.heap[g]? = some (.cells cur t fz) → (∀ j, j < cur.size → ¬ (fz.1 ≤ j ∧ j < fz.2)) → o + i + vs.length ≤ cur.size → (∀ v ∈ vs, v.oneCell' = true) →
  (storeCells ⟨g, o, none⟩ vs i).run P w = .ok () (w.setRow g (cur.toList.take (o + i) ++ vs ++ cur.toList.drop (o + i + vs.length)).toArray)
 | [], i, cur, w, hg, _, _, _ => by
  simp only [storeCells, List.append_nil, List.length_nil, Nat.add_zero, List.take_append_drop, Array.toArray_toList]
  rw [setRow_self w g cur t fz hg]
  rfl
 | v :: rest, i, cur, w, hg, hz, hl, h1 => by
  have hi : o + i < cur.size := by simp at hl; omega
  have hadd : (⟨g, o, none⟩ : Addr).add i = ⟨g, o + i, none⟩ := by unfold Addr.add; split <;> simp_all
  have hcell : w.cell? ⟨g, o + i, none⟩ = some cur[o + i] := by simp [World.cell?, hg, hi]
  have hfro : w.frozen? ⟨g, o + i, none⟩ = false := by
   have := hz (o + i) hi
   simp only [World.frozen?, hg]
   simpa using this
  have hst : (store ((⟨g, o, none⟩ : Addr).add i) v).run P w = .ok () (w.setRow g (cur.setIfInBounds (o + i) v)) := by
   rw [hadd, run_store P w _ v _ (h1 v (by simp)), hcell]
   simp [hfro, setCell_eq_setRow w g (o + i) cur t fz v hg]
  have ih := run_storeCells_fz (P := P) g o t fz rest (i + 1) (cur.setIfInBounds (o + i) v) (w.setRow g (cur.setIfInBounds (o + i) v)) (setRow_heap w g cur _ t _ hg) (by simpa using hz) (by simp at hl ⊢; omega) (fun x hx => h1 x (by simp [hx]))
  simp only [storeCells, Sem.run_bind, hst, Result.andThen_ok, ih, setRow_setRow]
  congr 3
  have e := list_seg_step cur.toList (o + i) v rest (by simp at hl ⊢; omega)
  simpa [Array.toList_setIfInBounds, Nat.add_assoc] using e
theorem wrote_setRow {w : World} {b : Nat} {cur : Array Value} {t : TypeId} {fz : Nat × Nat} (h : w.heap[b]? = some (.cells cur t fz)) (cs : Array Value) : Wrote w (w.setRow b cs) b (.cells cs t fz) := by
 refine ⟨setRow_heap w b cur cs t fz h, fun j hj => ?_, by simp [World.setRow], rfl, rfl, rfl⟩
 simp [World.setRow, Array.getElem?_modify, Ne.symm hj]
section
variable {P : Program} {α : At} {μ μ' μ'' : Mu} {c c' c'' : Nat → O} {σ σ' σ'' : St} {w w' w'' : World} {M : Nat → Prop} {N : Nat} {k : Nat}
theorem Pre.cells (h : Pre P α μ c σ w M N) (hk : M k) {L : List V} {ty : TypeId} {gr st : Bool} (ho : obj σ k = .cells L ty gr st) :
  ∃ b cap xs arr fz, μ k = some (b, cap) ∧ w.heap[b]? = some (.cells arr ty fz) ∧ concL α μ L = some xs ∧ allLeaf L = true ∧ (∀ i, i < arr.size → ¬ (fz.1 ≤ i ∧ i < fz.2)) ∧ (st = false → fz = (0, 0)) ∧ (∃ rest, arr.toList = xs ++ rest ∧ (gr = false → rest = [])) ∧
   (gr = true → ∃ i, P.info? ty = some i ∧ arr.size = cap * i.size) := by
 obtain ⟨b, cap, o, h1, h2, xs, arr, fz, h3, h4, rfl, h5, h6, h7⟩ := h.get hk ho (by simp)
 refine ⟨b, cap, xs, arr, fz, h1, h2, h3, h4, h6, h5, ?_, ?_⟩
 ·cases gr with
  | false => exact ⟨[], by simpa using h7, fun _ => rfl⟩
  | true => obtain ⟨⟨rest, h8⟩, -⟩ := h7; exact ⟨rest, h8, fun e => by cases e⟩
 intro e; subst e; exact h7.2
theorem cell_of {b : Nat} {arr : Array Value} {ty : TypeId} {fz : Nat × Nat} (h : w.heap[b]? = some (.cells arr ty fz)) (i : Nat) : w.cell? ⟨b, i, none⟩ = arr[i]? := by simp [World.cell?, h]
theorem loadN_ok {off n : Nat} {vs : List V} (h : Pre P α μ c σ w M N) (hs : Sub σ' M) (e : loadN σ k off n = .ok (σ', vs)) :
  σ' = rd σ k ∧ ∃ b cap xs, μ k = some (b, cap) ∧ concL α μ vs = some xs ∧ xs.length = n ∧ allLeaf vs = true ∧ (∀ j v, xs[j]? = some v → w.cell? ⟨b, off + j, none⟩ = some v) ∧ (loadCells ⟨b, off, none⟩ n).run P w = .ok xs.toArray w := by
 unfold loadN at e
 split at e
 ·rename_i L ty gr st ho
  split at e
  ·rename_i vs' hv
   cases e
   refine ⟨rfl, ?_⟩
   have hk : M k := hs k (.inl (by show (Nat.lor σ.r (2 ^ k)).testBit k = true; rw [bit_lor]; simp))
   obtain ⟨b, cap, xs, arr, fz, h1, h2, h3, h4, h5, -, ⟨rest, h6, -⟩, -⟩ := h.cells hk ho
   rw [dropL_eq] at hv
   obtain ⟨rfl, h7⟩ := takeL_eq _ _ _ hv
   have hc := concL_take n (concL_drop off h3)
   have hl := concL_length h3
   have hlen : ((xs.drop off).take n).length = n := by simp at h7 ⊢; omega
   have hcell : ∀ j v, ((xs.drop off).take n)[j]? = some v → w.cell? ⟨b, off + j, none⟩ = some v := by
    intro j v hj
    rw [cell_of h2, ← Array.getElem?_toList, h6]
    obtain ⟨hj1, -⟩ := List.getElem?_eq_some_iff.1 hj
    rw [List.getElem?_take_of_lt (by omega), List.getElem?_drop] at hj
    rw [List.getElem?_append_left (by have := (List.getElem?_eq_some_iff.1 hj).1; exact this)]
    exact hj
   refine ⟨b, cap, _, h1, hc, hlen, ?_, hcell, ?_⟩
   ·rw [allLeaf_iff] at h4 ⊢
    exact fun v hv => h4 v (List.mem_of_mem_drop (List.mem_of_mem_take hv))
   have := run_loadCells_list (P := P) w ⟨b, off, none⟩ ((xs.drop off).take n) (fun j v hj => by
    have : (⟨b, off, none⟩ : Addr).add j = ⟨b, off + j, none⟩ := by unfold Addr.add; split <;> simp_all
    rw [this]; exact hcell j v hj)
   rwa [hlen] at this
  cases e
 cases e
theorem storeN_ok {off : Nat} {vs : List V} {xs : List Value} (h : Pre P α μ c σ w M N) (hs : Sub σ' M) (e : storeN σ k off vs = .ok σ') (hx : concL α μ vs = some xs) :
  Tr σ σ' ∧ ∃ b cap w' c', μ k = some (b, cap) ∧ (storeCells ⟨b, off, none⟩ xs).run P w = .ok () w' ∧ Post P α μ c σ w μ c' σ' w' M N := by
 unfold storeN at e
 split at e
 ·rename_i L ty gr st ho
  obtain ⟨hl, e⟩ := cond_ok e
  split at e
  ·rename_i L' hp
   cases e
   have hd : obj σ k ≠ .dead := by rw [ho]; simp
   refine ⟨tr_wr _ hd, ?_⟩
   have hk : M k := hs k (.inr (by show (Nat.lor σ.w (2 ^ k)).testBit k = true; rw [bit_lor]; simp))
   obtain ⟨b, cap, ys, arr, fz, h1, h2, h3, h4, h5, h5', ⟨rest, h6, h6'⟩, h7⟩ := h.cells hk ho
   obtain ⟨rfl, h8⟩ := putL_eq _ _ _ _ hp
   have hly := concL_length h3
   have hlx := concL_length hx
   have hsz : arr.size = ys.length + rest.length := by rw [← Array.length_toList, h6, List.length_append]
   have hst := run_storeCells_fz (P := P) b off ty fz xs 0 arr w h2 h5 (by omega) (leaves_one hl hx)
   have hw := wrote_setRow h2 (arr.toList.take (off + 0) ++ xs ++ arr.toList.drop (off + 0 + xs.length)).toArray
   refine ⟨b, cap, _, _, h1, hst, Post.wr h hk hd h1 hw ?_⟩
   refine ⟨ys.take off ++ xs ++ ys.drop (off + xs.length), _, fz, ?_, ?_, rfl, h5', ?_, ?_⟩
   ·rw [← hlx]
    exact concL_append (concL_append (concL_take off h3) hx) (concL_drop _ h3)
   ·rw [allLeaf_iff] at h4 hl ⊢
    intro v hv
    simp only [List.mem_append] at hv
    rcases hv with (hv | hv) | hv
    ·exact h4 v (List.mem_of_mem_take hv)
    ·exact hl v hv
    exact h4 v (List.mem_of_mem_drop hv)
   ·intro i hi
    refine h5 i ?_
    simp at hi
    omega
   have e1 : arr.toList.take (off + 0) ++ xs ++ arr.toList.drop (off + 0 + xs.length) = ys.take off ++ xs ++ ys.drop (off + xs.length) ++ rest := by
    rw [h6, Nat.add_zero, List.take_append_of_le_length (by omega), List.drop_append_of_le_length (by omega)]
    simp [List.append_assoc]
   cases gr with
   | false =>
    show (arr.toList.take (off + 0) ++ xs ++ arr.toList.drop (off + 0 + xs.length)) = _
    rw [e1, h6' rfl, List.append_nil]
   | true =>
    refine ⟨⟨rest, e1⟩, ?_⟩
    obtain ⟨i, h9, h10⟩ := h7 rfl
    refine ⟨i, h9, ?_⟩
    rw [← h10]
    have := congrArg List.length e1
    simp at this ⊢
    omega
  cases e
 cases e
end
end Go.Eng
