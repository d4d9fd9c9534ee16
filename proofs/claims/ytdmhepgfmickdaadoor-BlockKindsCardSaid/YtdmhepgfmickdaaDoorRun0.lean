/- Texts of this claim, one behind the other: a machine over plain data, and that it is the model's. -/
import Derived.OrdersHeld
import Derived.Below
import Derived.RowKit3
import Derived.Laws.Entries
import Derived.Laws.CopyRow
import Derived.Laws.MakeOwn
import Derived.Laws.NewFold
import Derived.Laws.StructEq
import Derived.Laws.Append
set_option linter.constructorNameAsVariable false
set_option linter.unusedSimpArgs false
set_option linter.unusedVariables false
set_option linter.unusedSectionVars false
namespace Go.Rk
open Go

inductive V where
  | u
  | b (x : Bool)
  | i (k : IntKind) (x : Int)
  | p (o : Option (Nat × Nat))
  | q (l : List V) (off : Nat) (pl : Bool)
  | s (o : Option (Nat × Nat)) (n : Nat)
  | r (l : List V) (n : Nat) (pl : Bool)
  | f (fn : Nat) (x y : List V)
  | z
  | m (id : Nat)
  | a (l : List V)
  | t (l : List V)
  | tx (s : ByteArray)
instance : Inhabited V := ⟨.u⟩

inductive O where
  | row (l : List V) (k sz : Nat) (w o : Bool) (sib : Option Nat)
  | map (es : List (V × V))

abbrev Hp := Nat → Option O
def Hp.set (h : Hp) (x : Nat) (o : Option O) : Hp := fun y => if y = x then o else h y
def Hp.sets (h : Hp) : List (Nat × Option O) → Hp
  | [] => h
  | (x, o) :: us => (h.set x o).sets us
def ofL (l : List O) : Hp := fun x => l[x]?

/-- Reading objects, and noting which. -/
inductive Rd (α : Type) where
  | ret (a : α)
  | get (x : Nat) (k : Option O → Rd α)
  | bad
def Rd.bind {α β : Type} : Rd α → (α → Rd β) → Rd β
  | .ret a, f => f a
  | .get x k, f => .get x fun o => (k o).bind f
  | .bad, _ => .bad
instance : Monad Rd where
  pure := .ret
  bind := Rd.bind
def Rd.run {α : Type} : Rd α → Hp → Option (α × List Nat)
  | .ret a, _ => some (a, [])
  | .get x k, h => match (k (h x)).run h with
    | some (a, R) => some (a, x :: R)
    | none => none
  | .bad, _ => none
def Rd.of {α : Type} : Option α → Rd α
  | some a => .ret a
  | none => .bad
def Rd.row (x : Nat) : Rd (List V × Nat × Nat × Bool × Bool × Option Nat) := .get x fun
  | some (.row l k sz w o sib) => .ret (l, k, sz, w, o, sib)
  | _ => .bad

def V.cells : V → List V
  | .a l => l
  | v => [v]
/-- One cell, and known. -/
def V.one : V → Bool
  | .u | .a _ | .t _ => false
  | _ => true
def V.ok : V → Bool
  | .u | .t _ => false
  | .a l => l.all V.one
  | _ => true
def V.plain : V → Bool
  | .b _ | .i _ _ => true
  | _ => false
def V.closed : V → Bool
  | .b _ | .i _ _ | .p none | .q _ _ _ | .s none _ | .r _ _ _ | .z | .tx _ => true
  | _ => false
def kindOf (l : List V) : Nat := if l.all V.plain then 2 else if l.all V.closed then 1 else 0

mutual
def V.hasR : V → Bool
  | .q _ _ _ | .r _ _ _ => true
  | .f _ x y => V.hasRs x || V.hasRs y
  | .a l | .t l => V.hasRs l
  | _ => false
def V.hasRs : List V → Bool
  | [] => false
  | v :: l => v.hasR || V.hasRs l
end
def O.hasR : O → Bool
  | .row l k _ _ _ _ => if k = 2 then false else if k = 1 then true else V.hasRs l
  | .map _ => false

mutual
def V.ren (φ : Nat → Nat) : V → V
  | .p (some (x, o)) => .p (some (φ x, o))
  | .s (some (x, o)) n => .s (some (φ x, o)) n
  | .m x => .m (φ x)
  | .f g x y => .f g (V.rens φ x) (V.rens φ y)
  | .a l => .a (V.rens φ l)
  | .t l => .t (V.rens φ l)
  | v => v
def V.rens (φ : Nat → Nat) : List V → List V
  | [] => []
  | v :: l => v.ren φ :: V.rens φ l
end
def O.ren (φ : Nat → Nat) : O → O
  | .row l k sz w o sib => .row (if k = 0 then V.rens φ l else l) k sz w o (sib.map φ)
  | .map es => .map es

def pos : List Nat → Nat → Option Nat
  | [], _ => none
  | y :: l, x => if y = x then some 0 else match pos l x with
    | some k => some (k + 1)
    | none => none
/- Values told anew by a list of objects that stay; a row of any other object becomes a list. -/
mutual
def V.mv (call : Bool) (σ : List Nat) : V → Rd V
  | .p (some (x, o)) => match pos σ x with
    | some k => .ret (.p (some (k, o)))
    | none => .bad
  | .s (some (x, o)) n => match pos σ x with
    | some k => .ret (.s (some (k, o)) n)
    | none => .get x fun
      | some (.row l k sz _ _ sib) => if k = 0 then .bad else
        if call || !(sib.any σ.contains) then .ret (.r ((l.drop o).take (n * sz)) n (k == 2)) else .bad
      | _ => .bad
  | .m x => match pos σ x with
    | some k => .ret (.m k)
    | none => .bad
  | .f g x y => (V.mvs call σ x).bind fun x => (V.mvs call σ y).bind fun y => .ret (.f g x y)
  | .a l => (V.mvs call σ l).bind fun l => .ret (.a l)
  | .t l => (V.mvs call σ l).bind fun l => .ret (.t l)
  | v => .ret v
def V.mvs (call : Bool) (σ : List Nat) : List V → Rd (List V)
  | [] => .ret []
  | v :: l => (v.mv call σ).bind fun v => (V.mvs call σ l).bind fun l => .ret (v :: l)
end

def O.mv (call : Bool) (σ : List Nat) : O → Rd O
  | .row l k sz w o sib => (if k = 0 then V.mvs call σ l else .ret l).bind fun l =>
    match sib with
    | none => .ret (.row l k sz w (o && !call) none)
    | some y => match pos σ y with
      | some j => .ret (.row l k sz w (o && !call) (some j))
      | none => .ret (.row l k sz (w && !call) (o && !call) none)
  | .map es => .ret (.map es)

def O.mvs (call : Bool) (σ : List Nat) : List Nat → Rd (List O)
  | [] => .ret []
  | x :: l => .get x fun
    | some o => (o.mv call σ).bind fun o => (O.mvs call σ l).bind fun l => .ret (o :: l)
    | none => .bad

/-! Types. -/
section
variable (P : Program)
def aggOf (t : TypeId) : Rd Bool := match P.underlying t with
  | some (.struct _) | some (.array _ _) => .ret true
  | some _ => .ret false
  | none => .bad
def szOf (t : TypeId) : Rd Nat := match P.info? t with
  | some i => .ret i.size
  | none => .bad
def bytesOf (t : TypeId) : Rd Nat := match P.info? t with
  | some i => .ret i.bytes
  | none => .bad
def scalar : Value → Option V
  | .bool b => some (.b b)
  | .int k n => some (.i k n)
  | .pointer none => some (.p none)
  | .slice none 0 0 => some (.s none 0)
  | .nilFunc => some .z
  | .string s => some (.tx s)
  | _ => none
def scalars : List Value → Option (List V)
  | [] => some []
  | v :: l => match scalar v, scalars l with
    | some v, some l => some (v :: l)
    | _, _ => none
def lit : Value → V
  | .agg cs => match scalars cs.toList with
    | some l => .a l
    | none => .u
  | .tuple cs => if cs.isEmpty then .t [] else .u
  | v => (scalar v).getD .u
def zeroOf (t : TypeId) : Rd (List V) := match P.info? t with
  | some i => match i.zero with
    | some (.agg cs) => .of (scalars cs.toList)
    | some v => .of (scalars [v])
    | none => .bad
  | none => .bad
def zero1 (t : TypeId) : Rd V := match P.info? t with
  | some i => match i.zero with
    | some v => .of (scalar v)
    | none => .bad
  | none => .bad
def fieldsOf (t : TypeId) : Rd (Array Field) := match P.underlying t with
  | some (.struct fs) => .ret fs
  | _ => .bad
def part (t : TypeId) (l : List V) (off : Nat) : Rd V :=
  (aggOf P t).bind fun c => (szOf P t).bind fun n =>
    if c = true then .ret (.a ((l.drop off).take n)) else if off < l.length then .ret (l.getD off .u) else .bad
end

/-- Cells out of a row from a place on. -/
def ld (c : Bool) (n : Nat) (l : List V) (off : Nat) : Rd V :=
  if c = true then (if off + n ≤ l.length then .ret (.a ((l.drop off).take n)) else .bad)
  else (if off < l.length then .ret (l.getD off .u) else .bad)
def loadV (c : Bool) (n : Nat) : V → Rd V
  | .p (some (x, o)) => (Rd.row x).bind fun r => ld c n r.1 o
  | .q l o _ => ld c n l o
  | _ => .bad
def putCells (l : List V) (off : Nat) : List V → List V
  | [] => l
  | v :: vs => putCells (l.set off v) (off + 1) vs
/-- What may stand in a row of a kind. -/
def fits (k : Nat) (vs : List V) : Bool := vs.all V.one && (k == 0 || (if 2 ≤ k then vs.all V.plain else vs.all V.closed))
def kill : Option Nat → List (Nat × Option O)
  | some y => [(y, none)]
  | none => []
def touch : Option Nat → Rd Unit
  | some y => .get y fun _ => .ret ()
  | none => .ret ()

def fillV (place : Nat → Option (Nat × Nat)) (cells : List V) : List (Nat × V) → Rd (List V)
  | [] => .ret cells
  | (i, v) :: rest => match place i with
    | none => .bad
    | some (off, size) =>
      if v.ok = true ∧ v.cells.length = size ∧ off + size ≤ cells.length then fillV place (putCells cells off v.cells) rest else .bad

def placesOf (P : Program) : List Field → Option (List (Nat × Nat))
  | [] => some []
  | f :: fs => match P.info? f.type, placesOf P fs with
    | some i, some l => some ((f.offset, i.size) :: l)
    | _, _ => none

def shlI (k : IntKind) (x y : Int) : Int := k.wrap (x * 2 ^ min y.toNat k.bits)
def shrI (k : IntKind) (x y : Int) : Int := x / 2 ^ min y.toNat k.bits
def bitsI (op : BinOp) (k : IntKind) (x y : Int) : Int := Go.bits op k x y

def V.same (d : Option TypeDesc) (x y : V) : Option Bool := match d, x, y with
  | some .bool, .b x, .b y => some (x == y)
  | some (.pointer _), .p none, .p none => some true
  | some (.pointer _), .p none, .p (some _) | some (.pointer _), .p (some _), .p none | some (.pointer _), .p none, .q _ _ _ | some (.pointer _), .q _ _ _, .p none => some false
  | some (.slice _), .s none _, .s none _ => some true
  | _, _, _ => none

/-- Two structs of numbers and truths. -/
def eqFieldsV (P : Program) (xs ys : List V) : List Field → Option Bool
  | [] => some true
  | f :: fs => if f.name = "_" then none else match P.underlying f.type, xs[f.offset]?, ys[f.offset]?, eqFieldsV P xs ys fs with
    | some (.int _), some (.i k a), some (.i k' b), some r => if k = k' then some (a == b && r) else none
    | some .bool, some (.b a), some (.b b), some r => some (a == b && r)
    | _, _, _, _ => none
def sameV (P : Program) (t : TypeId) : V → V → Option Bool
  | .a xs, .a ys => if P.stoodInHeld t = false ∧ P.eqGuardType P.depth t = false then match P.underlying t with
    | some (.struct fs) => eqFieldsV P xs ys fs.toList
    | _ => none
    else none
  | x, y => V.same (P.underlying t) x y

def binV (P : Program) (t : TypeId) (op : BinOp) (x y : V) : Rd V :=
  match op with
  | .shl => match x, y with | .i k a, .i _ b => if 0 ≤ b then .ret (.i k (shlI k a b)) else .bad | _, _ => .bad
  | .shr => match x, y with | .i k a, .i _ b => if 0 ≤ b then .ret (.i k (shrI k a b)) else .bad | _, _ => .bad
  | op => match x, y with
    | .i k a, .i k' b => if k = k' then (match op with
      | .add => .ret (.i k (k.wrap (a + b)))
      | .sub => .ret (.i k (k.wrap (a - b)))
      | .mul => .ret (.i k (k.wrap (a * b)))
      | .quo => if b = 0 then .bad else .ret (.i k (k.wrap (a.tdiv b)))
      | .rem => if b = 0 then .bad else .ret (.i k (a.tmod b))
      | .and | .or | .xor | .andNot => .ret (.i k (bitsI op k a b))
      | .eql => .ret (.b (a == b))
      | .neq => .ret (.b (a != b))
      | .lss => .ret (.b (decide (a < b)))
      | .leq => .ret (.b (decide (a ≤ b)))
      | .gtr => .ret (.b (decide (a > b)))
      | .geq => .ret (.b (decide (a ≥ b)))
      | _ => .bad) else .bad
    | x, y => match op with
      | .eql => (Rd.of (sameV P t x y)).bind fun c => .ret (.b c)
      | .neq => (Rd.of (sameV P t x y)).bind fun c => .ret (.b (!c))
      | _ => .bad

def unV : UnOp → V → Rd V
  | .neg, .i k n => .ret (.i k (k.wrap (0 - n)))
  | .xor, .i k n => .ret (.i k (bitsI .xor k (if k.signed then -1 else k.max) n))
  | .not, .b x => .ret (.b !x)
  | _, _ => .bad

def foldMx (mx : Bool) : V → List V → Rd V
  | v, [] => .ret v
  | .i k x, .i _ y :: l => foldMx mx (.i k (if mx = true then (if y > x then y else x) else (if y < x then y else x))) l
  | _, _ => .bad

def limit : Nat := 4611686018427387904

abbrev Up := List (Nat × Option O)
def newRowV (sl : Nat) (l : List V) (k sz : Nat) : V × Up := (.p (some (sl, 0)), [(sl, some (.row l k sz true true none))])

/-- What is appended, or copied: cells, elements, of which kind. -/
def srcOf (sz : Nat) : V → Rd (List V × Nat × Nat)
  | .s none _ => .ret ([], 0, 2)
  | .s (some (x, o)) n => (Rd.row x).bind fun r => if r.2.2.1 = sz ∧ o + n * sz ≤ r.1.length then .ret ((r.1.drop o).take (n * sz), n, r.2.1) else .bad
  | .r l n pl => if l.length = n * sz then .ret (l, n, if pl then 2 else 1) else .bad
  | _ => .bad

def appendV (sl sz by_ : Nat) (d x : V) : Rd (V × Up) :=
  (srcOf sz x).bind fun (xs, n, kx) =>
  match d with
  | .s none _ => if n < limit ∧ n * by_ ≤ 140737488355328 then .ret (.s (some (sl, 0)) n, [(sl, some (.row xs kx sz true true none))]) else .bad
  | .s (some (y, o)) m => (Rd.row y).bind fun (l, k, sz', w, ow, sib) =>
    if sz' = sz ∧ ow = true ∧ w = true ∧ o + m * sz = l.length ∧ m + n < limit ∧ (m + n) * by_ ≤ 140737488355328 then
      (touch sib).bind fun _ =>
      .ret (.s (some (sl, 0)) (m + n), kill sib ++ [(y, some (.row l k sz w ow (some sl))), (sl, some (.row (l.drop o ++ xs) (min k kx) sz true true (some y)))])
    else .bad
  | _ => .bad

def copyV (sz : Nat) (d x : V) : Rd (V × Up) :=
  (srcOf sz x).bind fun (xs, n, kx) =>
  match d with
  | .s none _ => .ret (.i .i64 0, [])
  | .s (some (y, o)) m => (Rd.row y).bind fun (l, k, sz', w, ow, sib) =>
    if sz' = sz ∧ w = true ∧ o + m * sz ≤ l.length ∧ k ≤ kx ∧ kx ≠ 0 then
      (touch sib).bind fun _ =>
      .ret (.i .i64 (min n m : Nat), kill sib ++ [(y, some (.row (l.take o ++ (xs.take (min n m * sz) ++ l.drop (o + min n m * sz))) k sz w ow none))])
    else .bad
  | _ => .bad

def clearV (sz : Nat) (z : List V) (d : V) : Rd (V × Up) :=
  match d with
  | .s none _ => .ret (.t [], [])
  | .s (some (y, o)) m => (Rd.row y).bind fun (l, k, sz', w, ow, sib) =>
    if sz' = sz ∧ w = true ∧ o + m * sz ≤ l.length ∧ fits k z = true ∧ z.length = sz then
      (touch sib).bind fun _ =>
      .ret (.t [], kill sib ++ [(y, some (.row (l.take o ++ ((List.replicate m z).flatten ++ l.drop (o + m * sz))) k sz w ow none))])
    else .bad
  | _ => .bad

def elemOf (P : Program) (t : TypeId) : Rd TypeId := match P.underlying t with
  | some (.slice e) => .ret e
  | _ => .bad

def bound (hi : Nat) : V → Rd Nat
  | .i _ x => if 0 ≤ x then (if x ≤ hi then .ret x.toNat else .bad) else .bad
  | _ => .bad

/-- A cut of a slice: from lo up to hi. -/
def cutV (sz : Nat) (x : V) (lo hi mx : Option V) : Rd V :=
  let go (len : Nat) (k : Nat → Nat → Rd V) : Rd V :=
    (match mx with | some v => bound len v | none => .ret len).bind fun m =>
    (match hi with | some v => bound m v | none => .ret len).bind fun h =>
    (match lo with | some v => bound h v | none => .ret 0).bind fun l => k l h
  match x with
  | .s none _ => go 0 fun _ _ => .ret (.s none 0)
  | .s (some (y, o)) n => go n fun l h => (Rd.row y).bind fun r => if r.2.2.1 = sz then .ret (.s (some (y, o + l * sz)) (h - l)) else .bad
  | .r xs n pl => go n fun l h => if xs.length = n * sz then .ret (.r ((xs.drop (l * sz)).take ((h - l) * sz)) (h - l) pl) else .bad
  | _ => .bad

structure Env where
  P : Program
  G : Nat → List V
  ext : Nat → List V → Option V

def takeO (c : Option Operand) (vs : List V) : Option V × List V := match c, vs with
  | some _, v :: vs => (some v, vs)
  | _, vs => (none, vs)

def mapFind (k : V) : List (V × V) → Option (Option V)
  | [] => some none
  | (k', v) :: es => match k, k' with
    | .i a x, .i b y => if a = b then (if x = y then some (some v) else mapFind k es) else none
    | _, _ => none
def mapPut (k v : V) : List (V × V) → Option (List (V × V))
  | [] => some [(k, v)]
  | (k', v') :: es => match k, k' with
    | .i a x, .i b y => if a = b then (if x = y then some ((k, v) :: es) else (mapPut k v es).map ((k', v') :: ·)) else none
    | _, _ => none

def builtinV (E : Env) (sl : Nat) (bi : Builtin) (ts : Array TypeId) (vs : List V) : Rd (V × Up) :=
  match bi, vs with
  | .append, [d, x] => (Rd.of ts[0]?).bind fun t0 => (Rd.of ts[1]?).bind fun t1 => (elemOf E.P t0).bind fun e => (elemOf E.P t1).bind fun _ => (szOf E.P e).bind fun sz => (bytesOf E.P e).bind fun by_ => (zeroOf E.P e).bind fun z =>
    if z.length = sz ∧ ts.size = 2 ∧ sz ≠ 0 then appendV sl sz by_ d x else .bad
  | .copy, [d, x] => (Rd.of ts[0]?).bind fun t0 => (elemOf E.P t0).bind fun e => (szOf E.P e).bind fun sz => if sz ≠ 0 then copyV sz d x else .bad
  | .len, [x] => (Rd.of ts[0]?).bind fun t0 => match E.P.underlying t0, x with
    | some (.slice _), .s _ n => .ret (.i .i64 n, [])
    | some (.slice _), .r _ n _ => .ret (.i .i64 n, [])
    | some (.array n _), _ => .ret (.i .i64 n, [])
    | _, _ => .bad
  | .clear, [d] => (Rd.of ts[0]?).bind fun t0 => (elemOf E.P t0).bind fun e => (szOf E.P e).bind fun sz => (zeroOf E.P e).bind fun z => if sz ≠ 0 then clearV sz z d else .bad
  | .max, v :: l => (foldMx true v l).bind fun v => .ret (v, [])
  | .min, v :: l => (foldMx false v l).bind fun v => .ret (v, [])
  | _, _ => .bad

def pop (E : Env) (sl : Nat) (op : Op) (vals : List V) : Rd (V × Up) :=
  match op, vals with
  | .move _, [x] | .assign _, [x] => .ret (x, [])
  | .pick _ _ _, [.b c, x, y] => .ret (if c = true then x else y, [])
  | .alloc t, [] => (zeroOf E.P t).bind fun z => .ret (newRowV sl z 0 0)
  | .box _ _, [v] => if v.ok = true then .ret (newRowV sl v.cells 0 0) else .bad
  | .build t ps, vs => (zeroOf E.P t).bind fun z => match E.P.underlying t with
    | some (.struct fs) => (Rd.of (placesOf E.P fs.toList)).bind fun pl => (fillV (pl[·]?) z ((ps.toList.map (·.1)).zip vs)).bind fun l => .ret (.a l, [])
    | some (.array _ e) => (szOf E.P e).bind fun n => (fillV (fun i => some (i * n, n)) z ((ps.toList.map (·.1)).zip vs)).bind fun l => .ret (.a l, [])
    | _ => .bad
  | .buildSlice t n ps, vs => (elemOf E.P t).bind fun e => (szOf E.P e).bind fun sz => (zeroOf E.P e).bind fun z =>
    if n * sz ≤ 2 ^ 24 ∧ z.length = sz ∧ sz ≠ 0 then (fillV (fun i => some (i * sz, sz)) (List.replicate n z).flatten ((ps.toList.map (·.1)).zip vs)).bind fun l =>
      .ret (.s (some (sl, 0)) n, [(sl, some (.row l (kindOf l) sz true true none))]) else .bad
  | .load t _, [x] => (aggOf E.P t).bind fun c => (szOf E.P t).bind fun n => (loadV c n x).bind fun v => .ret (v, [])
  | .store t _ _, [.p (some (x, o)), v] => (szOf E.P t).bind fun n => (Rd.row x).bind fun (l, k, sz, w, ow, sib) =>
    if w = true ∧ v.ok = true ∧ v.cells.length = n ∧ o + n ≤ l.length ∧ fits k v.cells = true then
      (touch sib).bind fun _ => .ret (.t [], kill sib ++ [(x, some (.row (putCells l o v.cells) k sz w ow none))]) else .bad
  | .nilCheck _, [x] => match x with
    | .p (some _) | .q _ _ _ | .f _ _ _ => .ret (x, [])
    | _ => .bad
  | .binOp op t _ _ _, [x, y] => (binV E.P t op x y).bind fun v => .ret (v, [])
  | .unOp op _ _, [x] => (unV op x).bind fun v => .ret (v, [])
  | .convert src dst _, [x] => match E.P.underlying src, E.P.underlying dst, x with
    | some (.int _), some (.int k), .i _ n => .ret (.i k (k.wrap n), [])
    | _, _, _ => .bad
  | .makeFunc (.func g) x _, vs => if vs.all V.ok = true then .ret (.f g (vs.take x.size) (vs.drop x.size), []) else .bad
  | .makeMap _ none, [] => .ret (.m sl, [(sl, some (.map []))])
  | .makeSlice t _ _, [.i _ l, .i _ c] => (elemOf E.P t).bind fun e => (szOf E.P e).bind fun sz => (bytesOf E.P e).bind fun by_ => (zeroOf E.P e).bind fun z =>
    if z.length = sz ∧ sz ≠ 0 ∧ z.all V.closed = true then (if 0 ≤ l then (if l ≤ c ∧ c < limit ∧ c * by_ ≤ 281474976710656 then
      .ret (.s (some (sl, 0)) l.toNat, [(sl, some (.row (List.replicate l.toNat z).flatten (kindOf z) sz true true none))]) else .bad) else .bad) else .bad
  | .slice t _ lo hi mx, x :: vs => (elemOf E.P t).bind fun e => (szOf E.P e).bind fun sz =>
    if (takeO mx (takeO hi (takeO lo vs).2).2).1.isSome = true → (takeO hi (takeO lo vs).2).1.isSome = true then
      (cutV sz x (takeO lo vs).1 (takeO hi (takeO lo vs).2).1 (takeO mx (takeO hi (takeO lo vs).2).2).1).bind fun v => .ret (v, []) else .bad
  | .fieldAddr t _ f, [x] => (fieldsOf E.P t).bind fun fs => match fs[f]? with
    | some fd => (szOf E.P fd.type).bind fun n => if n = 0 then .bad else match x with
      | .p (some (y, o)) => .ret (.p (some (y, o + fd.offset)), [])
      | .q l o pl => .ret (.q l (o + fd.offset) pl, [])
      | _ => .bad
    | none => .bad
  | .field t _ f, [.a l] => (fieldsOf E.P t).bind fun fs => match fs[f]? with
    | some fd => (part E.P fd.type l fd.offset).bind fun v => .ret (v, [])
    | none => .bad
  | .indexAddr t _ _, [x, .i _ j] => match E.P.underlying t, x with
    | some (.slice e), .s (some (y, o)) n => (szOf E.P e).bind fun sz => if 0 ≤ j then (if j < n then .ret (.p (some (y, o + j.toNat * sz)), []) else .bad) else .bad
    | some (.slice e), .r l n pl => (szOf E.P e).bind fun sz => if 0 ≤ j then (if j < n then .ret (.q l (j.toNat * sz) pl, []) else .bad) else .bad
    | some (.array n e), .p (some (y, o)) => (szOf E.P e).bind fun sz => if 0 ≤ j then (if j < n then .ret (.p (some (y, o + j.toNat * sz)), []) else .bad) else .bad
    | some (.array n e), .q l o pl => (szOf E.P e).bind fun sz => if 0 ≤ j then (if j < n then .ret (.q l (o + j.toNat * sz) pl, []) else .bad) else .bad
    | _, _ => .bad
  | .index t _ _, [.a l, .i _ j] => match E.P.underlying t with
    | some (.array n e) => (szOf E.P e).bind fun sz => if 0 ≤ j ∧ j < n then (part E.P e l (j.toNat * sz)).bind fun v => .ret (v, []) else .bad
    | _ => .bad
  | .index t _ _, [.tx s, .i _ j] => match E.P.underlying t with
    | some .string => if 0 ≤ j then match s[j.toNat]? with
      | some b => .ret (.i .u8 b.toNat, [])
      | none => .bad else .bad
    | _ => .bad
  | .lookup t _ _ ok, [.m x, k] => match E.P.underlying t with
    | some (.map kt e) => match E.P.underlying kt with
      | some (.int _) => (zero1 E.P e).bind fun z => Rd.get x fun
        | some (.map es) => (Rd.of (mapFind k es)).bind fun r => .ret (if ok = true then .t [r.getD z, .b r.isSome] else r.getD z, [])
        | _ => .bad
      | _ => .bad
    | _ => .bad
  | .mapUpdate t _ _ _, [.m x, k, v] => match E.P.underlying t with
    | some (.map kt _) => match E.P.underlying kt with
      | some (.int _) => if v.plain = true ∧ k.plain = true then Rd.get x fun
        | some (.map es) => (Rd.of (mapPut k v es)).bind fun es => .ret (.t [], [(x, some (.map es))])
        | _ => .bad
        else .bad
      | _ => .bad
    | _ => .bad
  | .extract _ j, [.t l] => if j < l.length then .ret (l.getD j .u, []) else .bad
  | .call { callee := .builtin bi, argTypes := ts, .. }, vs => builtinV E sl bi ts vs
  | .call { callee := .value _, .. }, .f g x y :: vs => match E.P.funcs[g]? with
    | some fn => if fn.body.isNone = true then (Rd.of (E.ext g (x ++ vs ++ y))).bind fun v => .ret (v, []) else .bad
    | none => .bad
  | _, _ => .bad


structure S where
  t : List V
  h : Hp
  n : Nat
  a : Nat

inductive Ex where
  | normal
  | exit (id : Nat)
  | goto (l : Nat)
  | ret
  deriving DecidableEq

def rho (E : Env) (t : List V) : Operand → V
  | .tmp x => t.getD x (.t [])
  | .const v => lit v
  | .global g => match E.G g with
    | [] => .u
    | l => .q l 0 true
  | .func f => .f f [] []
def put (t : List V) : Option Tmp → V → List V
  | some d, v => t.set d v
  | none, _ => t
/-- Is an operation wanted? none: it can't be told. -/
def wantedV (os : Array Oper) (o : Oper) (t : List V) : Option Bool :=
  match o.guard with
  | none => some true
  | some (j, want) => match (os[j]?).bind (·.dst) with
    | none => none
    | some d => match t[d]? with
      | some (.b x) => some (x == want)
      | some (.t []) => some false
      | _ => none

def apartB (R : List Nat) (W : List Nat) : Bool := R.all fun x => !W.contains x
abbrev Tr := List (Nat × List Nat × List Nat)
/-- Whom each operation waits for, at whatever remove: a number's bits. -/
def befs : List Oper → List Nat → List Nat
  | [], acc => acc
  | o :: l, acc => befs l (acc ++ [o.after.toList.foldl (fun s e => if Region.binds .any e = true then s ||| 2 ^ e.on ||| acc.getD e.on 0 else s) 0])
def pairOk (os : Array Oper) (x y : Nat × List Nat × List Nat) : Bool :=
  (match os[x.1]?, os[y.1]? with
    | some a, some b => a.apart os b
    | _, _ => true) &&
  apartB x.2.1 y.2.2 && apartB x.2.2 y.2.1 && apartB x.2.2 y.2.2
/-- Each two of which neither waits for the other may change places; and whoever waits, waits for an earlier one. -/
def indepP (os : Array Oper) (pre : List Nat) : Tr → Bool
  | [] => true
  | x :: tr => (tr.all fun y => (pre.getD y.1 0).testBit x.1 || pairOk os x y) && indepP os pre tr
def pres (os : Array Oper) : List Nat := befs os.toList []
def backw (os : Array Oper) : Nat → List Oper → Bool
  | _, [] => true
  | i, o :: l => (o.after.toList.all fun e => !Region.binds .any e || e.on < i) && backw os (i + 1) l
def indep (os : Array Oper) (pre : List Nat) (tr : Tr) : Bool := backw os 0 os.toList && indepP os pre tr

/-- What a call hands over. -/
def marsh (call : Bool) (σ : List Nat) (args : List V) : Rd (List V × List O) :=
  (V.mvs call σ args).bind fun args => (O.mvs call σ σ).bind fun H => .ret (args, H)
/-- The rows that a call sees as lists, and who might share a block with what it was handed. -/
def lent (σ : List Nat) : List Nat → Rd (List Nat)
  | [] => .ret []
  | x :: R => Rd.get x fun
    | some o => (lent σ R).bind fun l => .ret ((if σ.contains x then [] else [x]) ++ ((match o with | .row _ _ _ _ _ sib => sib | .map _ => none).toList.filter fun y => !σ.contains y) ++ l)
    | none => lent σ R
def demote : List Nat → Rd Up
  | [] => .ret []
  | x :: l => Rd.get x fun
    | some (.row r k sz _ _ sib) => (demote l).bind fun u => .ret ((x, some (.row r k sz false false sib)) :: u)
    | none => (demote l).bind fun u => .ret u
    | _ => .bad
/-- The objects that a call was handed, behind the call. -/
def backO (φ : Nat → Nat) (old o : O) : Option O := match old, o with
  | .row l k sz w ow sib, .row l' k' sz' w' _ _ => if sz = sz' ∧ k = k' ∧ l.length = l'.length then
      some (.row (if k' = 0 then V.rens φ l' else l') k' sz (w && w') (ow && w') sib) else none
  | .map _, .map es => some (.map es)
  | _, _ => none
def backs (φ : Nat → Nat) : List Nat → List O → Rd Up
  | [], _ => .ret []
  | x :: σ, o :: H => Rd.get x fun
    | none => .bad
    | some old => match backO φ old o with
      | some o2 => (backs φ σ H).bind fun u => .ret ((x, some o2) :: u)
      | none => .bad
  | _ :: _, [] => .bad
def news (φ : Nat → Nat) (m sl : Nat) : List O → Option Up
  | [] => some []
  | o :: H => match o with
    | .row _ _ _ _ _ (some y) => if y < m then none else (news φ m (sl + 1) H).map ((sl, some (o.ren φ)) :: ·)
    | _ => (news φ m (sl + 1) H).map ((sl, some (o.ren φ)) :: ·)
def homeOf (σ : List Nat) (sl : Nat) (k : Nat) : Nat := if k < σ.length then σ.getD k 0 else sl + (k - σ.length)

inductive J where
  | op (sl : Nat) (op : Op) (vals : List V) (h : Hp) (v : V) (U : Up) (R : List Nat)
  | ops (os : Array Oper) (sl : Nat) (is : List Nat) (t : List V) (h : Hp) (t' : List V) (h' : Hp) (tr : Tr)
  | code (c : Code) (s : S) (e : Ex) (s' : S)
  | fn (f : Nat) (args : List V) (H : List O) (r : V) (H' : List O)

def resR (P : Program) (t : List V) : List ResultVar → Rd (List V)
  | [] => .ret []
  | .tmp x :: l => (resR P t l).bind fun vs => .ret (t.getD x (.t []) :: vs)
  | .cell x ty :: l => (aggOf P ty).bind fun c => (szOf P ty).bind fun n => (loadV c n (t.getD x (.t []))).bind fun v => (resR P t l).bind fun vs => .ret (v :: vs)
def one1 : List V → V
  | [v] => v
  | vs => .t vs

/-- Less is known of a state: objects are numbered anew, temporaries forgotten. -/
def wkT (σ : List Nat) (keep : Nat → Bool) : Nat → List V → Rd (List V)
  | _, [] => .ret []
  | j, v :: l => (if keep j = true then v.mv false σ else .ret .u).bind fun v => (wkT σ keep (j + 1) l).bind fun l => .ret (v :: l)
def wk (σ : List Nat) (keep : Nat → Bool) (s : S) : Option S :=
  if σ.take s.a = List.range s.a ∧ σ.Nodup then
    match ((wkT σ keep 0 s.t).bind fun t => (O.mvs false σ σ).bind fun H => .ret (t, H)).run s.h with
    | some ((t, H), _) => some ⟨t, ofL H, H.length, s.a⟩
    | none => none
  else none

/-! A slice that is nil is an empty list. -/
mutual
def V.ro : V → V
  | .s none _ => .r [] 0 true
  | .a l => .a (V.ros l)
  | .t l => .t (V.ros l)
  | v => v
def V.ros : List V → List V
  | [] => []
  | v :: l => v.ro :: V.ros l
end
def roT (m : Nat → Bool) : Nat → List V → List V
  | _, [] => []
  | j, v :: l => (if m j = true then v.ro else v) :: roT m (j + 1) l
/-- A nil slice, at a place within a value, told as another. -/
def V.nilAt (y : V) : List Nat → V → Option V
  | [], .s none 0 => some y
  | j :: ps, .a l => match l[j]? with
    | some v => match V.nilAt y ps v with
      | some v' => some (.a (l.set j v'))
      | none => none
    | none => none
  | j :: ps, .t l => match l[j]? with
    | some v => match V.nilAt y ps v with
      | some v' => some (.t (l.set j v'))
      | none => none
    | none => none
  | _, _ => none
/-- Less is said of a state: nil slices are empty lists, or a nil slice is an empty row of its own. -/
inductive Less (s : S) : S → Prop where
  | ro (m : Nat → Bool) : Less s ⟨roT m 0 s.t, s.h, s.n, s.a⟩
  | own (j : Nat) (k sz : Nat) : s.t[j]? = some (.s none 0) → Less s ⟨s.t.set j (.s (some (s.n, 0)) 0), s.h.set s.n (some (.row [] k sz true true none)), s.n + 1, s.a⟩
  | «at» (j : Nat) (ps : List Nat) (k sz : Nat) {v v' : V} : s.t[j]? = some v → V.nilAt (.s (some (s.n, 0)) 0) ps v = some v' → Less s ⟨s.t.set j v', s.h.set s.n (some (.row [] k sz true true none)), s.n + 1, s.a⟩
  | cell (y c : Nat) (k sz : Nat) {l sz' w ow sib} : s.h y = some (.row l 0 sz' w ow sib) → l[c]? = some (.s none 0) →
      Less s ⟨s.t, (s.h.set s.n (some (.row [] k sz true true none))).set y (some (.row (l.set c (.s (some (s.n, 0)) 0)) 0 sz' w ow sib)), s.n + 1, s.a⟩
  | flag (y : Nat) (w' ow' : Bool) {l k sz w ow sib} : s.h y = some (.row l k sz w ow sib) → ((!w' || w) && (!ow' || ow) && (!ow' || w')) = true →
      Less s ⟨s.t, s.h.set y (some (.row l k sz w' ow' sib)), s.n, s.a⟩
  | roc (y c : Nat) {l sz' w ow sib} : s.h y = some (.row l 0 sz' w ow sib) → l[c]? = some (.s none 0) →
      Less s ⟨s.t, s.h.set y (some (.row (l.set c (.r [] 0 true)) 0 sz' w ow sib)), s.n, s.a⟩

inductive Do (E : Env) : J → Prop where
  | prim {sl op vals h v U R} : (pop E sl op vals).run h = some ((v, U), R) → Do E (.op sl op vals h v U R)
  | call {sl fo as ts g x y vs h σ args H R r H' u1 u2 u3 R1 R2 R3 bs fn} :
      E.P.funcs[g]? = some fn → fn.body.isSome = true → σ.Nodup →
      (marsh true σ (x ++ vs ++ y)).run h = some ((args, H), R) →
      Do E (.fn g args H r H') → σ.length ≤ H'.length → H'.length ≤ σ.length + 4 →
      (backs (homeOf σ sl) σ H').run h = some (u1, R1) →
      news (homeOf σ sl) σ.length sl (H'.drop σ.length) = some u2 →
      (lent σ R).run h = some (bs, R2) →
      (demote (if r.hasR || H'.any O.hasR then bs else [])).run h = some (u3, R3) →
      Do E (.op sl (.call ⟨.value fo, as, ts⟩) (.f g x y :: vs) h (r.ren (homeOf σ sl)) (u1 ++ u2 ++ u3) (R ++ R1 ++ R2 ++ R3))
  | nil {os sl t h} : Do E (.ops os sl [] t h t h [])
  | no {os sl i is t h t' h' tr o} : os[i]? = some o → wantedV os o t = some false →
      Do E (.ops os sl is (put t o.dst (.t [])) h t' h' tr) → Do E (.ops os sl (i :: is) t h t' h' ((i, [], []) :: tr))
  | yes {os sl i is t h t' h' tr o v U R} : os[i]? = some o → wantedV os o t = some true →
      Do E (.op (sl + 4 * i) o.op (o.op.operands.toList.map (rho E t)) h v U R) →
      Do E (.ops os sl is (put t o.dst v) (h.sets U) t' h' tr) → Do E (.ops os sl (i :: is) t h t' h' ((i, R, U.map (·.1)) :: tr))
  | skip {s} : Do E (.code .skip s .normal s)
  | label {l s} : Do E (.code (.label l) s .normal s)
  | ret {s} : Do E (.code .ret s .ret s)
  | exit {id s} : Do E (.code (.exit id) s (.exit id) s)
  | goto {l s} : Do E (.code (.goto l) s (.goto l) s)
  | region {id os s t' h' tr} : Do E (.ops os s.n (List.range os.size) s.t s.h t' h' tr) →
      Do E (.code (.region id os false) s .normal ⟨t', h', s.n + 4 * os.size, s.a⟩)
  | draw {id os s t' h' tr} : Do E (.ops os s.n (List.range os.size) s.t s.h t' h' tr) → indep os (pres os) tr = true →
      Do E (.code (.region id os true) s .normal ⟨t', h', s.n + 4 * os.size, s.a⟩)
  | seq {x y s s1 e s2} : Do E (.code x s .normal s1) → Do E (.code y s1 e s2) → Do E (.code (.seq x y) s e s2)
  | seqx {x y s e s1} : Do E (.code x s e s1) → e ≠ .normal → Do E (.code (.seq x y) s e s1)
  | cond {c x y s e s1 b} : rho E s.t c = .b b → Do E (.code (if b = true then x else y) s e s1) → Do E (.code (.cond c x y) s e s1)
  | block {id c s e s1} : Do E (.code c s e s1) → Do E (.code (.block id c) s (if e = .exit id then .normal else e) s1)
  | loop {c s s1 e s2} : Do E (.code c s .normal s1) → Do E (.code (.loop c) s1 e s2) → Do E (.code (.loop c) s e s2)
  | loopx {c s e s1} : Do E (.code c s e s1) → e ≠ .normal → Do E (.code (.loop c) s e s1)
  | scope {c s e s1} : Do E (.code c s e s1) → (∀ l, e ≠ .goto l) → Do E (.code (.scope c) s e s1)
  | weak {c s e s1 s2 σ keep} : wk σ keep s = some s1 → Do E (.code c s1 e s2) → Do E (.code c s e s2)
  | weaker {c s e s1 s2 σ keep} : Do E (.code c s e s1) → wk σ keep s1 = some s2 → Do E (.code c s e s2)
  | less {c s e s1 s2} : Less s s1 → Do E (.code c s1 e s2) → Do E (.code c s e s2)
  | fnl {f args H r H'} : Do E (.fn f args H r H') → Do E (.fn f args H r.ro H')
  | fn {f args H r H' fn c e s' rs τ R R'} : E.P.funcs[f]? = some fn → fn.body = some c →
      Do E (.code c ⟨args ++ List.replicate (fn.ntmps - args.length) (.t []), ofL H, H.length, H.length⟩ e s') → (e = .normal ∨ e = .ret) →
      (resR E.P s'.t fn.results.toList).run s'.h = some (rs, R') → τ.take H.length = List.range H.length → τ.Nodup →
      (marsh false τ [one1 rs]).run s'.h = some (([r], H'), R) → Do E (.fn f args H r H')


structure Loc where
  b : Nat
  β : Nat
  N : Nat
  sz : Nat

abbrev Mu := Nat → Option (Array Value)
abbrev Io := Nat → Option (Option Loc)
def mu0 : Mu := fun _ => none

inductive VC : Mu → V → Value → Prop where
  | b {μ x} : VC μ (.b x) (.bool x)
  | i {μ k x} : VC μ (.i k x) (.int k x)
  | pn {μ} : VC μ (.p none) (.pointer none)
  | sn {μ n} : n = 0 → VC μ (.s none n) (.slice none 0 0)
  | z {μ} : VC μ .z .nilFunc
  | tx {μ s} : VC μ (.tx s) (.string s)
  | r {μ l n pl blk o cap} {cs : Array Value} (g : Nat → Value) : μ blk = some cs → n ≤ cap →
      (∀ j, j < l.length → cs[o + j]? = some (g j)) → (∀ j (h : j < l.length), VC (if pl = true then mu0 else μ) l[j] (g j)) →
      VC μ (.r l n pl) (.slice (some ⟨blk, o, none⟩) n cap)
  | r0 {μ a pl} : VC μ (.r [] 0 pl) (.slice a 0 0)
  | q {μ l off pl blk o} {cs : Array Value} (g : Nat → Value) : μ blk = some cs →
      (∀ j, j < l.length → cs[o + j]? = some (g j)) → (∀ j (h : j < l.length), VC (if pl = true then mu0 else μ) l[j] (g j)) →
      VC μ (.q l off pl) (.pointer (some ⟨blk, o + off, none⟩))

theorem VC.mono {μ μ' : Mu} (hm : ∀ b cs, μ b = some cs → μ' b = some cs) {v x} (h : VC μ v x) : VC μ' v x := by
  induction h generalizing μ' with
  | b => exact .b
  | i => exact .i
  | pn => exact .pn
  | sn h => exact .sn h
  | z => exact .z
  | tx => exact .tx
  | r g hb hn hc _ ih =>
    refine .r g (hm _ _ hb) hn hc fun j h => ih j h ?_
    intro b cs; split
    · exact id
    · exact hm b cs
  | r0 => exact .r0
  | q g hb hc _ ih =>
    refine .q g (hm _ _ hb) hc fun j h => ih j h ?_
    intro b cs; split
    · exact id
    · exact hm b cs

inductive VR (ι : Io) (μ : Mu) : V → Value → Prop where
  | u {x} : VR ι μ .u x
  | c {v x} : VC μ v x → VR ι μ v x
  | p {x o L} : ι x = some (some L) → VR ι μ (.p (some (x, o))) (.pointer (some ⟨L.b, L.β + o, none⟩))
  | s {x o n cap L} : ι x = some (some L) → n ≤ cap → o + cap * L.sz ≤ L.N → VR ι μ (.s (some (x, o)) n) (.slice (some ⟨L.b, L.β + o, none⟩) n cap)
  | s0 {x o q a} : ι x = some q → VR ι μ (.s (some (x, o)) 0) (.slice a 0 0)
  | m {x L} : ι x = some (some L) → VR ι μ (.m x) (.map (some L.b))
  | f {g xs ys} {xs' ys' : List Value} (hx : xs.length = xs'.length) (hy : ys.length = ys'.length) :
      (∀ j (h : j < xs.length), VR ι μ xs[j] (xs'[j]'(hx ▸ h))) → (∀ j (h : j < ys.length), VR ι μ ys[j] (ys'[j]'(hy ▸ h))) →
      VR ι μ (.f g xs ys) (.func (.func g) xs'.toArray ys'.toArray)
  | a {l} {cs : List Value} (hl : l.length = cs.length) : (∀ j (h : j < l.length), VR ι μ l[j] (cs[j]'(hl ▸ h))) → VR ι μ (.a l) (.agg cs.toArray)
  | t {l} {cs : List Value} (hl : l.length = cs.length) : (∀ j (h : j < l.length), VR ι μ l[j] (cs[j]'(hl ▸ h))) → VR ι μ (.t l) (.tuple cs.toArray)

def Vs (ι : Io) (μ : Mu) (l : List V) (cs : List Value) : Prop := l.length = cs.length ∧ ∀ (j : Nat) v, l[j]? = some v → ∃ x, cs[j]? = some x ∧ VR ι μ v x

theorem Vs.of {ι μ l cs} (hl : l.length = cs.length) (h : ∀ j (h : j < l.length), VR ι μ l[j] (cs[j]'(hl ▸ h))) : Vs ι μ l cs := by
  refine ⟨hl, fun j v hj => ?_⟩
  obtain ⟨hj', rfl⟩ := List.getElem?_eq_some_iff.1 hj
  exact ⟨_, List.getElem?_eq_getElem (hl ▸ hj'), h j hj'⟩
theorem Vs.at {ι μ l cs} (h : Vs ι μ l cs) : ∀ j (hj : j < l.length), VR ι μ l[j] (cs[j]'(h.1 ▸ hj)) := by
  intro j hj
  obtain ⟨x, hx, hv⟩ := h.2 j _ (List.getElem?_eq_getElem hj)
  rw [List.getElem?_eq_getElem (h.1 ▸ hj)] at hx
  cases hx; exact hv
theorem Vs.nil {ι μ} : Vs ι μ [] [] := ⟨rfl, fun _ _ h => by simp at h⟩
theorem Vs.cons {ι μ v l x cs} (hv : VR ι μ v x) (h : Vs ι μ l cs) : Vs ι μ (v :: l) (x :: cs) := by
  refine ⟨by simp [h.1], fun j w hw => ?_⟩
  cases j with
  | zero => cases hw; exact ⟨x, rfl, hv⟩
  | succ j => exact h.2 j w (by simpa using hw)
theorem Vs.head {ι μ v l cs} (h : Vs ι μ (v :: l) cs) : ∃ x cs', cs = x :: cs' ∧ VR ι μ v x ∧ Vs ι μ l cs' := by
  cases cs with
  | nil => simp [Vs] at h
  | cons x cs' =>
    refine ⟨x, cs', rfl, ?_, ?_, ?_⟩
    · obtain ⟨y, hy, hv⟩ := h.2 0 v rfl; cases hy; exact hv
    · have := h.1; simpa using this
    · intro j w hw; exact h.2 (j + 1) w (by simpa using hw)
theorem Vs.nil' {ι μ cs} (h : Vs ι μ [] cs) : cs = [] := by
  have := h.1; simp at this; exact List.eq_nil_of_length_eq_zero this.symm
theorem Vs.append {ι μ l l' cs cs'} (h : Vs ι μ l cs) (h' : Vs ι μ l' cs') : Vs ι μ (l ++ l') (cs ++ cs') := by
  induction l generalizing cs with
  | nil => rw [h.nil']; exact h'
  | cons v l ih => obtain ⟨x, ds, rfl, hv, hl⟩ := h.head; exact Vs.cons hv (ih hl)

theorem VR.mono {ι ι' : Io} {μ μ' : Mu} (hi : ∀ x q, ι x = some q → ι' x = some q) (hm : ∀ b cs, μ b = some cs → μ' b = some cs) {v x} (h : VR ι μ v x) : VR ι' μ' v x := by
  induction h with
  | u => exact .u
  | c h => exact .c (h.mono hm)
  | p h => exact .p (hi _ _ h)
  | s h h2 h3 => exact .s (hi _ _ h) h2 h3
  | s0 h => exact .s0 (hi _ _ h)
  | m h => exact .m (hi _ _ h)
  | f hx hy _ _ ih1 ih2 => exact .f hx hy ih1 ih2
  | a hl _ ih => exact .a hl ih
  | t hl _ ih => exact .t hl ih
theorem Vs.mono {ι ι' : Io} {μ μ' : Mu} (hi : ∀ x q, ι x = some q → ι' x = some q) (hm : ∀ b cs, μ b = some cs → μ' b = some cs) {l cs} (h : Vs ι μ l cs) : Vs ι' μ' l cs :=
  ⟨h.1, fun j v hv => let ⟨x, hx, hr⟩ := h.2 j v hv; ⟨x, hx, hr.mono hi hm⟩⟩

def O.wr : O → Bool
  | .row _ _ _ w _ _ => w
  | .map _ => true
def O.sib : O → Option Nat
  | .row _ _ _ _ _ s => s
  | .map _ => none

def oneV : Value → Bool
  | .agg _ | .tuple _ => false
  | _ => true
/-- A cell of a row of a kind. -/
def CR (ι : Io) (μ : Mu) (k : Nat) (v : V) (x : Value) : Prop :=
  (if 2 ≤ k then VC mu0 v x else if k = 1 then VC μ v x else VR ι μ v x) ∧ oneV x = true

def RO (ι : Io) (μ : Mu) (w : World) (x : Nat) : O → Prop
  | .row l k sz wr ow _ => (ow = true → wr = true) ∧ ((l = [] ∧ ι x = some none) ∨ ∃ L, ι x = some (some L) ∧ L.sz = sz ∧ l.length ≤ L.N ∧
      ∃ cs e fz, w.heap[L.b]? = some (.cells cs e fz) ∧ L.β + L.N ≤ cs.size ∧ (wr = true → fz = (0, 0)) ∧
        ∀ (j : Nat) v, l[j]? = some v → ∃ x, cs[L.β + j]? = some x ∧ CR ι μ k v x)
  | .map es => ∃ L, ι x = some (some L) ∧ ∃ es' clk, w.heap[L.b]? = some (.map es' clk) ∧ es.length = es'.size ∧
      ∀ (j : Nat) k v, es[j]? = some (k, v) → ∃ e : MapEntry, es'[j]? = some e ∧ VC mu0 k e.key ∧ VC mu0 v e.val

structure Rel (E : Env) (ι : Io) (μ : Mu) (h : Hp) (w : World) : Prop where
  obj : ∀ x o, h x = some o → RO ι μ w x o
  sep : ∀ x y ox oy L M, h x = some ox → h y = some oy → x ≠ y → ox.wr = true → ι x = some (some L) → ι y = some (some M) → L.b = M.b → ox.sib = some y
  sym : ∀ x y ox oy, h x = some ox → h y = some oy → ox.sib = some y → oy.sib = some x
  kin : ∀ x ox y, h x = some ox → ox.sib = some y → ι y ≠ none
  imm : ∀ b cs, μ b = some cs → ∃ e fz, w.heap[b]? = some (.cells cs e fz)
  off : ∀ b cs, μ b = some cs → ∀ x ox L, h x = some ox → ox.wr = true → ι x = some (some L) → L.b ≠ b
  glob : ∀ g, E.G g ≠ [] → VC μ (.q (E.G g) 0 true) (.pointer (some ⟨g, 0, none⟩))

/-- Of a function's call: where its own blocks begin, which older ones it may write, the world it began in. -/
structure Cx where
  B : Nat
  M : Nat → Prop
  w0 : World
  a : Nat
  ι0 : Io
  μ0 : Mu

structure Fr (B : Nat) (M : Nat → Prop) (w w' : World) : Prop where
  os : w'.os = w.os
  tape : w'.tape = w.tape
  output : w'.output = w.output
  size : w.heap.size ≤ w'.heap.size
  block : ∀ b, b < B → ¬ M b → w'.heap[b]? = w.heap[b]?
theorem Fr.refl (B M w) : Fr B M w w := ⟨rfl, rfl, rfl, Nat.le_refl _, fun _ _ _ => rfl⟩
theorem Fr.trans {B M a b c} (h : Fr B M a b) (k : Fr B M b c) : Fr B M a c :=
  ⟨k.os.trans h.os, k.tape.trans h.tape, k.output.trans h.output, Nat.le_trans h.size k.size, fun x hx hm => (k.block x hx hm).trans (h.block x hx hm)⟩

structure Inv (E : Env) (X : Cx) (ι : Io) (μ : Mu) (h : Hp) (w : World) : Prop where
  rel : Rel E ι μ h w
  anch : ∀ x, x < X.a → ι x = X.ι0 x
  new : ∀ x L, X.a ≤ x → ι x = some (some L) → X.B ≤ L.b
  wrM : ∀ x o L, x < X.a → h x = some o → o.wr = true → ι x = some (some L) → X.B ≤ L.b ∨ X.M L.b
  own : ∀ x l k sz wr sib, x < X.a → h x = some (.row l k sz wr true sib) → False
  fr : Fr X.B X.M X.w0 w
  mu : ∀ b cs, X.μ0 b = some cs → μ b = some cs
  muB : ∀ b cs, μ b = some cs → b < X.B → X.μ0 b = some cs ∨ ∃ k L, k < X.a ∧ X.ι0 k = some (some L) ∧ L.b = b
  size : X.B ≤ w.heap.size

end Go.Rk
namespace Go.Rk
open Go
set_option linter.unusedVariables false

theorem CR.mono {ι ι' : Io} {μ μ' : Mu} (hi : ∀ x q, ι x = some q → ι' x = some q) (hm : ∀ b cs, μ b = some cs → μ' b = some cs) {k v x} (h : CR ι μ k v x) : CR ι' μ' k v x := by
  refine ⟨?_, h.2⟩
  have h1 := h.1
  split
  · rw [if_pos ‹_›] at h1; exact h1
  · rw [if_neg ‹_›] at h1
    split
    · rw [if_pos ‹_›] at h1; exact h1.mono hm
    · rw [if_neg ‹_›] at h1; exact h1.mono hi hm
theorem CR.vr {ι μ k v x} (h : CR ι μ k v x) : VR ι μ v x := by
  have h1 := h.1
  split at h1
  · exact .c (h1.mono (fun _ _ h => by cases h))
  · split at h1
    · exact .c h1
    · exact h1

theorem RO.frame {ι ι' : Io} {μ μ' : Mu} {w w' : World} {x o} (h : RO ι μ w x o) (hi : ∀ x q, ι x = some q → ι' x = some q) (hm : ∀ b cs, μ b = some cs → μ' b = some cs)
    (hb : ∀ L, ι x = some (some L) → w'.heap[L.b]? = w.heap[L.b]?) : RO ι' μ' w' x o := by
  cases o with
  | row l k sz wr ow sib =>
    obtain ⟨h0, h⟩ := h
    refine ⟨h0, ?_⟩
    rcases h with ⟨hl, hx⟩ | ⟨L, hx, hs, hn, cs, e, fz, hw, hN, hf, hc⟩
    · exact .inl ⟨hl, hi _ _ hx⟩
    · refine .inr ⟨L, hi _ _ hx, hs, hn, cs, e, fz, by rw [hb L hx]; exact hw, hN, hf, fun j v hv => ?_⟩
      obtain ⟨y, hy, hr⟩ := hc j v hv
      exact ⟨y, hy, hr.mono hi hm⟩
  | map es =>
    obtain ⟨L, hx, es', clk, hw, hl, hc⟩ := h
    exact ⟨L, hi _ _ hx, es', clk, by rw [hb L hx]; exact hw, hl, hc⟩

theorem RO.lt {ι μ w x o L} (h : RO ι μ w x o) (hx : ι x = some (some L)) : L.b < w.heap.size := by
  cases o with
  | row l k sz wr ow sib =>
    rcases h.2 with ⟨_, hx'⟩ | ⟨L', hx', _, _, cs, e, fz, hw, _⟩
    · rw [hx] at hx'; cases hx'
    · rw [hx] at hx'; cases hx'
      exact (Array.getElem?_eq_some_iff.1 hw).1
  | map es =>
    obtain ⟨L', hx', es', clk, hw, _⟩ := h
    rw [hx] at hx'; cases hx'
    exact (Array.getElem?_eq_some_iff.1 hw).1
theorem RO.some {ι μ w x o} (h : RO ι μ w x o) : ι x ≠ none := by
  cases o with
  | row l k sz wr ow sib =>
    rcases h.2 with ⟨_, hx'⟩ | ⟨L', hx', _⟩ <;> simp [hx']
  | map es => obtain ⟨L', hx', _⟩ := h; simp [hx']

theorem Hp.set_same (h : Hp) (x o) : h.set x o x = o := by simp [Hp.set]
theorem Hp.set_ne (h : Hp) {x y : Nat} (o) (hn : y ≠ x) : h.set x o y = h y := by simp [Hp.set, hn]

def Io.set (ι : Io) (x : Nat) (q : Option Loc) : Io := fun y => if y = x then some q else ι y
theorem Io.set_same (ι : Io) (x q) : Io.set ι x q x = some q := by simp [Io.set]
theorem Io.set_ne (ι : Io) {x y : Nat} (q) (hn : y ≠ x) : Io.set ι x q y = ι y := by simp [Io.set, hn]
theorem Io.set_mono {ι : Io} {x : Nat} (q) (hx : ι x = none) : ∀ y p, ι y = some p → Io.set ι x q y = some p := by
  intro y p hy
  rw [Io.set_ne]; exact hy
  rintro rfl; rw [hx] at hy; cases hy

/-- A new object in a new block (or in none, where it is empty). -/
theorem Inv.alloc {E X ι μ h w} (hI : Inv E X ι μ h w) {sl : Nat} (hsl : ι sl = none) (ha : X.a ≤ sl) {o : O} {q : Option Loc} {w' : World}
    (hsib : o.sib = none)
    (hq : ∀ L, q = some L → L.b = w.heap.size)
    (hw : w'.heap.size ≥ w.heap.size ∧ w'.os = w.os ∧ w'.tape = w.tape ∧ w'.output = w.output ∧ ∀ b, b < w.heap.size → w'.heap[b]? = w.heap[b]?)
    (ho : RO (Io.set ι sl q) μ w' sl o) : Inv E X (Io.set ι sl q) μ (h.set sl (some o)) w' := by
  have hmono := Io.set_mono (x := sl) q hsl
  have hold : ∀ x p, h x = some p → x ≠ sl := by
    rintro x p hp rfl
    exact (hI.rel.obj _ _ hp).some hsl
  obtain ⟨hw1, hw2, hw3, hw4, hw5⟩ := hw
  constructor
  · constructor
    · intro x p hp
      by_cases hx : x = sl
      · subst hx; rw [Hp.set_same] at hp; cases hp; exact ho
      · rw [Hp.set_ne _ _ hx] at hp
        refine (hI.rel.obj x p hp).frame hmono (fun _ _ h => h) fun L hL => hw5 _ ?_
        exact (hI.rel.obj x p hp).lt hL
    · intro x y ox oy L M hx hy hxy hwr hL hM hb
      by_cases h1 : x = sl
      · subst h1
        rw [Hp.set_same] at hx; cases hx
        rw [Io.set_same] at hL; cases hL
        have hy1 : y ≠ x := Ne.symm hxy
        rw [Hp.set_ne _ _ hy1] at hy; rw [Io.set_ne _ _ hy1] at hM
        have := (hI.rel.obj y oy hy).lt hM
        have := hq L rfl
        omega
      · rw [Hp.set_ne _ _ h1] at hx; rw [Io.set_ne _ _ h1] at hL
        by_cases h2 : y = sl
        · subst h2
          rw [Io.set_same] at hM; cases hM
          have := (hI.rel.obj x ox hx).lt hL
          have := hq M rfl
          omega
        · rw [Hp.set_ne _ _ h2] at hy; rw [Io.set_ne _ _ h2] at hM
          exact hI.rel.sep x y ox oy L M hx hy hxy hwr hL hM hb
    · intro x y ox oy hx hy hs
      by_cases h1 : x = sl
      · subst h1; rw [Hp.set_same] at hx; cases hx; rw [hsib] at hs; cases hs
      · rw [Hp.set_ne _ _ h1] at hx
        by_cases h2 : y = sl
        · subst h2
          rw [Hp.set_same] at hy; cases hy
          exact (hI.rel.kin x ox y hx hs hsl).elim
        · rw [Hp.set_ne _ _ h2] at hy; exact hI.rel.sym x y ox oy hx hy hs
    · intro x p y hx hs
      by_cases h1 : x = sl
      · subst h1; rw [Hp.set_same] at hx; cases hx; rw [hsib] at hs; cases hs
      · rw [Hp.set_ne _ _ h1] at hx
        have h2 := hI.rel.kin x p y hx hs
        by_cases h3 : y = sl
        · subst h3; simp [Io.set_same]
        · rw [Io.set_ne _ _ h3]; exact h2
    · intro b cs hb
      obtain ⟨e, fz, hc⟩ := hI.rel.imm b cs hb
      exact ⟨e, fz, by rw [hw5 b (Array.getElem?_eq_some_iff.1 hc).1]; exact hc⟩
    · intro b cs hb x ox L hx hwr hL
      by_cases h1 : x = sl
      · subst h1
        rw [Io.set_same] at hL; cases hL
        obtain ⟨e, fz, hc⟩ := hI.rel.imm b cs hb
        have := (Array.getElem?_eq_some_iff.1 hc).1
        have := hq L rfl
        omega
      · rw [Hp.set_ne _ _ h1] at hx; rw [Io.set_ne _ _ h1] at hL
        exact hI.rel.off b cs hb x ox L hx hwr hL
    · exact hI.rel.glob
  · intro x hx; rw [Io.set_ne _ _ (by omega)]; exact hI.anch x hx
  · intro x L hx hL
    by_cases h1 : x = sl
    · subst h1; rw [Io.set_same] at hL; cases hL
      have := hq L rfl; have := hI.size; omega
    · rw [Io.set_ne _ _ h1] at hL; exact hI.new x L hx hL
  · intro x p L hx hp hwr hL
    have h1 : x ≠ sl := by omega
    rw [Hp.set_ne _ _ h1] at hp; rw [Io.set_ne _ _ h1] at hL
    exact hI.wrM x p L hx hp hwr hL
  · intro x l k sz wr sib hx hp
    rw [Hp.set_ne _ _ (by omega)] at hp
    exact hI.own x l k sz wr sib hx hp
  · refine hI.fr.trans ⟨hw2, hw3, hw4, hw1, fun b hb _ => hw5 b ?_⟩
    exact Nat.lt_of_lt_of_le hb hI.size
  · exact hI.mu
  · exact hI.muB
  · exact Nat.le_trans hI.size hw1

theorem sets_kill (h : Hp) (sib : Option Nat) (x : Nat) (o : O) (y : Nat) : (h.sets (kill sib ++ [(x, some o)])) y = if y = x then some o else if sib = some y then none else h y := by
  cases sib with
  | none => simp [kill, Hp.sets, Hp.set]
  | some z =>
    simp only [kill, List.cons_append, List.nil_append, Hp.sets, Hp.set, Option.some.injEq]
    by_cases h1 : y = x
    · simp [h1]
    · by_cases h2 : y = z
      · simp [h1, h2]
      · have : ¬ z = y := fun h => h2 h.symm
        simp [h1, h2, this]

/-- A row written anew, of as many cells; who might share its block falls. -/
theorem Inv.write {E X ι μ h w} (hI : Inv E X ι μ h w) {x : Nat} {l l' : List V} {k sz : Nat} {ow : Bool} {sib : Option Nat} {L : Loc} {cs cs' : Array Value} {e : TypeId} {fz : Nat × Nat}
    (hx : h x = some (.row l k sz true ow sib)) (hL : ι x = some (some L)) (hw : w.heap[L.b]? = some (.cells cs e fz)) (hsz : cs'.size = cs.size) (hl : l'.length = l.length)
    (hc : ∀ (j : Nat) v, l'[j]? = some v → ∃ y, cs'[L.β + j]? = some y ∧ CR ι μ k v y) :
    Inv E X ι μ (h.sets (kill sib ++ [(x, some (.row l' k sz true ow none))])) (w.setRow L.b cs') := by
  obtain ⟨h0, hr⟩ := hI.rel.obj _ _ hx
  obtain ⟨L', hL', hs, hn, cs0, e0, fz0, hw0, hN, hf, hc0⟩ : ∃ L, ι x = some (some L) ∧ L.sz = sz ∧ l.length ≤ L.N ∧
      ∃ cs e fz, w.heap[L.b]? = some (.cells cs e fz) ∧ L.β + L.N ≤ cs.size ∧ (true = true → fz = (0, 0)) ∧
        ∀ (j : Nat) v, l[j]? = some v → ∃ x, cs[L.β + j]? = some x ∧ CR ι μ k v x := by
    rcases hr with ⟨_, hx'⟩ | hr
    · rw [hL] at hx'; cases hx'
    · exact hr
  rw [hL] at hL'; cases hL'
  rw [hw] at hw0; cases hw0
  have hne : ∀ y oy M, h y = some oy → y ≠ x → some y ≠ sib → ι y = some (some M) → M.b ≠ L.b := by
    intro y oy M hy hyx hys hM hb
    have := hI.rel.sep x y _ oy L M hx hy (Ne.symm hyx) rfl hL hM hb.symm
    exact hys this.symm
  have hset : ∀ y p, (h.sets (kill sib ++ [(x, some (.row l' k sz true ow none))])) y = some p → (y = x ∧ p = .row l' k sz true ow none) ∨ (y ≠ x ∧ some y ≠ sib ∧ h y = some p) := by
    intro y p hp
    rw [sets_kill] at hp
    split at hp
    · cases hp; exact .inl ⟨‹_›, rfl⟩
    · split at hp
      · cases hp
      · exact .inr ⟨‹_›, fun h => ‹¬ sib = some y› h.symm, hp⟩
  constructor
  · constructor
    · intro y p hp
      rcases hset y p hp with ⟨rfl, rfl⟩ | ⟨hy, hys, hp⟩
      · refine ⟨fun _ => rfl, .inr ⟨L, hL, hs, by omega, cs', e, fz, setRow_heap w _ _ _ _ _ hw, by omega, hf, hc⟩⟩
      · exact (hI.rel.obj y p hp).frame (fun _ _ h => h) (fun _ _ h => h) fun M hM => setRow_other _ _ _ _ (hne y p M hp hy hys hM)
    · intro y z oy oz M M' hy hz hyz hwr hM hM' hb
      rcases hset y oy hy with ⟨rfl, rfl⟩ | ⟨hy1, hy2, hy3⟩
      · rcases hset z oz hz with ⟨rfl, rfl⟩ | ⟨hz1, hz2, hz3⟩
        · exact (hyz rfl).elim
        · rw [hL] at hM; cases hM
          exact (hne z oz M' hz3 hz1 hz2 hM' hb.symm).elim
      · rcases hset z oz hz with ⟨rfl, rfl⟩ | ⟨hz1, hz2, hz3⟩
        · rw [hL] at hM'; cases hM'
          exact (hne y oy M hy3 hy1 hy2 hM hb).elim
        · exact hI.rel.sep y z oy oz M M' hy3 hz3 hyz hwr hM hM' hb
    · intro y z oy oz hy hz hsb
      rcases hset y oy hy with ⟨rfl, rfl⟩ | ⟨hy1, hy2, hy3⟩
      · simp [O.sib] at hsb
      · rcases hset z oz hz with ⟨rfl, rfl⟩ | ⟨hz1, hz2, hz3⟩
        · have := hI.rel.sym y z oy _ hy3 hx hsb
          exact (hy2 this.symm).elim
        · exact hI.rel.sym y z oy oz hy3 hz3 hsb
    · intro y p z hy hsb
      rcases hset y p hy with ⟨rfl, rfl⟩ | ⟨hy1, hy2, hy3⟩
      · simp [O.sib] at hsb
      · exact hI.rel.kin y p z hy3 hsb
    · intro b cs1 hb
      obtain ⟨e1, fz1, h1⟩ := hI.rel.imm b cs1 hb
      have := hI.rel.off b cs1 hb x _ L hx rfl hL
      exact ⟨e1, fz1, by rw [setRow_other _ _ _ _ (Ne.symm this)]; exact h1⟩
    · intro b cs1 hb y oy M hy hwr hM
      rcases hset y oy hy with ⟨rfl, rfl⟩ | ⟨hy1, hy2, hy3⟩
      · exact hI.rel.off b cs1 hb y _ M hx rfl hM
      · exact hI.rel.off b cs1 hb y oy M hy3 hwr hM
    · exact hI.rel.glob
  · exact hI.anch
  · exact hI.new
  · intro y p M hya hp hwr hM
    rcases hset y p hp with ⟨rfl, rfl⟩ | ⟨hy1, hy2, hy3⟩
    · exact hI.wrM y _ M hya hx rfl hM
    · exact hI.wrM y p M hya hy3 hwr hM
  · intro y l1 k1 sz1 wr1 sib1 hya hp
    rcases hset y _ hp with ⟨rfl, h5⟩ | ⟨hy1, hy2, hy3⟩
    · cases h5; exact hI.own y l k sz true sib hya hx
    · exact hI.own y _ _ _ _ _ hya hy3
  · refine hI.fr.trans ⟨rfl, rfl, rfl, by simp, fun b hb hm => setRow_other _ _ _ _ ?_⟩
    rintro rfl
    by_cases hxa : x < X.a
    · rcases hI.wrM x _ L hxa hx rfl hL with h1 | h1
      · omega
      · exact hm h1
    · have := hI.new x L (by omega) hL; omega
  · exact hI.mu
  · exact hI.muB
  · simpa using hI.size

theorem sets_twin (h : Hp) (sib : Option Nat) (x sl : Nat) (o p : O) (y : Nat) (hne : x ≠ sl) : (h.sets (kill sib ++ [(x, some o), (sl, some p)])) y = if y = sl then some p else if y = x then some o else if sib = some y then none else h y := by
  cases sib with
  | none => simp [kill, Hp.sets, Hp.set]
  | some z =>
    simp only [kill, List.cons_append, List.nil_append, Hp.sets, Hp.set, Option.some.injEq]
    by_cases h1 : y = sl
    · simp [h1]
    · by_cases h2 : y = x
      · simp [h1, h2]
      · by_cases h3 : y = z
        · simp [h1, h2, h3]
        · have : ¬ z = y := fun h => h3 h.symm
          simp [h1, h2, h3, this]

/-- An append: the elder row stands, the new one lies in its block or in a new one; who else might share the block falls. -/
theorem Inv.twin {E X ι μ h w} (hI : Inv E X ι μ h w) {x sl : Nat} {l l' : List V} {k k' sz : Nat} {sib : Option Nat} {q : Option Loc} {w' : World}
    (hx : h x = some (.row l k sz true true sib)) (hsl : ι sl = none) (ha : X.a ≤ sl)
    (hq : ∀ L', q = some L' → L'.b = w.heap.size ∨ (X.a ≤ x ∧ ∃ L, ι x = some (some L) ∧ L'.b = L.b))
    (hw : w'.heap.size ≥ w.heap.size ∧ w'.os = w.os ∧ w'.tape = w.tape ∧ w'.output = w.output ∧
      ∀ b, b < w.heap.size → (∀ L, X.a ≤ x → ι x = some (some L) → b ≠ L.b) → w'.heap[b]? = w.heap[b]?)
    (hoX : RO (Io.set ι sl q) μ w' x (.row l k sz true true (some sl))) (hoS : RO (Io.set ι sl q) μ w' sl (.row l' k' sz true true (some x))) :
    Inv E X (Io.set ι sl q) μ (h.sets (kill sib ++ [(x, some (.row l k sz true true (some sl))), (sl, some (.row l' k' sz true true (some x)))])) w' := by
  have hmono := Io.set_mono (x := sl) q hsl
  have hxsl : x ≠ sl := by rintro rfl; exact (hI.rel.obj _ _ hx).some hsl
  obtain ⟨hw1, hw2, hw3, hw4, hw5⟩ := hw
  have hset : ∀ y p, (h.sets (kill sib ++ [(x, some (.row l k sz true true (some sl))), (sl, some (.row l' k' sz true true (some x)))])) y = some p →
      (y = sl ∧ p = .row l' k' sz true true (some x)) ∨ (y ≠ sl ∧ y = x ∧ p = .row l k sz true true (some sl)) ∨ (y ≠ sl ∧ y ≠ x ∧ sib ≠ some y ∧ h y = some p) := by
    intro y p hp
    rw [sets_twin _ _ _ _ _ _ _ hxsl] at hp
    split at hp
    · cases hp; exact .inl ⟨‹_›, rfl⟩
    · split at hp
      · cases hp; exact .inr (.inl ⟨‹_›, ‹_›, rfl⟩)
      · split at hp
        · cases hp
        · exact .inr (.inr ⟨‹_›, ‹_›, ‹_›, hp⟩)
  have hne : ∀ y oy L M, h y = some oy → y ≠ x → sib ≠ some y → ι x = some (some L) → ι y = some (some M) → L.b ≠ M.b := by
    intro y oy L M hy hyx hys hL hM hb
    exact hys (hI.rel.sep x y _ oy L M hx hy (Ne.symm hyx) rfl hL hM hb)
  constructor
  · constructor
    · intro y p hp
      rcases hset y p hp with ⟨rfl, rfl⟩ | ⟨h1, rfl, rfl⟩ | ⟨h1, h2, h3, h4⟩
      · exact hoS
      · exact hoX
      · refine (hI.rel.obj y p h4).frame hmono (fun _ _ h => h) fun M hM => hw5 _ ((hI.rel.obj y p h4).lt hM) ?_
        intro L _ hL
        exact Ne.symm (hne y p L M h4 h2 h3 hL hM)
    · intro y z oy oz M M' hy hz hyz hwr hM hM' hb
      have side : ∀ z oz M M', z ≠ sl → z ≠ x → sib ≠ some z → h z = some oz → Io.set ι sl q sl = some (some M) → Io.set ι sl q z = some (some M') → M.b ≠ M'.b := by
        intro z oz M M' hz1 hz2 hz3 hz4 hM hM' hb
        rw [Io.set_same] at hM; cases hM
        rw [Io.set_ne _ _ hz1] at hM'
        have hlt := (hI.rel.obj z oz hz4).lt hM'
        rcases hq M rfl with h5 | ⟨_, L, hL, h5⟩
        · omega
        · exact hne z oz L M' hz4 hz2 hz3 hL hM' (h5 ▸ hb)
      rcases hset y oy hy with ⟨rfl, rfl⟩ | ⟨h1, rfl, rfl⟩ | ⟨h1, h2, h3, h4⟩
      · rcases hset z oz hz with ⟨rfl, rfl⟩ | ⟨g1, rfl, rfl⟩ | ⟨g1, g2, g3, g4⟩
        · exact (hyz rfl).elim
        · rfl
        · exact (side z oz M M' g1 g2 g3 g4 hM hM' hb).elim
      · rcases hset z oz hz with ⟨rfl, rfl⟩ | ⟨g1, rfl, rfl⟩ | ⟨g1, g2, g3, g4⟩
        · rfl
        · exact (hyz rfl).elim
        · rw [Io.set_ne _ _ h1] at hM; rw [Io.set_ne _ _ g1] at hM'
          exact (hne z oz M M' g4 g2 g3 hM hM' hb).elim
      · rcases hset z oz hz with ⟨rfl, rfl⟩ | ⟨g1, rfl, rfl⟩ | ⟨g1, g2, g3, g4⟩
        · exact (side y oy M' M h1 h2 h3 h4 hM' hM hb.symm).elim
        · rw [Io.set_ne _ _ h1] at hM; rw [Io.set_ne _ _ g1] at hM'
          exact (hne y oy M' M h4 h2 h3 hM' hM hb.symm).elim
        · rw [Io.set_ne _ _ h1] at hM; rw [Io.set_ne _ _ g1] at hM'
          exact hI.rel.sep y z oy oz M M' h4 g4 hyz hwr hM hM' hb
    · intro y z oy oz hy hz hsb
      rcases hset y oy hy with ⟨rfl, rfl⟩ | ⟨h1, rfl, rfl⟩ | ⟨h1, h2, h3, h4⟩
      · cases hsb
        rcases hset x oz hz with ⟨rfl, rfl⟩ | ⟨g1, _, rfl⟩ | ⟨g1, g2, g3, g4⟩
        · exact (hxsl rfl).elim
        · rfl
        · exact (g2 rfl).elim
      · cases hsb
        rcases hset sl oz hz with ⟨_, rfl⟩ | ⟨g1, rfl, rfl⟩ | ⟨g1, g2, g3, g4⟩
        · rfl
        · exact (hxsl rfl).elim
        · exact (g1 rfl).elim
      · rcases hset z oz hz with ⟨rfl, rfl⟩ | ⟨g1, rfl, rfl⟩ | ⟨g1, g2, g3, g4⟩
        · exact (hI.rel.kin y oy z h4 hsb hsl).elim
        · exact (h3 (hI.rel.sym y z oy _ h4 hx hsb)).elim
        · exact hI.rel.sym y z oy oz h4 g4 hsb
    · intro y p z hy hsb
      rcases hset y p hy with ⟨rfl, rfl⟩ | ⟨h1, rfl, rfl⟩ | ⟨h1, h2, h3, h4⟩
      · cases hsb; rw [Io.set_ne _ _ hxsl]; exact (hI.rel.obj _ _ hx).some
      · cases hsb; simp [Io.set_same]
      · have := hI.rel.kin y p z h4 hsb
        by_cases h5 : z = sl
        · subst h5; simp [Io.set_same]
        · rw [Io.set_ne _ _ h5]; exact this
    · intro b cs hb
      obtain ⟨e, fz, hc⟩ := hI.rel.imm b cs hb
      exact ⟨e, fz, by rw [hw5 b (Array.getElem?_eq_some_iff.1 hc).1 fun L _ hL => Ne.symm (hI.rel.off b cs hb x _ L hx rfl hL)]; exact hc⟩
    · intro b cs hb y oy M hy hwr hM
      rcases hset y oy hy with ⟨rfl, rfl⟩ | ⟨h1, rfl, rfl⟩ | ⟨h1, h2, h3, h4⟩
      · rw [Io.set_same] at hM; cases hM
        obtain ⟨e, fz, hc⟩ := hI.rel.imm b cs hb
        have hlt := (Array.getElem?_eq_some_iff.1 hc).1
        rcases hq M rfl with h5 | ⟨_, L, hL, h5⟩
        · omega
        · rw [h5]; exact hI.rel.off b cs hb x _ L hx rfl hL
      · rw [Io.set_ne _ _ h1] at hM
        exact hI.rel.off b cs hb y _ M hx rfl hM
      · rw [Io.set_ne _ _ h1] at hM
        exact hI.rel.off b cs hb y oy M h4 hwr hM
    · exact hI.rel.glob
  · intro y hy; rw [Io.set_ne _ _ (by omega)]; exact hI.anch y hy
  · intro y M hya hM
    by_cases h1 : y = sl
    · subst h1; rw [Io.set_same] at hM; cases hM
      rcases hq M rfl with h5 | ⟨hxa, L, hL, h5⟩
      · have := hI.size; omega
      · rw [h5]; exact hI.new x L hxa hL
    · rw [Io.set_ne _ _ h1] at hM; exact hI.new y M hya hM
  · intro y p M hya hp hwr hM
    have h1 : y ≠ sl := by omega
    rw [Io.set_ne _ _ h1] at hM
    rcases hset y p hp with ⟨rfl, rfl⟩ | ⟨_, rfl, rfl⟩ | ⟨_, h2, h3, h4⟩
    · exact (h1 rfl).elim
    · exact hI.wrM y _ M hya hx rfl hM
    · exact hI.wrM y p M hya h4 hwr hM
  · intro y l1 k1 sz1 wr1 sib1 hya hp
    rcases hset y _ hp with ⟨rfl, h5⟩ | ⟨_, rfl, h5⟩ | ⟨_, h2, h3, h4⟩
    · omega
    · exact hI.own y l k sz true sib hya hx
    · exact hI.own y _ _ _ _ _ hya h4
  · refine hI.fr.trans ⟨hw2, hw3, hw4, hw1, fun b hb hm => hw5 b (Nat.lt_of_lt_of_le hb hI.size) ?_⟩
    intro L hxa hL hbL
    have := hI.new x L hxa hL
    omega
  · exact hI.mu
  · exact hI.muB
  · exact Nat.le_trans hI.size hw1

end Go.Rk
namespace Go.Rk
open Go
set_option linter.unusedVariables false
set_option linter.unusedSimpArgs false

theorem Rd.run_bind {α β : Type} {x : Rd α} {f : α → Rd β} {h : Hp} {b : β} {R : List Nat} (hr : (x.bind f).run h = some (b, R)) :
    ∃ a R1 R2, x.run h = some (a, R1) ∧ (f a).run h = some (b, R2) ∧ R = R1 ++ R2 := by
  induction x generalizing R with
  | ret a => exact ⟨a, [], R, rfl, hr, rfl⟩
  | get y k ih =>
    simp only [Rd.bind, Rd.run] at hr
    split at hr
    · rename_i a R' hk
      cases hr
      obtain ⟨a1, R1, R2, h1, h2, rfl⟩ := ih _ hk
      exact ⟨a1, y :: R1, R2, by simp [Rd.run, h1], h2, rfl⟩
    · cases hr
  | bad => cases hr
theorem Rd.bind_run {α β : Type} {x : Rd α} {f : α → Rd β} {h : Hp} {a : α} {b : β} {R1 R2 : List Nat} (h1 : x.run h = some (a, R1)) (h2 : (f a).run h = some (b, R2)) :
    (x.bind f).run h = some (b, R1 ++ R2) := by
  induction x generalizing R1 with
  | ret c => cases h1; exact h2
  | get y k ih =>
    simp only [Rd.run] at h1
    split at h1
    · rename_i c R' hk
      cases h1
      have := ih _ hk
      simp [Rd.bind, Rd.run, this]
    · cases h1
  | bad => cases h1
theorem Rd.run_of {α : Type} {o : Option α} {b : α} {h R} (hr : (Rd.of o).run h = some (b, R)) : o = some b ∧ R = [] := by
  cases o with
  | none => cases hr
  | some a => cases hr; exact ⟨rfl, rfl⟩
theorem Rd.run_row {x h b R} (hr : (Rd.row x).run h = some (b, R)) : h x = some (.row b.1 b.2.1 b.2.2.1 b.2.2.2.1 b.2.2.2.2.1 b.2.2.2.2.2) := by
  unfold Rd.row at hr
  simp only [Rd.run] at hr
  split at hr
  · rename_i a R' hk
    cases hr
    split at hk
    · cases hk; assumption
    · cases hk
  · cases hr

/-- Reading no more than was noted, the same comes. -/
theorem Rd.local {α : Type} {x : Rd α} {h h' : Hp} {a : α} {R : List Nat} (hr : x.run h = some (a, R)) (hh : ∀ y, y ∈ R → h' y = h y) : x.run h' = some (a, R) := by
  induction x generalizing R with
  | ret b => exact hr
  | get y k ih =>
    simp only [Rd.run] at hr ⊢
    split at hr
    · rename_i b R' hk
      cases hr
      have h1 := ih _ hk (fun z hz => hh z (List.mem_cons_of_mem _ hz))
      rw [hh y (List.mem_cons_self ..), h1]
    · cases hr
  | bad => cases hr

section
variable {P : Program} {t : TypeId} {h : Hp} {R : List Nat}
theorem run_aggOf {c} (hr : (aggOf P t).run h = some (c, R)) : R = [] ∧ ∀ w, (isAgg t).run P w = .ok c w := by
  unfold aggOf at hr
  split at hr
  · cases hr; refine ⟨rfl, fun w => ?_⟩; simp [isAgg, run_underlying ‹P.underlying t = _›]
  · cases hr; refine ⟨rfl, fun w => ?_⟩; simp [isAgg, run_underlying ‹P.underlying t = _›]
  · cases hr; refine ⟨rfl, fun w => ?_⟩
    rename_i d h1 h2 h3
    simp only [isAgg, Sem.run_bind, run_underlying h3, Result.andThen_ok]
    cases d <;> simp_all
  · cases hr
theorem run_szOf {n} (hr : (szOf P t).run h = some (n, R)) : R = [] ∧ ∃ i, P.info? t = some i ∧ i.size = n := by
  unfold szOf at hr
  split at hr
  · rename_i i hi; cases hr; exact ⟨rfl, i, hi, rfl⟩
  · cases hr
theorem sizeOf_run {n} (hr : (szOf P t).run h = some (n, R)) (w : World) : (sizeOf t).run P w = .ok n w := by
  obtain ⟨_, i, hi, rfl⟩ := run_szOf hr
  simp [sizeOf, typeInfo, hi]
theorem run_elemOf {e} (hr : (elemOf P t).run h = some (e, R)) : R = [] ∧ P.underlying t = some (.slice e) := by
  unfold elemOf at hr
  split at hr
  · cases hr; exact ⟨rfl, ‹_›⟩
  · cases hr
theorem run_bytesOf {n} (hr : (bytesOf P t).run h = some (n, R)) : R = [] ∧ ∃ i, P.info? t = some i ∧ i.bytes = n := by
  unfold bytesOf at hr
  split at hr
  · rename_i i hi; cases hr; exact ⟨rfl, i, hi, rfl⟩
  · cases hr
theorem scalar_vr {x v} (hs : scalar x = some v) : VC mu0 v x ∧ oneV x = true ∧ v.one = true ∧ v.closed = true ∧ x.cells = #[x] := by
  unfold scalar at hs
  split at hs <;> cases hs <;> exact ⟨by constructor <;> rfl, rfl, rfl, rfl, rfl⟩
end

section
variable {ι : Io} {μ : Mu}
theorem VR.i_inv {k n x} (h : VR ι μ (.i k n) x) : x = .int k n := by cases h with | c h => cases h; rfl
theorem VR.b_inv {b x} (h : VR ι μ (.b b) x) : x = .bool b := by cases h with | c h => cases h; rfl
theorem VR.pn_inv {x} (h : VR ι μ (.p none) x) : x = .pointer none := by cases h with | c h => cases h; rfl
theorem VR.sn_inv {n x} (h : VR ι μ (.s none n) x) : x = .slice none 0 0 ∧ n = 0 := by cases h with | c h => cases h; exact ⟨rfl, ‹_›⟩
theorem VR.tx_inv {s x} (h : VR ι μ (.tx s) x) : x = .string s := by cases h with | c h => cases h; rfl
theorem VR.z_inv {x} (h : VR ι μ .z x) : x = .nilFunc := by cases h with | c h => cases h; rfl
theorem VR.p_inv {y o x} (h : VR ι μ (.p (some (y, o))) x) : ∃ L, ι y = some (some L) ∧ x = .pointer (some ⟨L.b, L.β + o, none⟩) := by
  cases h with
  | c h => cases h
  | p h => exact ⟨_, h, rfl⟩
theorem VR.s_inv {y o n x} (h : VR ι μ (.s (some (y, o)) n) x) :
    (∃ L cap, ι y = some (some L) ∧ n ≤ cap ∧ o + cap * L.sz ≤ L.N ∧ x = .slice (some ⟨L.b, L.β + o, none⟩) n cap) ∨ (n = 0 ∧ ι y ≠ none ∧ ∃ a, x = .slice a 0 0) := by
  cases h with
  | c h => cases h
  | s h h1 h2 => exact .inl ⟨_, _, h, h1, h2, rfl⟩
  | s0 h => exact .inr ⟨rfl, by simp [h], _, rfl⟩
theorem VR.r_inv {l n pl x} (h : VR ι μ (.r l n pl) x) : VC μ (.r l n pl) x := by cases h with | c h => exact h
theorem VR.q_inv {l o pl x} (h : VR ι μ (.q l o pl) x) : VC μ (.q l o pl) x := by cases h with | c h => exact h
theorem VR.m_inv {y x} (h : VR ι μ (.m y) x) : ∃ L, ι y = some (some L) ∧ x = .map (some L.b) := by
  cases h with
  | c h => cases h
  | m h => exact ⟨_, h, rfl⟩
theorem VR.a_inv {l x} (h : VR ι μ (.a l) x) : ∃ cs : List Value, x = .agg cs.toArray ∧ Vs ι μ l cs := by
  cases h with
  | c h => cases h
  | a hl h => exact ⟨_, rfl, .of hl h⟩
theorem VR.t_inv {l x} (h : VR ι μ (.t l) x) : ∃ cs : List Value, x = .tuple cs.toArray ∧ Vs ι μ l cs := by
  cases h with
  | c h => cases h
  | t hl h => exact ⟨_, rfl, .of hl h⟩
theorem VR.f_inv {g xs ys x} (h : VR ι μ (.f g xs ys) x) : ∃ cs ds : List Value, x = .func (.func g) cs.toArray ds.toArray ∧ Vs ι μ xs cs ∧ Vs ι μ ys ds := by
  cases h with
  | c h => cases h
  | f hx hy h1 h2 => exact ⟨_, _, rfl, .of hx h1, .of hy h2⟩
theorem VR.mk_a {l} {cs : List Value} (h : Vs ι μ l cs) : VR ι μ (.a l) (.agg cs.toArray) := .a h.1 h.at
theorem VR.mk_t {l} {cs : List Value} (h : Vs ι μ l cs) : VR ι μ (.t l) (.tuple cs.toArray) := .t h.1 h.at
theorem VR.mk_f {g xs ys} {cs ds : List Value} (h : Vs ι μ xs cs) (h' : Vs ι μ ys ds) : VR ι μ (.f g xs ys) (.func (.func g) cs.toArray ds.toArray) := .f h.1 h'.1 h.at h'.at
/-- A value of one known cell. -/
theorem VR.one {v x} (h : VR ι μ v x) (hv : v.one = true) : oneV x = true := by
  cases h with
  | u => cases hv
  | c h => cases h <;> rfl
  | p _ => rfl
  | s _ _ _ => rfl
  | s0 _ => rfl
  | m _ => rfl
  | f _ _ _ _ => rfl
  | a _ _ => cases hv
  | t _ _ => cases hv
theorem oneV_cells {x : Value} (h : oneV x = true) : x.cells = #[x] := by cases x <;> first | rfl | cases h
theorem oneV_one' {x : Value} (h : oneV x = true) : x.oneCell' = true := by cases x <;> first | rfl | cases h
/-- The cells of a value that is known. -/
theorem VR.cells {v x} (h : VR ι μ v x) (hv : v.ok = true) : ∃ cs : List Value, x.cells = cs.toArray ∧ Vs ι μ v.cells cs ∧ ∀ c ∈ cs, oneV c = true := by
  by_cases h1 : v.one = true
  · have h2 := h.one h1
    refine ⟨[x], by rw [oneV_cells h2], ?_, by simpa using h2⟩
    have : v.cells = [v] := by cases v <;> first | rfl | cases h1
    rw [this]; exact .cons h .nil
  · cases v <;> first | (exact (h1 rfl).elim) | (cases hv; done) | skip
    rename_i l
    obtain ⟨cs, rfl, hc⟩ := h.a_inv
    refine ⟨cs, rfl, hc, fun c hm => ?_⟩
    obtain ⟨j, hj, rfl⟩ := List.getElem_of_mem hm
    have := hc.at j (by rw [hc.1]; exact hj)
    refine this.one ?_
    simp only [V.ok, List.all_eq_true] at hv
    exact hv _ (List.getElem_mem _)
theorem VC.of_plain {v x} (h : VR ι μ v x) (hp : v.plain = true) : VC mu0 v x := by
  cases v <;> first | (cases hp; done) | skip
  · rw [h.b_inv]; exact .b
  · rw [h.i_inv]; exact .i
theorem VC.of_closed {v x} (h : VR ι μ v x) (hp : v.closed = true) : VC μ v x := by
  cases h with
  | u => cases hp
  | c h => exact h
  | p _ => cases hp
  | s _ _ _ => cases hp
  | s0 _ => cases hp
  | m _ => cases hp
  | f _ _ _ _ => cases hp
  | a _ _ => cases hp
  | t _ _ => cases hp
theorem VC.to0 {v x} (h : VC mu0 v x) : VC μ v x := h.mono (fun _ _ h => by cases h)
end

theorem VC.r_cases {μ : Mu} {l n pl x} (h : VC μ (.r l n pl) x) : (l = [] ∧ n = 0 ∧ ∃ a, x = .slice a 0 0) ∨
    ∃ blk o cap, ∃ (cs : Array Value) (g : Nat → Value), x = .slice (some ⟨blk, o, none⟩) n cap ∧ μ blk = some cs ∧ n ≤ cap ∧ (∀ j, j < l.length → cs[o + j]? = some (g j)) ∧
      ∀ j (h : j < l.length), VC (if pl = true then mu0 else μ) l[j] (g j) := by
  cases h with
  | r g hb hn hc hr => exact .inr ⟨_, _, _, _, g, rfl, hb, hn, hc, hr⟩
  | r0 => exact .inl ⟨rfl, rfl, _, rfl⟩

theorem VC.q_cases {μ : Mu} {l o pl x} (h : VC μ (.q l o pl) x) :
    ∃ blk bo, ∃ (cs : Array Value) (g : Nat → Value), x = .pointer (some ⟨blk, bo + o, none⟩) ∧ μ blk = some cs ∧ (∀ j, j < l.length → cs[bo + j]? = some (g j)) ∧
      ∀ j (h : j < l.length), VC (if pl = true then mu0 else μ) l[j] (g j) := by
  cases h with
  | q g hb hc hr => exact ⟨_, _, _, g, rfl, hb, hc, hr⟩

/-- What an operation comes to. -/
def Goes (E : Env) (X : Cx) (ι : Io) (μ : Mu) (h : Hp) (sl : Nat) (w : World) (r : Result Next) (v : V) (U : Up) : Prop :=
  ∃ x w' ι', (r = .ok (.value x) w' ∨ (r = .ok .skip w' ∧ x = undef)) ∧ VR ι' μ v x ∧ Inv E X ι' μ (h.sets U) w' ∧
    (∀ y, y ≠ sl → ι' y = ι y) ∧ (∀ y q, ι y = some q → ι' y = some q)
theorem Goes.pure {E X ι μ h sl w r v x} (hI : Inv E X ι μ h w) (hr : r = .ok (.value x) w) (hv : VR ι μ v x) : Goes E X ι μ h sl w r v [] :=
  ⟨x, w, ι, .inl hr, hv, hI, fun _ _ => rfl, fun _ _ h => h⟩
theorem vr_undef {ι μ} : VR ι μ (.t []) undef := .mk_t (cs := []) .nil

/-- A new block. -/
theorem Goes.new {E X ι μ h sl w r l k sz n v} {cs : List Value} {more : List Value} {e : TypeId} {w1 : World} (hI : Inv E X ι μ h w) (hsl : ι sl = none) (ha : X.a ≤ sl)
    (hw1 : w1.heap = w.heap ∧ w1.os = w.os ∧ w1.tape = w.tape ∧ w1.output = w.output)
    (x : Value) (hr : r = .ok (.value x) (w1.alloc (.cells (cs ++ more).toArray e)))
    (hv : VR (Io.set ι sl (some ⟨w.heap.size, 0, n, sz⟩)) μ v x) (hn : l.length ≤ n) (hn2 : n ≤ (cs ++ more).length) (hl : l.length = cs.length)
    (hc : ∀ (j : Nat) v x, l[j]? = some v → cs[j]? = some x → CR ι μ k v x) :
    Goes E X ι μ h sl w r v [(sl, some (.row l k sz true true none))] := by
  obtain ⟨hw1, hw2, hw3, hw4⟩ := hw1
  refine ⟨x, _, _, .inl hr, hv, hI.alloc hsl ha rfl (q := some ⟨w.heap.size, 0, n, sz⟩) (fun L h => by cases h; rfl) ⟨by simp [hw1], hw2, hw3, hw4, ?_⟩ ?_, fun y hy => Io.set_ne _ _ hy, Io.set_mono _ hsl⟩
  · intro b hb
    rw [RowKit.Below.heap_alloc _ _ _ (by rw [hw1]; exact hb), hw1]
  · refine ⟨fun _ => rfl, .inr ⟨_, Io.set_same _ _ _, rfl, hn, (cs ++ more).toArray, e, (0, 0), by simp [World.alloc, hw1], by simpa using hn2, fun _ => rfl, ?_⟩⟩
    intro j v hj
    obtain ⟨hj1, rfl⟩ := List.getElem?_eq_some_iff.1 hj
    have hj2 : j < cs.length := by omega
    refine ⟨cs[j], by simp [List.getElem?_append_left hj2], ?_⟩
    exact (hc j _ _ hj (List.getElem?_eq_getElem hj2)).mono (Io.set_mono _ hsl) (fun _ _ h => h)


variable {E : Env} {X : Cx} {ι : Io} {μ : Mu} {h : Hp} {sl : Nat} {w : World} {R : List Nat}

theorem run_v {P : Program} {s : Sem Value} {x : Value} {w' : World} (hs : s.run P w = .ok x w') : (do pure (Next.value (← s)) : Sem Next).run P w = .ok (.value x) w' := by
  simp [hs]
theorem run_u {P : Program} {s : Sem Unit} {w' : World} (hs : s.run P w = .ok () w') : (do s; pure Next.skip : Sem Next).run P w = .ok .skip w' := by
  simp [hs]

theorem sameIn_run {P : Program} {t : TypeId} {x y : V} {c : Bool} {x' y' : Value} (hc : V.same (P.underlying t) x y = some c) (hx : VR ι μ x x') (hy : VR ι μ y y') (w : World) (d : Nat) :
    (Op.equalIn (d + 1) t x' y').run P w = .ok c w ∧ (x'.oneCell' = true ∧ y'.oneCell' = true) ∧ (x' ≠ .nilIface) ∧ (∀ k n, x' ≠ .int k n) ∧
    (∀ k n, x' ≠ .float k n) ∧ (∀ k n m, x' ≠ .complex k n m) ∧ (∀ s, x' ≠ .string s) := by
  unfold V.same at hc
  split at hc <;> cases hc
  · rename_i hu
    rw [hx.b_inv, hy.b_inv]
    refine ⟨?_, ⟨rfl, rfl⟩, by simp, by simp, by simp, by simp, by simp⟩
    rw [Op.equalIn, Sem.run_bind, run_underlying hu]; rfl
  · rename_i hu
    rw [hx.pn_inv, hy.pn_inv]
    refine ⟨?_, ⟨rfl, rfl⟩, by simp, by simp, by simp, by simp, by simp⟩
    rw [Op.equalIn, Sem.run_bind, run_underlying hu]; rfl
  · rename_i hu
    obtain ⟨L, _, rfl⟩ := hy.p_inv
    rw [hx.pn_inv]
    refine ⟨?_, ⟨rfl, rfl⟩, by simp, by simp, by simp, by simp, by simp⟩
    rw [Op.equalIn, Sem.run_bind, run_underlying hu]; rfl
  · rename_i hu
    obtain ⟨L, _, rfl⟩ := hx.p_inv
    rw [hy.pn_inv]
    refine ⟨?_, ⟨rfl, rfl⟩, by simp, by simp, by simp, by simp, by simp⟩
    rw [Op.equalIn, Sem.run_bind, run_underlying hu]; rfl
  · rename_i hu
    cases hy.q_inv
    rw [hx.pn_inv]
    refine ⟨?_, ⟨rfl, rfl⟩, by simp, by simp, by simp, by simp, by simp⟩
    rw [Op.equalIn, Sem.run_bind, run_underlying hu]; rfl
  · rename_i hu
    cases hx.q_inv
    rw [hy.pn_inv]
    refine ⟨?_, ⟨rfl, rfl⟩, by simp, by simp, by simp, by simp, by simp⟩
    rw [Op.equalIn, Sem.run_bind, run_underlying hu]; rfl
  · rename_i hu
    rw [hx.sn_inv.1, hy.sn_inv.1]
    refine ⟨?_, ⟨rfl, rfl⟩, by simp, by simp, by simp, by simp, by simp⟩
    rw [Op.equalIn, Sem.run_bind, run_underlying hu]; rfl

theorem eqGuard_one (P : Program) (op : BinOp) (t : TypeId) (x y : Operand) (a b : Value) (w : World) (ha : a.oneCell' = true) (hn : a ≠ .nilIface) : (eqGuard op t x y a b).run P w = .ok () w := by
  cases op <;> first
    | rfl
    | (cases a <;> first | (cases ha; done) | exact (hn rfl).elim | rfl)

theorem shift_runI (k yk : IntKind) (op : BinOp) (x y : Int) (hy : 0 ≤ y) (hop : op = .shl ∨ op = .shr) : Op.shift op k x yk y = pure (.int k (if op = .shl then shlI k x y else shrI k x y)) := by
  have hn : ¬ y < 0 := by omega
  rcases hop with rfl | rfl
  · simp [Op.shift, hn, shlI]
  · have hp : (0 : Int) ≤ 2 ^ min y.toNat k.bits := Int.pow_nonneg (by decide)
    simp [Op.shift, hn, shrI, Int.fdiv_eq_ediv_of_nonneg _ hp]

theorem eqFields_run {P : Program} {d : Nat} {xs ys : List V} {cs ds : List Value} (hx : Vs ι μ xs cs) (hy : Vs ι μ ys ds) : ∀ (fs : List Field) (r : Bool), eqFieldsV P xs ys fs = some r →
    (Op.eqFields (d + 1) cs.toArray ds.toArray fs).run P w = .ok r w := by
  intro fs
  induction fs with
  | nil => intro r hr; cases hr; rfl
  | cons f fs ih =>
    intro r hr
    simp only [eqFieldsV] at hr
    split at hr
    · cases hr
    · rename_i hn
      have part1 : ∀ {l : List V} {es : List Value} {v : V} {dd : TypeDesc}, P.underlying f.type = some dd → (match dd with | .struct _ | .array _ _ => True | _ => False) = False → Vs ι μ l es → l[f.offset]? = some v →
          ∃ x, (Go.part f.type es.toArray f.offset).run P w = .ok x w ∧ VR ι μ v x := by
        intro l es v dd hu hd hl hv
        obtain ⟨x, hx1, hx2⟩ := hl.2 _ _ hv
        refine ⟨x, ?_, hx2⟩
        have ha : (isAgg f.type).run P w = .ok false w := by
          simp only [isAgg, Sem.run_bind, run_underlying hu, Result.andThen_ok]
          cases dd <;> first | rfl | (simp at hd)
        simp [Go.part, ha, hx1]
      split at hr
      · rename_i k0 k a k' b r' hu h1 h2 h3
        split at hr
        · subst ‹k = k'›
          cases hr
          obtain ⟨x, px, vx⟩ := part1 hu (by simp) hx h1
          obtain ⟨y, py, vy⟩ := part1 hu (by simp) hy h2
          have hi := ih r' h3
          rw [vx.i_inv] at px; rw [vy.i_inv] at py
          simp only [Op.eqFields, if_pos hn, ne_eq, hn, not_false_eq_true, if_true, Sem.run_bind, px, py, Result.andThen_ok, run_equalIn_int w d f.type k k0 a b hu]
          by_cases he : a = b
          · subst he; simpa using hi
          · have : (a == b) = false := by simpa using he
            simp [this]
        · cases hr
      · rename_i a b r' hu h1 h2 h3
        cases hr
        obtain ⟨x, px, vx⟩ := part1 hu (by simp) hx h1
        obtain ⟨y, py, vy⟩ := part1 hu (by simp) hy h2
        have hi := ih r' h3
        rw [vx.b_inv] at px; rw [vy.b_inv] at py
        simp only [Op.eqFields, if_pos hn, ne_eq, hn, not_false_eq_true, if_true, Sem.run_bind, px, py, Result.andThen_ok, run_equalIn_bool' w d f.type a b hu]
        by_cases he : a = b
        · subst he; simpa using hi
        · have : (a == b) = false := by simpa using he
          simp [this]
      · cases hr

theorem sameV_run {t : TypeId} {x y : V} {c : Bool} {x' y' : Value} (hc : sameV E.P t x y = some c) (hx : VR ι μ x x') (hy : VR ι μ y y') (w : World) (ox oy : Operand) :
    (eqGuard .eql t ox oy x' y').run E.P w = .ok () w ∧ (eqGuard .neq t ox oy x' y').run E.P w = .ok () w ∧
    (binOp .eql t x' y').run E.P w = .ok (.bool c) w ∧ (binOp .neq t x' y').run E.P w = .ok (.bool (!c)) w := by
  unfold sameV at hc
  split at hc
  · rename_i xs ys
    split at hc
    · rename_i hg
      split at hc
      · rename_i fs hu
        obtain ⟨cs, rfl, hcs⟩ := hx.a_inv
        obtain ⟨ds, rfl, hds⟩ := hy.a_inv
        have hf : E.P.fieldsOf t = fs := by unfold Program.fieldsOf; rw [hu]
        have hu' : E.P.underlying t = some (.struct (E.P.fieldsOf t)) := by rw [hf]; exact hu
        have he := run_equalIn_struct w 9999 t cs.toArray ds.toArray hu' hg.1
        rw [hf] at he
        have hr := eqFields_run (P := E.P) (w := w) (d := 9998) hcs hds fs.toList c hc
        rw [show Op.eqFields 9999 = Op.eqFields (9998 + 1) from rfl, hr] at he
        refine ⟨run_eqGuard_agg w _ _ _ _ _ _ hg.2, run_eqGuard_agg w _ _ _ _ _ _ hg.2, ?_, ?_⟩
        · rw [run_eql_struct]
          rw [show Op.equalIn 10000 = Op.equalIn (9999 + 1) from rfl, he]; rfl
        · rw [run_neq_struct]
          rw [show Op.equalIn 10000 = Op.equalIn (9999 + 1) from rfl, he]; rfl
      · cases hc
    · cases hc
  · obtain ⟨h4, ⟨h5, h6⟩, h7, h8, h9, h10, h11⟩ := sameIn_run hc hx hy w 9999
    have hb : binOp .eql t x' y' = (do pure (.bool (← Op.equal t x' y')) : Sem Value) := by
      cases x' <;> first | rfl | (exact (h8 _ _ rfl).elim) | (exact (h9 _ _ rfl).elim) | (exact (h10 _ _ _ rfl).elim) | (exact (h11 _ rfl).elim)
    have hb2 : binOp .neq t x' y' = (do pure (.bool (!(← Op.equal t x' y'))) : Sem Value) := by
      cases x' <;> first | rfl | (exact (h8 _ _ rfl).elim) | (exact (h9 _ _ rfl).elim) | (exact (h10 _ _ _ rfl).elim) | (exact (h11 _ rfl).elim)
    refine ⟨eqGuard_one E.P .eql t ox oy x' y' w h5 h7, eqGuard_one E.P .neq t ox oy x' y' w h5 h7, ?_, ?_⟩
    · rw [hb, Sem.run_bind]
      show (Sem.run E.P (Op.equalIn (9999 + 1) t x' y') w).andThen _ = _
      rw [h4]; rfl
    · rw [hb2, Sem.run_bind]
      show (Sem.run E.P (Op.equalIn (9999 + 1) t x' y') w).andThen _ = _
      rw [h4]; rfl

theorem binV_run {t : TypeId} {op : BinOp} {x y v : V} {x' y' : Value} (hp : (binV E.P t op x y).run h = some (v, R)) (hx : VR ι μ x x') (hy : VR ι μ y y') (w : World) (ox oy : Operand) :
    ∃ z, (do eqGuard op t ox oy x' y'; binOp op t x' y' : Sem Value).run E.P w = .ok z w ∧ VR ι μ v z := by
  have fin : ∀ z, (eqGuard op t ox oy x' y').run E.P w = .ok () w → binOp op t x' y' = Pure.pure z → VR ι μ v z →
      ∃ z, (do eqGuard op t ox oy x' y'; binOp op t x' y' : Sem Value).run E.P w = .ok z w ∧ VR ι μ v z := by
    intro z h1 h2 h3
    exact ⟨z, by simp [h1, h2], h3⟩
  unfold binV at hp
  split at hp
  · split at hp
    · split at hp
      · cases hp
        obtain rfl := hx.i_inv
        obtain rfl := hy.i_inv
        exact fin _ (eqGuard_one _ _ _ _ _ _ _ _ rfl (by simp)) (by rw [binOp_shl, shift_runI _ _ _ _ _ ‹_› (.inl rfl)]; rfl) (.c .i)
      · cases hp
    · cases hp
  · split at hp
    · split at hp
      · cases hp
        obtain rfl := hx.i_inv
        obtain rfl := hy.i_inv
        exact fin _ (eqGuard_one _ _ _ _ _ _ _ _ rfl (by simp)) (by rw [binOp_shr, shift_runI _ _ _ _ _ ‹_› (.inr rfl)]; rfl) (.c .i)
      · cases hp
    · cases hp
  · split at hp
    · rename_i h1 h2 k a k' b
      split at hp
      · subst ‹k = k'›
        obtain rfl := hx.i_inv
        obtain rfl := hy.i_inv
        have hg := eqGuard_one E.P op t ox oy (.int k a) (.int k b) w rfl (by simp)
        split at hp
        · cases hp; exact fin _ hg (by rw [binOp_add]; rfl) (.c .i)
        · cases hp; exact fin _ hg (by rw [binOp_sub]; rfl) (.c .i)
        · cases hp; exact fin _ hg (by rw [binOp_mul]; rfl) (.c .i)
        · split at hp
          · cases hp
          · cases hp; exact fin _ hg (by rw [binOp_quo]; simp [Op.intDiv, *]) (.c .i)
        · split at hp
          · cases hp
          · cases hp; exact fin _ hg (by rw [binOp_rem]; simp [Op.intDiv, *]) (.c .i)
        · cases hp; exact fin _ hg (by rw [binOp_and]; rfl) (.c .i)
        · cases hp; exact fin _ hg (by rw [binOp_or]; rfl) (.c .i)
        · cases hp; exact fin _ hg (by rw [binOp_xor]; rfl) (.c .i)
        · cases hp; exact fin _ hg (by rw [binOp_andNot]; rfl) (.c .i)
        · cases hp; exact fin _ hg (by rw [binOp_eql]) (.c .b)
        · cases hp; exact fin _ hg (by rw [binOp_neq]) (.c .b)
        · cases hp; exact fin _ hg (by rw [binOp_lss]) (.c .b)
        · cases hp; exact fin _ hg (by rw [binOp_leq]) (.c .b)
        · cases hp; exact fin _ hg (by rw [binOp_gtr]) (.c .b)
        · cases hp; exact fin _ hg (by rw [binOp_geq]) (.c .b)
        · cases hp
      · cases hp
    · split at hp
      · obtain ⟨c, R1, R2, h1, h2, rfl⟩ := Rd.run_bind hp
        cases h2
        obtain ⟨h3, _⟩ := Rd.run_of h1
        obtain ⟨g1, g2, g3, g4⟩ := sameV_run h3 hx hy w ox oy
        exact ⟨.bool c, by rw [Sem.run_bind, g1, Result.andThen_ok, g3], .c .b⟩
      · obtain ⟨c, R1, R2, h1, h2, rfl⟩ := Rd.run_bind hp
        cases h2
        obtain ⟨h3, _⟩ := Rd.run_of h1
        obtain ⟨g1, g2, g3, g4⟩ := sameV_run h3 hx hy w ox oy
        exact ⟨.bool (!c), by rw [Sem.run_bind, g2, Result.andThen_ok, g4], .c .b⟩
      · cases hp


variable {E : Env} {X : Cx} {ι : Io} {μ : Mu} {h : Hp} {sl : Nat} {w : World} {R : List Nat}

theorem add_off (b o n : Nat) : (⟨b, o, none⟩ : Addr).add n = ⟨b, o + n, none⟩ := by unfold Addr.add; split <;> simp_all

/-- The cells that a row's object has stand in the world. -/
theorem cellOf {x l k sz wr ow sib} (hI : Rel E ι μ h w) (hx : h x = some (.row l k sz wr ow sib)) {L : Loc} (hL : ι x = some (some L)) {j : Nat} {v : V} (hj : l[j]? = some v) :
    ∃ c, w.cell? ⟨L.b, L.β + j, none⟩ = some c ∧ CR ι μ k v c := by
  rcases (hI.obj _ _ hx).2 with ⟨rfl, _⟩ | ⟨L', hL', _, _, cs, e, fz, hw, _, _, hc⟩
  · simp at hj
  · rw [hL] at hL'; cases hL'
    obtain ⟨c, hc1, hc2⟩ := hc j v hj
    exact ⟨c, by simp [World.cell?, hw, hc1], hc2⟩
theorem cellQ (hI : Rel E ι μ h w) {l off pl x} (hv : VC μ (.q l off pl) x) {j : Nat} {v : V} (hj : l[off + j]? = some v) :
    ∃ b o c, x = .pointer (some ⟨b, o, none⟩) ∧ w.cell? ⟨b, o + j, none⟩ = some c ∧ VC μ v c := by
  cases hv with
  | q g hb hc hr =>
    rename_i blk o cs
    obtain ⟨e, fz, hw⟩ := hI.imm _ _ hb
    obtain ⟨hj1, rfl⟩ := List.getElem?_eq_some_iff.1 hj
    refine ⟨_, _, g (off + j), rfl, ?_, ?_⟩
    · have := hc _ hj1
      rw [← Nat.add_assoc] at this
      simp [World.cell?, hw, this]
    · have := hr _ hj1
      split at this
      · exact this.to0
      · exact this

theorem VC.one {v x} (h : VC μ v x) : oneV x = true := by cases h <;> rfl

/-- Loading. -/
theorem load_run {t : TypeId} {c : Bool} {n : Nat} {x v : V} {x' : Value} {Ra Rs} (hI : Rel E ι μ h w) (hc : (aggOf E.P t).run h = some (c, Ra)) (hn : (szOf E.P t).run h = some (n, Rs))
    (hp : (loadV c n x).run h = some (v, R)) (hx : VR ι μ x x') : ∃ z, (Instr.loadAt t x').run E.P w = .ok z w ∧ VR ι μ v z := by
  have ha := (run_aggOf hc).2 w
  have hs := sizeOf_run hn w
  have main : ∀ (l : List V) (off : Nat) (a : Addr) , x' = .pointer (some a) →
      (∀ (j : Nat) v, l[off + j]? = some v → ∃ y, w.cell? (a.add j) = some y ∧ VR ι μ v y) →
      (ld c n l off).run h = some (v, []) → ∃ z, (Instr.loadAt t x').run E.P w = .ok z w ∧ VR ι μ v z := by
    rintro l off a rfl hcell hld
    unfold ld at hld
    split at hld
    · subst ‹c = true›
      split at hld
      · rename_i hlen
        cases hld
        have hex : ∀ j, j < n → ∃ y, w.cell? (a.add j) = some y ∧ VR ι μ (((l.drop off).take n).getD j .u) y := by
          intro j hj
          have h1 : off + j < l.length := by omega
          obtain ⟨y, hy, hr⟩ := hcell j _ (List.getElem?_eq_getElem h1)
          refine ⟨y, hy, ?_⟩
          have : ((l.drop off).take n).getD j .u = l[off + j] := by
            rw [List.getD_eq_getElem?_getD, List.getElem?_take_of_lt hj, List.getElem?_drop, List.getElem?_eq_getElem h1]; rfl
          rw [this]; exact hr
        have hch : ∀ j, ∃ y, j < n → w.cell? (a.add j) = some y ∧ VR ι μ (((l.drop off).take n).getD j .u) y := by
          intro j
          by_cases hj : j < n
          · obtain ⟨y, hy⟩ := hex j hj; exact ⟨y, fun _ => hy⟩
          · exact ⟨undef, fun h => (hj h).elim⟩
        obtain ⟨g, hg⟩ := Classical.axiomOfChoice hch
        refine ⟨.agg ((List.range n).map g).toArray, ?_, .mk_a ⟨by simp; omega, ?_⟩⟩
        · simp only [Instr.loadAt, Instr.sureAddr, pure_bind, loadVar, Sem.run_bind, ha, Result.andThen_ok, if_true, hs, run_loadCells w a n g (fun j hj => (hg j hj).1)]
          rfl
        · intro j u hu
          have hj : j < n := by
            have := (List.getElem?_eq_some_iff.1 hu).1
            simp at this; omega
          refine ⟨g j, by simp [hj], ?_⟩
          have := (hg j hj).2
          rw [List.getD_eq_getElem?_getD, hu] at this
          exact this
      · cases hld
    · split at hld
      · rename_i h1 hlt
        cases hld
        obtain ⟨y, hy, hr⟩ := hcell 0 (l.getD off .u) (by rw [Nat.add_zero, List.getElem?_eq_getElem hlt, List.getD_eq_getElem?_getD, List.getElem?_eq_getElem hlt]; rfl)
        refine ⟨y, ?_, hr⟩
        have hcf : c = false := by simpa using h1
        subst hcf
        have : a.add 0 = a := rfl
        rw [this] at hy
        simp [Instr.loadAt, Instr.sureAddr, loadVar, ha, hy]
      · cases hld
  unfold loadV at hp
  split at hp
  · rename_i y o
    obtain ⟨r, R1, R2, h1, h2, rfl⟩ := Rd.run_bind hp
    have hrow := Rd.run_row h1
    obtain ⟨L, hL, hx'⟩ := hx.p_inv
    refine main r.1 o _ hx' ?_ ?_
    · intro j v hj
      obtain ⟨c, hc1, hc2⟩ := cellOf hI hrow hL hj
      exact ⟨c, by rw [add_off, Nat.add_assoc]; exact hc1, hc2.vr⟩
    · have : R2 = [] := by
        unfold ld at h2
        split at h2 <;> split at h2 <;> cases h2 <;> rfl
      rw [this] at h2; exact h2
  · rename_i l o pl
    have hq := hx.q_inv
    cases hq with
    | q g hb hc1 hr =>
      rename_i blk bo cs
      refine main l o _ rfl ?_ ?_
      · intro j v hj
        obtain ⟨b', o', c', he, hc', hv'⟩ := cellQ hI hx.q_inv hj
        cases he
        exact ⟨c', by rw [add_off]; exact hc', .c hv'⟩
      · have : R = [] := by
          unfold ld at hp
          split at hp <;> split at hp <;> cases hp <;> rfl
        rw [this] at hp; exact hp
  · cases hp

/-- Fields and places. -/
theorem fieldAt_run {t : TypeId} {f : Nat} {fs : Array Field} {fd : Field} {n : Nat} {Rs} (hf : E.P.underlying t = some (.struct fs)) (hfd : fs[f]? = some fd) (hn : (szOf E.P fd.type).run h = some (n, Rs)) (hn0 : n ≠ 0) (a : Addr) :
    (Instr.fieldAt t (.pointer (some a)) f).run E.P w = .ok (.pointer (some (a.add fd.offset))) w := by
  have hs := sizeOf_run hn w
  simp [Instr.fieldAt, run_underlying hf, hfd, Instr.sureAddr, fieldPlace, hs, hn0]
theorem run_fieldsOf {t : TypeId} {fs : Array Field} (hf : (fieldsOf E.P t).run h = some (fs, R)) : R = [] ∧ E.P.underlying t = some (.struct fs) := by
  unfold fieldsOf at hf
  split at hf
  · cases hf; exact ⟨rfl, ‹_›⟩
  · cases hf

theorem part_run {t : TypeId} {l : List V} {off : Nat} {v : V} {cs : List Value} (hp : (part E.P t l off).run h = some (v, R)) (hc : Vs ι μ l cs) :
    R = [] ∧ ∃ z, (Go.part t cs.toArray off).run E.P w = .ok z w ∧ VR ι μ v z := by
  unfold part at hp
  obtain ⟨c, R1, R2, h1, h2, rfl⟩ := Rd.run_bind hp
  obtain ⟨n, R3, R4, h3, h4, rfl⟩ := Rd.run_bind h2
  have ha := run_aggOf h1
  have hs := sizeOf_run h3 w
  have hs' := (run_szOf h3).1
  split at h4
  · subst ‹c = true›
    cases h4
    refine ⟨by simp [ha.1, hs'], .agg (((cs.drop off).take n)).toArray, ?_, .mk_a ⟨by simp [hc.1], ?_⟩⟩
    · simp only [Go.part, Sem.run_bind, ha.2 w, Result.andThen_ok, if_true, hs]
      show Result.ok (Value.agg (cs.toArray.extract off (off + n))) w = _
      congr 2
      apply Array.ext'
      simp [List.extract_eq_take_drop]
    · intro j u hu
      rw [List.getElem?_take] at hu
      split at hu
      · rename_i hj
        rw [List.getElem?_drop] at hu
        obtain ⟨y, hy, hr⟩ := hc.2 _ _ hu
        exact ⟨y, by rw [List.getElem?_take_of_lt hj, List.getElem?_drop]; exact hy, hr⟩
      · cases hu
  · split at h4
    · rename_i hcf hlt
      cases h4
      obtain ⟨y, hy, hr⟩ := hc.2 off (l.getD off .u) (by rw [List.getD_eq_getElem?_getD, List.getElem?_eq_getElem hlt]; rfl)
      have hcf' : c = false := by simpa using hcf
      subst hcf'
      refine ⟨by simp [ha.1, hs'], y, ?_, hr⟩
      simp [Go.part, ha.2 w, hy]
    · cases h4

theorem scalars_vs {l : List Value} {vs : List V} (hs : scalars l = some vs) : (∀ ι μ, Vs ι μ vs l) ∧ (∀ x ∈ l, oneV x = true) ∧ (∀ v ∈ vs, v.one = true ∧ v.closed = true) ∧
    (∀ (j : Nat) v x, vs[j]? = some v → l[j]? = some x → VC mu0 v x) := by
  induction l generalizing vs with
  | nil => cases hs; exact ⟨fun _ _ => .nil, by simp, by simp, by simp⟩
  | cons x l ih =>
    simp only [scalars] at hs
    split at hs
    · rename_i v vs' h1 h2
      cases hs
      obtain ⟨i1, i2, i3, i4⟩ := ih h2
      obtain ⟨s1, s2, s3, s4, s5⟩ := scalar_vr h1
      refine ⟨fun ι μ => .cons (.c s1.to0) (i1 ι μ), ?_, ?_, ?_⟩
      · intro y hy
        rcases List.mem_cons.1 hy with rfl | hy
        · exact s2
        · exact i2 y hy
      · intro y hy
        rcases List.mem_cons.1 hy with rfl | hy
        · exact ⟨s3, s4⟩
        · exact i3 y hy
      · intro j u y hu hy
        cases j with
        | zero => cases hu; cases hy; exact s1
        | succ j => exact i4 j u y hu hy
    · cases hs
theorem zeroOf_run {t : TypeId} {z : List V} (hz : (zeroOf E.P t).run h = some (z, R)) : R = [] ∧ ∃ i zv, E.P.info? t = some i ∧ i.zero = some zv ∧ scalars zv.cells.toList = some z := by
  unfold zeroOf at hz
  split at hz
  · rename_i i hi
    split at hz
    · rename_i cs hzz
      obtain ⟨h1, h2⟩ := Rd.run_of hz
      exact ⟨h2, i, _, hi, hzz, h1⟩
    · rename_i v hne hzz
      obtain ⟨h1, h2⟩ := Rd.run_of hz
      refine ⟨h2, i, v, hi, hzz, ?_⟩
      have : v.cells = #[v] := by
        cases v <;> first | rfl | (exact (hne _ rfl).elim)
      rw [this]; exact h1
    · cases hz
  · cases hz

theorem kindOf_cr {l : List V} {cs : List Value} (hc : Vs ι μ l cs) (h1 : ∀ c ∈ cs, oneV c = true) (k : Nat) (hk : k = 0 ∨ k = kindOf l) :
    ∀ (j : Nat) v x, l[j]? = some v → cs[j]? = some x → CR ι μ k v x := by
  intro j v x hv hx
  obtain ⟨y, hy, hr⟩ := hc.2 j v hv
  rw [hx] at hy; cases hy
  have hone : oneV x = true := h1 x (List.mem_of_getElem? hx)
  rcases hk with rfl | rfl
  · exact ⟨by simpa using hr, hone⟩
  · refine ⟨?_, hone⟩
    unfold kindOf
    split
    · rename_i hp
      rw [if_pos (by omega)]
      exact VC.of_plain hr (by simpa using (List.all_eq_true.1 hp) v (List.mem_of_getElem? hv))
    · split
      · rename_i hp
        simp only [show ¬ (2 ≤ 1) by omega, if_false, if_true]
        exact VC.of_closed hr (by simpa using (List.all_eq_true.1 hp) v (List.mem_of_getElem? hv))
      · simpa using hr


variable {E : Env} {X : Cx} {ι : Io} {μ : Mu} {h : Hp} {sl : Nat} {w : World} {R : List Nat}

/-- The cells at a place, as a list. -/
theorem cells_list {n : Nat} {f : Nat → V} {a : Addr} {P : Nat → V → Value → Prop} (hex : ∀ j, j < n → ∃ y, w.cell? (a.add j) = some y ∧ P j (f j) y) :
    ∃ cs : List Value, cs.length = n ∧ (∀ (j : Nat) y, cs[j]? = some y → w.cell? (a.add j) = some y ∧ P j (f j) y) := by
  have hch : ∀ j, ∃ y, j < n → w.cell? (a.add j) = some y ∧ P j (f j) y := by
    intro j
    by_cases hj : j < n
    · obtain ⟨y, hy⟩ := hex j hj; exact ⟨y, fun _ => hy⟩
    · exact ⟨undef, fun h => (hj h).elim⟩
  obtain ⟨g, hg⟩ := Classical.axiomOfChoice hch
  refine ⟨(List.range n).map g, by simp, fun j y hy => ?_⟩
  have hj : j < n := by have := (List.getElem?_eq_some_iff.1 hy).1; simpa using this
  simp [hj] at hy
  subst hy
  exact hg j hj

structure Src (ι : Io) (μ : Mu) (P : Program) (w : World) (sz : Nat) (x' : Value) (xs : List V) (n kx : Nat) : Prop where
  out : ∃ (a : Option Addr) (xc : Nat) (news : List Value), x' = .slice a n xc ∧ n ≤ xc ∧ news.length = n * sz ∧ xs.length = n * sz ∧
    (∀ m, m ≤ n → ∀ w2 : World, w2.heap = w.heap → (Builtin.firstCells sz m x').run P w2 = .ok (news.take (m * sz)).toArray w2) ∧ ∀ (j : Nat) v y, xs[j]? = some v → news[j]? = some y → CR ι μ kx v y

theorem cell_heap {w2 : World} (hw : w2.heap = w.heap) (a : Addr) : w2.cell? a = w.cell? a := by simp [World.cell?, hw]

theorem srcOf_run {P : Program} {sz : Nat} {x : V} {xs : List V} {n kx : Nat} {x' : Value} (hI : Rel E ι μ h w) (hp : (srcOf sz x).run h = some ((xs, n, kx), R)) (hx : VR ι μ x x') :
    Src ι μ P w sz x' xs n kx := by
  unfold srcOf at hp
  split at hp
  · cases hp
    obtain ⟨rfl, _⟩ := hx.sn_inv
    exact ⟨⟨none, 0, [], rfl, Nat.le_refl _, by simp, by simp, fun m hm w2 _ => by simp [Builtin.firstCells], by simp⟩⟩
  · rename_i y o m
    obtain ⟨r, R1, R2, h1, h2, rfl⟩ := Rd.run_bind hp
    have hrow := Rd.run_row h1
    split at h2
    · rename_i hc
      obtain ⟨hsz, hlen⟩ := hc
      cases h2
      rcases hx.s_inv with ⟨L, cap, hL, hcap, hN, rfl⟩ | ⟨hn0, hιy, a, rfl⟩
      · have hex : ∀ j, j < n * sz → ∃ y, w.cell? ((⟨L.b, L.β + o, none⟩ : Addr).add j) = some y ∧ CR ι μ r.2.1 (r.1.getD (o + j) .u) y := by
          intro j hj
          have hlt : o + j < r.1.length := by omega
          obtain ⟨c, hc1, hc2⟩ := cellOf hI hrow hL (List.getElem?_eq_getElem hlt)
          refine ⟨c, by rw [add_off, Nat.add_assoc]; exact hc1, ?_⟩
          rw [List.getD_eq_getElem?_getD, List.getElem?_eq_getElem hlt]; exact hc2
        obtain ⟨cs, hcs1, hcs2⟩ := cells_list hex
        refine ⟨⟨_, cap, cs, rfl, hcap, hcs1, by simp; omega, ?_, ?_⟩⟩
        · intro m hm w2 hw2
          have hms : m * sz ≤ n * sz := Nat.mul_le_mul_right _ hm
          have := run_loadCells_list (P := P) w2 ⟨L.b, L.β + o, none⟩ (cs.take (m * sz)) (fun j v hv => by
            rw [cell_heap hw2]
            rw [List.getElem?_take] at hv
            split at hv
            · exact (hcs2 j v hv).1
            · cases hv)
          rw [show (cs.take (m * sz)).length = m * sz by simp; omega] at this
          exact this
        · intro j v y hv hy
          have := (hcs2 j y hy).2
          have hj : j < n * sz := by have := (List.getElem?_eq_some_iff.1 hy).1; omega
          rw [List.getElem?_take_of_lt hj, List.getElem?_drop] at hv
          rw [List.getD_eq_getElem?_getD, hv] at this
          exact this
      · subst hn0
        refine ⟨⟨a, 0, [], rfl, Nat.le_refl _, by simp, by simp, fun m hm w2 _ => ?_, by simp⟩⟩
        obtain rfl : m = 0 := by omega
        cases a <;> simp [Builtin.firstCells, loadCells, loadCellsFrom]
    · cases h2
  · rename_i l m pl
    split at hp
    · cases hp
      rename_i hlen
      rcases hx.r_inv.r_cases with ⟨rfl, rfl, a, rfl⟩ | ⟨blk, bo, cap, cs, g, rfl, hb, hn, hc, hr⟩
      · refine ⟨⟨_, 0, [], rfl, Nat.le_refl _, by simp, by simp, fun m hm w2 hw2 => ?_, by simp⟩⟩
        obtain rfl : m = 0 := by omega
        cases a <;> simp [Builtin.firstCells, loadCells, loadCellsFrom]
      · obtain ⟨e, fz, hw⟩ := hI.imm _ _ hb
        have hex : ∀ j, j < n * sz → ∃ y, w.cell? ((⟨blk, bo, none⟩ : Addr).add j) = some y ∧ CR ι μ (if pl = true then 2 else 1) (xs.getD j .u) y := by
          intro j hj
          have hlt : j < xs.length := by omega
          refine ⟨g j, by simp [add_off, World.cell?, hw, hc j hlt], ?_⟩
          rw [List.getD_eq_getElem?_getD, List.getElem?_eq_getElem hlt]
          have := hr j hlt
          refine ⟨?_, this.one⟩
          cases pl <;> simpa using this
        obtain ⟨cs', hcs1, hcs2⟩ := cells_list hex
        refine ⟨⟨_, cap, cs', rfl, hn, hcs1, by omega, ?_, ?_⟩⟩
        · intro m hm w2 hw2
          have hms : m * sz ≤ n * sz := Nat.mul_le_mul_right _ hm
          have := run_loadCells_list (P := P) w2 ⟨blk, bo, none⟩ (cs'.take (m * sz)) (fun j v hv => by
            rw [cell_heap hw2]
            rw [List.getElem?_take] at hv
            split at hv
            · exact (hcs2 j v hv).1
            · cases hv)
          rw [show (cs'.take (m * sz)).length = m * sz by simp; omega] at this
          exact this
        · intro j v y hv hy
          have := (hcs2 j y hy).2
          rw [List.getD_eq_getElem?_getD, hv] at this
          exact this
    · cases hp
  · cases hp


variable {E : Env} {X : Cx} {ι : Io} {μ : Mu} {h : Hp} {sl : Nat} {w : World} {R : List Nat}

theorem append_room {P : Program} {t0 t1 e e1 ty : TypeId} {i : TypeInfo} (ht : P.underlying t0 = some (.slice e)) (ht1 : P.underlying t1 = some (.slice e1)) (hi : P.info? e = some i)
    {a : Option Addr} {m cap : Nat} {xa : Option Addr} {n xc : Nat} {news : List Value} (hx : (Builtin.firstCells i.size n (.slice xa n xc)).run P w = .ok news.toArray w)
    (hroom : m + n ≤ cap) (w' : World) (hst : ∀ b, a = some b → (storeCells (b.add (m * i.size)) news).run P w = .ok () w') (hn : a = none → w' = w) :
    (Builtin.append_ #[t0, t1] ty #[.slice a m cap, .slice xa n xc]).run P w = .ok (.slice a (m + n) cap) w' := by
  cases a with
  | none =>
    obtain rfl := hn rfl
    simp [Builtin.append_, run_underlying ht, run_underlying ht1, sizeOf, typeInfo, hi, Builtin.lenOf, hroom, hx]
  | some b =>
    have := hst b rfl
    simp [Builtin.append_, run_underlying ht, run_underlying ht1, sizeOf, typeInfo, hi, Builtin.lenOf, hroom, hx, this]

theorem append_grow {P : Program} {t0 t1 e e1 ty : TypeId} {i : TypeInfo} {z : Value} (ht : P.underlying t0 = some (.slice e)) (ht1 : P.underlying t1 = some (.slice e1)) (hi : P.info? e = some i) (hz : i.zero = some z)
    {a : Option Addr} {m cap : Nat} {xa : Option Addr} {n xc : Nat} {olds news : List Value}
    (hx : (Builtin.firstCells i.size n (.slice xa n xc)).run P w.drew = .ok news.toArray w.drew) (ho : (Builtin.firstCells i.size m (.slice a m cap)).run P w.drew = .ok olds.toArray w.drew)
    (hg : cap < m + n) (h63 : m + n < limit) (hfit : (m + n) * i.bytes ≤ 140737488355328) :
    (Builtin.append_ #[t0, t1] ty #[.slice a m cap, .slice xa n xc]).run P w =
      .ok (.slice (some ⟨w.heap.size, 0, none⟩) (m + n) (grownCap w (m + n) cap e)) (w.drew.alloc (.cells ((olds ++ news) ++ (Builtin.zeroCells z.cells (grownCap w (m + n) cap e - (m + n))).toList).toArray e)) := by
  have hn : ¬ (m + n ≤ cap) := by omega
  have h63' : ¬ (9223372036854775807 < ((m : Int) + (n : Int))) := by simp only [limit] at h63; omega
  have h48 := growslice_fits hg hfit
  have h48' : ¬ (281474976710656 < Builtin.nextslicecap (m + n) cap * i.bytes) := by omega
  simp [Builtin.append_, run_underlying ht, run_underlying ht1, sizeOf, typeInfo, zeroValue, hi, hz, Builtin.lenOf, hn, h63', h48', Question.forced, hx, ho, newRow, grownCap]
  congr 2
  apply Array.ext'
  simp [List.append_assoc]

theorem grownCap_ge (w : World) (need old : Nat) (e : TypeId) : need ≤ grownCap w need old e := by
  simp only [grownCap, Question.cut]; omega

theorem CR.of_le {k k' : Nat} {v x} (h : CR ι μ k v x) (hk : k' ≤ k) : CR ι μ k' v x := by
  obtain ⟨h1, ho⟩ := h
  refine ⟨?_, ho⟩
  by_cases e2 : 2 ≤ k
  · rw [if_pos e2] at h1
    split
    · exact h1
    · split
      · exact h1.to0
      · exact .c h1.to0
  · rw [if_neg e2] at h1
    rw [if_neg (by omega)]
    by_cases e1 : k = 1
    · rw [if_pos e1] at h1
      split
      · exact h1
      · exact .c h1
    · rw [if_neg e1] at h1
      rw [if_neg (by omega)]; exact h1

/-- The old cells of a row that is appended to. -/
theorem olds_run {P : Program} {y o m sz k wr ow sib} {l : List V} {d' : Value} (hI : Rel E ι μ h w) (hrow : h y = some (.row l k sz wr ow sib)) (hlen : o + m * sz = l.length)
    (hd : VR ι μ (.s (some (y, o)) m) d') : ∃ (a : Option Addr) (cap : Nat) (olds : List Value), d' = .slice a m cap ∧ m ≤ cap ∧ olds.length = m * sz ∧
    (∀ w2 : World, w2.heap = w.heap → (Builtin.firstCells sz m d').run P w2 = .ok olds.toArray w2) ∧ (∀ (j : Nat) v y, (l.drop o)[j]? = some v → olds[j]? = some y → CR ι μ k v y) := by
  have hs : (srcOf sz (.s (some (y, o)) m)).run h = some (((l.drop o).take (m * sz), m, k), [y]) := by
    have hc : o + m * sz ≤ l.length := by omega
    simp [srcOf, Rd.row, Rd.bind, Rd.run, hrow, hc]
  obtain ⟨a, cap, olds, h1, h2, h3, h4, h5', h6⟩ := (srcOf_run (P := P) hI hs hd).out
  have h5 : ∀ w2 : World, w2.heap = w.heap → (Builtin.firstCells sz m d').run P w2 = .ok olds.toArray w2 := fun w2 hw2 => by
    have := h5' m (Nat.le_refl _) w2 hw2
    rwa [List.take_of_length_le (by omega)] at this
  refine ⟨a, cap, olds, h1, h2, h3, h5, fun j v y hv hy => h6 j v y ?_ hy⟩
  have hj : j < m * sz := by have := (List.getElem?_eq_some_iff.1 hy).1; omega
  rw [List.getElem?_take_of_lt hj]; exact hv

theorem append_goes {P' : Program} (hP : P' = E.P) {t0 t1 e e1 ty : TypeId} {i : TypeInfo} {z : Value} {d x v : V} {d' x' : Value} {U : Up} (hI : Inv E X ι μ h w) (hsl : ι sl = none) (ha : X.a ≤ sl)
    (ht : E.P.underlying t0 = some (.slice e)) (ht1 : E.P.underlying t1 = some (.slice e1)) (hi : E.P.info? e = some i) (hz : i.zero = some z) (hzs : z.cells.size = i.size) (hs0 : i.size ≠ 0)
    (hp : (appendV sl i.size i.bytes d x).run h = some ((v, U), R)) (hd : VR ι μ d d') (hx : VR ι μ x x') {r : Result Next}
    (hr : ∀ y w', (Builtin.append_ #[t0, t1] ty #[d', x']).run E.P w = .ok y w' → r = .ok (.value y) w') : Goes E X ι μ h sl w r v U := by
  unfold appendV at hp
  obtain ⟨⟨xs, n, kx⟩, R1, R2, h1, h2, rfl⟩ := Rd.run_bind hp
  obtain ⟨xa, xc, news, rfl, hxc, hnl, hxl, hfc', hcr⟩ := (srcOf_run (P := E.P) hI.rel h1 hx).out
  have hfc : ∀ w2 : World, w2.heap = w.heap → (Builtin.firstCells i.size n (.slice xa n xc)).run E.P w2 = .ok news.toArray w2 := fun w2 hw2 => by
    have := hfc' n (Nat.le_refl _) w2 hw2
    rwa [List.take_of_length_le (by omega)] at this
  dsimp only at h2
  split at h2
  · -- onto nothing
    split at h2
    · rename_i hlim
      cases h2
      obtain ⟨rfl, rfl⟩ := hd.sn_inv
      by_cases hn0 : n = 0
      · subst hn0
        have hxs : xs = [] := List.eq_nil_of_length_eq_zero (by simpa using hxl)
        have hnews : news = [] := List.eq_nil_of_length_eq_zero (by simpa using hnl)
        subst hxs hnews
        have hap := append_room (ty := ty) ht ht1 hi (a := none) (m := 0) (cap := 0) (hfc w rfl) (by omega) w (fun b hb => by cases hb) (fun _ => rfl)
        refine ⟨_, w, Io.set ι sl none, .inl (hr _ _ hap), .s0 (Io.set_same _ _ _), ?_, fun y hy => Io.set_ne _ _ hy, Io.set_mono _ hsl⟩
        refine hI.alloc hsl ha rfl (q := none) (fun L h => by cases h) ⟨Nat.le_refl _, rfl, rfl, rfl, fun _ _ => rfl⟩ ?_
        exact ⟨fun _ => rfl, .inl ⟨rfl, Io.set_same _ _ _⟩⟩
      · have hap := append_grow (ty := ty) (olds := []) ht ht1 hi hz (a := none) (m := 0) (cap := 0) (hfc w.drew rfl) (by simp [Builtin.firstCells]) (by omega) (by omega) (by simpa using hlim.2)
        simp only [Nat.zero_add, List.nil_append] at hap
        have hge := grownCap_ge w n 0 e
        refine Goes.new (n := grownCap w n 0 e * i.size) (cs := news) hI hsl ha (w1 := w.drew) ⟨rfl, rfl, rfl, rfl⟩ _ (hr _ _ hap) ?_ ?_ ?_ (by omega) hcr
        · have hv := VR.s (ι := Io.set ι sl (some ⟨w.heap.size, 0, grownCap w n 0 e * i.size, i.size⟩)) (μ := μ) (x := sl) (o := 0) (n := n) (cap := grownCap w n 0 e) (Io.set_same _ _ _) hge (by simp)
          simpa using hv
        · rw [hxl]; exact Nat.mul_le_mul_right _ hge
        · simp only [List.length_append, hnl, Array.length_toList, size_zeroCells, hzs]
          rw [← Nat.add_mul]
          exact Nat.mul_le_mul_right _ (by omega)
    · cases h2
  · rename_i y o m
    obtain ⟨⟨l, k, sz', wr, ow, sib⟩, R3, R4, h3, h4, rfl⟩ := Rd.run_bind h2
    have hrow := Rd.run_row h3
    simp only at hrow h4
    split at h4
    · rename_i hc
      obtain ⟨rfl, rfl, rfl, hlen, hlim, hby⟩ := hc
      obtain ⟨_, R5, R6, h5, h6, rfl⟩ := Rd.run_bind h4
      cases h6
      have hxa : X.a ≤ y := by
        rcases Nat.lt_or_ge y X.a with h | h
        · exact (hI.own _ _ _ _ _ _ h hrow).elim
        · exact h
      have hyι := (hI.rel.obj _ _ hrow).some
      have hysl : y ≠ sl := by rintro rfl; exact hyι hsl
      obtain ⟨a, cap, olds, hd', hcap, hol, hofc, hocr⟩ := olds_run (P := E.P) hI.rel hrow hlen hd
      have hlo : (l.drop o).length = olds.length := by simp; omega
      have hcells : ∀ (j : Nat) v y, (l.drop o ++ xs)[j]? = some v → (olds ++ news)[j]? = some y → CR ι μ (min k kx) v y := by
        intro j u y hu hy
        by_cases hj : j < olds.length
        · rw [List.getElem?_append_left (by omega)] at hu; rw [List.getElem?_append_left hj] at hy
          exact (hocr j u y hu hy).of_le (Nat.min_le_left _ _)
        · rw [List.getElem?_append_right (by omega), hlo] at hu; rw [List.getElem?_append_right (by omega)] at hy
          exact (hcr _ u y hu hy).of_le (Nat.min_le_right _ _)
      by_cases hroom : m + n ≤ cap
      · -- in place
        rcases hd.s_inv with ⟨L, cap', hL, hcap', hN, hde⟩ | ⟨hm0, _, b, hde⟩
        · rw [hde] at hd'; cases hd'
          subst hde
          obtain ⟨h0, hro⟩ := hI.rel.obj _ _ hrow
          rcases hro with ⟨_, hx0⟩ | ⟨L', hL', hsz, hln, cs, e0, fz, hw, hsize, hfz, hcc⟩
          · rw [hL] at hx0; cases hx0
          rw [hL] at hL'; cases hL'
          obtain rfl := hfz rfl
          have hfit1 : (m + n) * i.size ≤ cap * i.size := Nat.mul_le_mul_right _ hroom
          rw [Nat.add_mul] at hfit1
          rw [hsz] at hN
          have hone : ∀ c ∈ news, c.oneCell' = true := by
            intro c hc
            obtain ⟨j, hj, rfl⟩ := List.getElem_of_mem hc
            have hj2 : j < xs.length := by omega
            exact oneV_one' (hcr j _ _ (List.getElem?_eq_getElem hj2) (List.getElem?_eq_getElem hj)).2
          have hst := run_storeCells_at E.P L.b (L.β + o + m * i.size) e0 news 0 cs w hw (by omega) hone
          simp only [Nat.add_zero] at hst
          have hap := append_room (ty := ty) ht ht1 hi (a := some ⟨L.b, L.β + o, none⟩) (m := m) (cap := cap) (hfc w rfl) hroom _ (fun b hb => by cases hb; rw [add_off]; exact hst) (fun h => by cases h)
          let cs' : Array Value := (cs.toList.take (L.β + o + m * i.size) ++ news ++ cs.toList.drop (L.β + o + m * i.size + news.length)).toArray
          have hcsz : cs'.size = cs.size := by simp [cs']; omega
          have hold : ∀ j, j < L.β + o + m * i.size → cs'[j]? = cs[j]? := by
            intro j hj
            simp only [cs', List.getElem?_toArray]
            rw [List.append_assoc, List.getElem?_append_left (by simp; omega), List.getElem?_take_of_lt hj]; simp
          have hnew : ∀ j, j < news.length → cs'[L.β + o + m * i.size + j]? = news[j]? := by
            intro j hj
            simp only [cs', List.getElem?_toArray]
            rw [List.append_assoc, List.getElem?_append_right (by simp; omega), List.getElem?_append_left (by simp; omega)]
            congr 1
            simp; omega
          have hw' : (w.setRow L.b cs').heap[L.b]? = some (.cells cs' e0 (0, 0)) := setRow_heap w _ _ _ _ _ hw
          refine ⟨_, _, Io.set ι sl (some ⟨L.b, L.β + o, L.N - o, i.size⟩), .inl (hr _ _ hap), ?_, ?_, fun y hy => Io.set_ne _ _ hy, Io.set_mono _ hsl⟩
          · have hv := VR.s (ι := Io.set ι sl (some ⟨L.b, L.β + o, L.N - o, i.size⟩)) (μ := μ) (x := sl) (o := 0) (n := m + n) (cap := cap) (Io.set_same _ _ _) hroom (by simp; omega)
            simpa using hv
          · refine hI.twin hrow hsl ha (q := some ⟨L.b, L.β + o, L.N - o, i.size⟩) (fun L' h => by cases h; exact .inr ⟨hxa, L, hL, rfl⟩) ⟨by simp, rfl, rfl, rfl, ?_⟩ ?_ ?_
            · intro b hb hne
              exact setRow_other _ _ _ _ (hne L hxa hL)
            · refine ⟨fun _ => rfl, .inr ⟨L, by rw [Io.set_ne _ _ hysl]; exact hL, hsz, hln, cs', e0, (0, 0), hw', by omega, fun _ => rfl, ?_⟩⟩
              intro j u hu
              obtain ⟨c, hc1, hc2⟩ := hcc j u hu
              have hj := (List.getElem?_eq_some_iff.1 hu).1
              exact ⟨c, by rw [hold _ (by omega)]; exact hc1, hc2.mono (Io.set_mono _ hsl) (fun _ _ h => h)⟩
            · refine ⟨fun _ => rfl, .inr ⟨_, Io.set_same _ _ _, rfl, ?_, cs', e0, (0, 0), hw', ?_, fun _ => rfl, ?_⟩⟩
              · simp; omega
              · simp only; omega
              · intro j u hu
                have hj := (List.getElem?_eq_some_iff.1 hu).1
                simp only [List.length_append, List.length_drop] at hj
                by_cases hj1 : j < m * i.size
                · rw [List.getElem?_append_left (by simp; omega), List.getElem?_drop] at hu
                  obtain ⟨c, hc1, hc2⟩ := hcc _ u hu
                  refine ⟨c, ?_, (hc2.of_le (Nat.min_le_left _ _)).mono (Io.set_mono _ hsl) (fun _ _ h => h)⟩
                  rw [← Nat.add_assoc] at hc1
                  show cs'[L.β + o + j]? = _
                  rw [hold _ (by omega)]; exact hc1
                · rw [List.getElem?_append_right (by simp; omega)] at hu
                  have hjn : j - m * i.size < news.length := by omega
                  have he : j - (l.drop o).length = j - m * i.size := by simp; omega
                  rw [he] at hu
                  refine ⟨news[j - m * i.size], ?_, ((hcr _ u _ hu (List.getElem?_eq_getElem hjn)).of_le (Nat.min_le_right _ _)).mono (Io.set_mono _ hsl) (fun _ _ h => h)⟩
                  have := hnew _ hjn
                  rw [List.getElem?_eq_getElem hjn] at this
                  rw [← this]; congr 1
                  show L.β + o + j = _
                  omega
        · -- nothing onto what is empty
          rw [hde] at hd'; cases hd'
          have hn0 : n = 0 := by omega
          subst hn0
          have hxs : xs = [] := List.eq_nil_of_length_eq_zero (by simpa using hxl)
          have hnews : news = [] := List.eq_nil_of_length_eq_zero (by simpa using hnl)
          have hld : l.drop o = [] := List.eq_nil_of_length_eq_zero (by simp; omega)
          subst hxs hnews hde
          have hap := append_room (ty := ty) ht ht1 hi (a := a) (m := 0) (cap := 0) (hfc w rfl) (by omega) w (fun b hb => by simp [storeCells]) (fun _ => rfl)
          refine ⟨_, w, Io.set ι sl none, .inl (hr _ _ hap), .s0 (Io.set_same _ _ _), ?_, fun y hy => Io.set_ne _ _ hy, Io.set_mono _ hsl⟩
          refine hI.twin hrow hsl ha (q := none) (fun L' h => by cases h) ⟨Nat.le_refl _, rfl, rfl, rfl, fun _ _ _ => rfl⟩ ?_ ?_
          · have h8 := hI.rel.obj _ _ hrow
            have h9 : RO ι μ w y (.row l k i.size true true (some sl)) := h8
            exact h9.frame (Io.set_mono _ hsl) (fun _ _ h => h) (fun _ _ => rfl)
          · exact ⟨fun _ => rfl, .inl ⟨by simp [hld], Io.set_same _ _ _⟩⟩
      · -- into a new block
        subst hd'
        have hge := grownCap_ge w (m + n) cap e
        have hap := append_grow (ty := ty) ht ht1 hi hz (hfc w.drew rfl) (hofc w.drew rfl) (by omega) hlim hby
        let NN := grownCap w (m + n) cap e * i.size
        let cs' : Array Value := ((olds ++ news) ++ (Builtin.zeroCells z.cells (grownCap w (m + n) cap e - (m + n))).toList).toArray
        have hNN : (m + n) * i.size ≤ NN := Nat.mul_le_mul_right _ hge
        have hcsz : cs'.size = NN := by
          simp only [cs', List.size_toArray, List.length_append, Array.length_toList, size_zeroCells, hzs, hol, hnl]
          rw [← Nat.add_mul, ← Nat.add_mul]
          show _ * _ = _ * _
          congr 1; omega
        rw [Nat.add_mul] at hNN
        have hb' : ∀ b, b < w.heap.size → (w.drew.alloc (.cells cs' e)).heap[b]? = w.heap[b]? := fun b hb => RowKit.Below.heap_alloc w.drew _ _ hb
        refine ⟨_, _, Io.set ι sl (some ⟨w.heap.size, 0, NN, i.size⟩), .inl (hr _ _ hap), ?_, ?_, fun y hy => Io.set_ne _ _ hy, Io.set_mono _ hsl⟩
        · have hv := VR.s (ι := Io.set ι sl (some ⟨w.heap.size, 0, NN, i.size⟩)) (μ := μ) (x := sl) (o := 0) (n := m + n) (cap := grownCap w (m + n) cap e) (Io.set_same _ _ _) hge (by simp [NN])
          simpa using hv
        · refine hI.twin hrow hsl ha (q := some ⟨w.heap.size, 0, NN, i.size⟩) (fun L' h => by cases h; exact .inl rfl) ⟨by simp, rfl, rfl, rfl, fun b hb _ => hb' b hb⟩ ?_ ?_
          · have h8 := hI.rel.obj _ _ hrow
            have h9 : RO ι μ w y (.row l k i.size true true (some sl)) := h8
            exact h9.frame (Io.set_mono _ hsl) (fun _ _ h => h) (fun L hL => hb' _ ((hI.rel.obj _ _ hrow).lt hL))
          · refine ⟨fun _ => rfl, .inr ⟨_, Io.set_same _ _ _, rfl, by simp; omega, cs', e, (0, 0), by show (w.heap.push _)[w.heap.size]? = _; simp [cs'], by simp only; omega, fun _ => rfl, ?_⟩⟩
            intro j u hu
            have hj := (List.getElem?_eq_some_iff.1 hu).1
            have hj2 : j < (olds ++ news).length := by simp at hj ⊢; omega
            refine ⟨(olds ++ news)[j], ?_, (hcells j u _ hu (List.getElem?_eq_getElem hj2)).mono (Io.set_mono _ hsl) (fun _ _ h => h)⟩
            simp only [cs', Nat.zero_add, List.getElem?_toArray]
            rw [List.getElem?_append_left hj2, List.getElem?_eq_getElem hj2]
    · cases h4
  · cases h2


variable {E : Env} {X : Cx} {ι : Io} {μ : Mu} {h : Hp} {sl : Nat} {w : World} {R : List Nat}

/-- A stretch of a row's cells written. -/
theorem write_goes {y o : Nat} {l mid : List V} {k sz : Nat} {ow : Bool} {sib : Option Nat} {L : Loc} {news : List Value} (hI : Inv E X ι μ h w)
    (hrow : h y = some (.row l k sz true ow sib)) (hL : ι y = some (some L)) (hml : mid.length = news.length) (hlen : o + mid.length ≤ l.length)
    (hc : ∀ (j : Nat) v x, mid[j]? = some v → news[j]? = some x → CR ι μ k v x) :
    ∃ w', (∀ P, (storeCells ⟨L.b, L.β + o, none⟩ news).run P w = .ok () w') ∧
      Inv E X ι μ (h.sets (kill sib ++ [(y, some (.row (l.take o ++ (mid ++ l.drop (o + mid.length))) k sz true ow none))])) w' := by
  obtain ⟨h0, hro⟩ := hI.rel.obj _ _ hrow
  rcases hro with ⟨_, hx0⟩ | ⟨L', hL', hsz, hln, cs, e0, fz, hw, hsize, hfz, hcc⟩
  · rw [hL] at hx0; cases hx0
  rw [hL] at hL'; cases hL'
  obtain rfl := hfz rfl
  have hone : ∀ c ∈ news, c.oneCell' = true := by
    intro c hc1
    obtain ⟨j, hj, rfl⟩ := List.getElem_of_mem hc1
    have hj2 : j < mid.length := by omega
    exact oneV_one' (hc j _ _ (List.getElem?_eq_getElem hj2) (List.getElem?_eq_getElem hj)).2
  have hst := fun P => run_storeCells_at P L.b (L.β + o) e0 news 0 cs w hw (by omega) hone
  simp only [Nat.add_zero] at hst
  let cs' : Array Value := (cs.toList.take (L.β + o) ++ news ++ cs.toList.drop (L.β + o + news.length)).toArray
  have hcsz : cs'.size = cs.size := by simp [cs']; omega
  refine ⟨_, hst, hI.write hrow hL hw hcsz (by simp; omega) ?_⟩
  intro j v hj
  have e1 : j < o → cs'[L.β + j]? = cs[L.β + j]? := by
    intro hjo
    simp only [cs', List.getElem?_toArray]
    rw [List.append_assoc, List.getElem?_append_left (by simp; omega), List.getElem?_take_of_lt (by omega)]; simp
  have e2 : ∀ i, i < news.length → cs'[L.β + (o + i)]? = news[i]? := by
    intro i hi
    simp only [cs', List.getElem?_toArray]
    rw [List.append_assoc, List.getElem?_append_right (by simp; omega), List.getElem?_append_left (by simp; omega)]
    congr 1
    simp; omega
  have e3 : o + news.length ≤ j → cs'[L.β + j]? = cs[L.β + j]? := by
    intro hjo
    simp only [cs', List.getElem?_toArray]
    rw [List.getElem?_append_right (by simp; omega), List.getElem?_drop]
    simp only [Array.getElem?_toList]
    congr 1
    simp; omega
  by_cases h1 : j < o
  · rw [List.getElem?_append_left (by simp; omega), List.getElem?_take_of_lt h1] at hj
    obtain ⟨c, hc1, hc2⟩ := hcc j v hj
    exact ⟨c, by rw [e1 h1]; exact hc1, hc2⟩
  · have ht : (l.take o).length = o := by simp; omega
    rw [List.getElem?_append_right (by omega), ht] at hj
    by_cases h2 : j - o < mid.length
    · rw [List.getElem?_append_left h2] at hj
      have h3 : j - o < news.length := by omega
      refine ⟨news[j - o], ?_, hc _ v _ hj (List.getElem?_eq_getElem h3)⟩
      have := e2 _ h3
      rw [show o + (j - o) = j by omega, List.getElem?_eq_getElem h3] at this
      exact this
    · rw [List.getElem?_append_right (by omega), List.getElem?_drop] at hj
      rw [show o + mid.length + (j - o - mid.length) = j by omega] at hj
      obtain ⟨c, hc1, hc2⟩ := hcc j v hj
      exact ⟨c, by rw [e3 (by omega)]; exact hc1, hc2⟩

/-- The same where the row has no block: nothing is written. -/
theorem write_none {y o : Nat} {l : List V} {k sz : Nat} {ow : Bool} {sib : Option Nat} (hI : Inv E X ι μ h w) (hrow : h y = some (.row l k sz true ow sib)) :
    Inv E X ι μ (h.sets (kill sib ++ [(y, some (.row (l.take o ++ ([] ++ l.drop o)) k sz true ow none))])) w := by
  rw [List.nil_append, List.take_append_drop]
  have hset : ∀ z p, (h.sets (kill sib ++ [(y, some (.row l k sz true ow none))])) z = some p → (z = y ∧ p = .row l k sz true ow none) ∨ (z ≠ y ∧ sib ≠ some z ∧ h z = some p) := by
    intro z p hp
    rw [sets_kill] at hp
    split at hp
    · cases hp; exact .inl ⟨‹_›, rfl⟩
    · split at hp
      · cases hp
      · exact .inr ⟨‹_›, ‹_›, hp⟩
  constructor
  · constructor
    · intro z p hp
      rcases hset z p hp with ⟨rfl, rfl⟩ | ⟨_, _, hp⟩
      · have h8 := hI.rel.obj _ _ hrow
        have h9 : RO ι μ w z (.row l k sz true ow none) := h8
        exact h9
      · exact hI.rel.obj z p hp
    · intro x z ox oz L M hx hz hxz hwr hL hM hb
      rcases hset x ox hx with ⟨rfl, rfl⟩ | ⟨h1, h2, h3⟩
      · rcases hset z oz hz with ⟨rfl, rfl⟩ | ⟨g1, g2, g3⟩
        · exact (hxz rfl).elim
        · exact (g2 (hI.rel.sep x z _ oz L M hrow g3 hxz rfl hL hM hb)).elim
      · rcases hset z oz hz with ⟨rfl, rfl⟩ | ⟨g1, g2, g3⟩
        · exact (h2 (hI.rel.sep z x _ ox M L hrow h3 (Ne.symm hxz) rfl hM hL hb.symm)).elim
        · exact hI.rel.sep x z ox oz L M h3 g3 hxz hwr hL hM hb
    · intro x z ox oz hx hz hs
      rcases hset x ox hx with ⟨rfl, rfl⟩ | ⟨h1, h2, h3⟩
      · simp [O.sib] at hs
      · rcases hset z oz hz with ⟨rfl, rfl⟩ | ⟨g1, g2, g3⟩
        · exact (h2 (hI.rel.sym x z ox _ h3 hrow hs)).elim
        · exact hI.rel.sym x z ox oz h3 g3 hs
    · intro x p z hx hs
      rcases hset x p hx with ⟨rfl, rfl⟩ | ⟨h1, h2, h3⟩
      · simp [O.sib] at hs
      · exact hI.rel.kin x p z h3 hs
    · exact hI.rel.imm
    · intro b cs hb x ox L hx hwr hL
      rcases hset x ox hx with ⟨rfl, rfl⟩ | ⟨h1, h2, h3⟩
      · exact hI.rel.off b cs hb x _ L hrow rfl hL
      · exact hI.rel.off b cs hb x ox L h3 hwr hL
    · exact hI.rel.glob
  · exact hI.anch
  · exact hI.new
  · intro x p L hxa hp hwr hL
    rcases hset x p hp with ⟨rfl, rfl⟩ | ⟨h1, h2, h3⟩
    · exact hI.wrM x _ L hxa hrow rfl hL
    · exact hI.wrM x p L hxa h3 hwr hL
  · intro x l1 k1 sz1 wr1 sib1 hxa hp
    rcases hset x _ hp with ⟨rfl, h5⟩ | ⟨_, _, h3⟩
    · cases h5; exact hI.own x l k sz true sib hxa hrow
    · exact hI.own x _ _ _ _ _ hxa h3
  · exact hI.fr
  · exact hI.mu
  · exact hI.muB
  · exact hI.size

theorem putCells_eq (l : List V) (o : Nat) (vs : List V) (hl : o + vs.length ≤ l.length) : putCells l o vs = l.take o ++ (vs ++ l.drop (o + vs.length)) := by
  induction vs generalizing l o with
  | nil => simp [putCells]
  | cons v vs ih =>
    simp only [List.length_cons] at hl
    rw [putCells, ih _ _ (by simp; omega)]
    have hlt : o < l.length := by omega
    rw [List.set_eq_take_append_cons_drop, if_pos hlt]
    have h1 : (l.take o).length = o := by simp; omega
    have h4 : (l.take o ++ v :: l.drop (o + 1)).take (o + 1) = l.take o ++ [v] := by
      rw [List.take_append, h1, List.take_of_length_le (by omega)]
      congr 1
      rw [show o + 1 - o = 1 by omega]; rfl
    have h5 : (l.take o ++ v :: l.drop (o + 1)).drop (o + 1 + vs.length) = l.drop (o + (vs.length + 1)) := by
      rw [List.drop_append, h1, List.drop_eq_nil_of_le (by omega), show o + 1 + vs.length - o = vs.length + 1 by omega]
      simp [List.drop_drop, Nat.add_assoc, Nat.add_comm 1]
    rw [h4, h5]
    simp


variable {E : Env} {X : Cx} {ι : Io} {μ : Mu} {h : Hp} {sl : Nat} {w : World} {R : List Nat}

theorem fits_cr {k : Nat} {vs : List V} {cs : List Value} (hf : fits k vs = true) (hc : Vs ι μ vs cs) : ∀ (j : Nat) v x, vs[j]? = some v → cs[j]? = some x → CR ι μ k v x := by
  intro j v x hv hx
  obtain ⟨y, hy, hr⟩ := hc.2 j v hv
  rw [hx] at hy; cases hy
  simp only [fits, Bool.and_eq_true, List.all_eq_true, Bool.or_eq_true, beq_iff_eq] at hf
  have hm := List.mem_of_getElem? hv
  refine ⟨?_, hr.one (hf.1 v hm)⟩
  rcases hf.2 with rfl | h2
  · simpa using hr
  · split
    · rw [if_pos ‹_›] at h2
      exact VC.of_plain hr (by simpa using (List.all_eq_true.1 h2) v hm)
    · rw [if_neg ‹_›] at h2
      split
      · exact VC.of_closed hr (by simpa using (List.all_eq_true.1 h2) v hm)
      · exact hr

theorem Goes.skip {r : Result Next} {w' : World} {U : Up} (hr : r = .ok .skip w') (hI : Inv E X ι μ (h.sets U) w') : Goes E X ι μ h sl w r (.t []) U :=
  ⟨undef, w', ι, .inr ⟨hr, rfl⟩, vr_undef, hI, fun _ _ => rfl, fun _ _ h => h⟩
theorem Goes.val {r : Result Next} {w' : World} {U : Up} {v x} (hr : r = .ok (.value x) w') (hv : VR ι μ v x) (hI : Inv E X ι μ (h.sets U) w') : Goes E X ι μ h sl w r v U :=
  ⟨x, w', ι, .inl hr, hv, hI, fun _ _ => rfl, fun _ _ h => h⟩

theorem store_goes {t : TypeId} {x v : V} {x' v' : Value} {U : Up} {rv : V} {r : Result Next} (hI : Inv E X ι μ h w)
    (hp : ((szOf E.P t).bind fun n => match x with
      | .p (some (x, o)) => (Rd.row x).bind fun (l, k, sz, w, ow, sib) =>
        if w = true ∧ v.ok = true ∧ v.cells.length = n ∧ o + n ≤ l.length ∧ fits k v.cells = true then
          (touch sib).bind fun _ => .ret (V.t [], kill sib ++ [(x, some (.row (putCells l o v.cells) k sz w ow none))]) else .bad
      | _ => .bad).run h = some ((rv, U), R)) (hx : VR ι μ x x') (hv : VR ι μ v v')
    (hr : ∀ w', (Instr.storeAt t x' v').run E.P w = .ok () w' → r = .ok .skip w') : Goes E X ι μ h sl w r rv U := by
  obtain ⟨n, R1, R2, h1, h2, rfl⟩ := Rd.run_bind hp
  split at h2
  · rename_i y o
    obtain ⟨⟨l, k, sz, wr, ow, sib⟩, R3, R4, h3, h4, rfl⟩ := Rd.run_bind h2
    have hrow := Rd.run_row h3
    dsimp only at hrow h4
    split at h4
    · rename_i hc
      obtain ⟨rfl, hok, hn, hlen, hfit⟩ := hc
      obtain ⟨_, R5, R6, h5, h6, rfl⟩ := Rd.run_bind h4
      cases h6
      obtain ⟨cs, hcs, hvs, hone⟩ := hv.cells hok
      have hs := sizeOf_run h1 w
      obtain ⟨L, hL, rfl⟩ := hx.p_inv
      have hsz : cs.length = n := by have := hvs.1; omega
      rw [putCells_eq _ _ _ (by omega)]
      obtain ⟨w', hst, hI'⟩ := write_goes hI hrow hL (o := o) (mid := v.cells) (news := cs) hvs.1 (by omega) (fits_cr hfit hvs)
      refine Goes.skip (hr w' ?_) hI'
      have hst' := hst E.P
      simp [Instr.storeAt, Instr.sureAddr, storeVar, hs, hsz, hcs, hst']
    · cases h4
  · cases h2

theorem copy_goes {t0 e ty : TypeId} {i : TypeInfo} {d x v : V} {d' x' : Value} {U : Up} {ts : Array TypeId} {r : Result Next} (hI : Inv E X ι μ h w)
    (hts : ts[0]? = some t0) (ht : E.P.underlying t0 = some (.slice e)) (hi : E.P.info? e = some i) (hs0 : i.size ≠ 0)
    (hp : (copyV i.size d x).run h = some ((v, U), R)) (hd : VR ι μ d d') (hx : VR ι μ x x')
    (hr : ∀ y w', (Builtin.copy_ ts ty #[d', x']).run E.P w = .ok y w' → r = .ok (.value y) w') : Goes E X ι μ h sl w r v U := by
  unfold copyV at hp
  obtain ⟨⟨xs, n, kx⟩, R1, R2, h1, h2, rfl⟩ := Rd.run_bind hp
  obtain ⟨xa, xc, news, rfl, hxc, hnl, hxl, hfc, hcr⟩ := (srcOf_run (P := E.P) hI.rel h1 hx).out
  dsimp only at h2
  split at h2
  · cases h2
    obtain ⟨rfl, rfl⟩ := hd.sn_inv
    refine Goes.pure hI (hr (.int .i64 0) w ?_) (.c .i)
    have hz : Nat.min n 0 = 0 := Nat.min_zero n
    have hfc0 := hfc 0 (Nat.zero_le _) w rfl
    simp [Builtin.copy_, hts, run_underlying ht, Builtin.lenOf, hz, sizeOf, typeInfo, hi, hfc0, goInt]
  · rename_i y o m
    obtain ⟨⟨l, k, sz', wr, ow, sib⟩, R3, R4, h3, h4, rfl⟩ := Rd.run_bind h2
    have hrow := Rd.run_row h3
    dsimp only at hrow h4
    split at h4
    · rename_i hc
      obtain ⟨rfl, rfl, hlen, hk, hk0⟩ := hc
      obtain ⟨_, R5, R6, h5, h6, rfl⟩ := Rd.run_bind h4
      cases h6
      have hmn : min n m * i.size ≤ n * i.size := Nat.mul_le_mul_right _ (Nat.min_le_left _ _)
      have hmm : min n m * i.size ≤ m * i.size := Nat.mul_le_mul_right _ (Nat.min_le_right _ _)
      have hfirst := hfc (min n m) (Nat.min_le_left _ _) w rfl
      have hml : (xs.take (min n m * i.size)).length = min n m * i.size := by simp; omega
      have hnl' : (news.take (min n m * i.size)).length = min n m * i.size := by simp; omega
      have hcr' : ∀ (j : Nat) v x, (xs.take (min n m * i.size))[j]? = some v → (news.take (min n m * i.size))[j]? = some x → CR ι μ k v x := by
        intro j v x hv hx
        rw [List.getElem?_take] at hv hx
        split at hv
        · rw [if_pos ‹_›] at hx; exact (hcr j v x hv hx).of_le hk
        · cases hv
      have hmin : Nat.min n m = min n m := rfl
      rcases hd.s_inv with ⟨L, cap, hL, hcap, hN, rfl⟩ | ⟨hm0, hyι, a, rfl⟩
      · obtain ⟨w', hst, hI'⟩ := write_goes hI hrow hL (o := o) (mid := xs.take (min n m * i.size)) (news := news.take (min n m * i.size)) (by omega) (by omega) hcr'
        rw [hml] at hI'
        refine Goes.val (hr _ w' ?_) (.c .i) hI'
        have hst' := hst E.P
        simp [Builtin.copy_, hts, run_underlying ht, Builtin.lenOf, sizeOf, typeInfo, hi, hmin, hfirst, hst', goInt]
      · subst hm0
        have h0 : min n 0 = 0 := Nat.min_zero n
        simp only [h0, Nat.zero_mul, List.take_zero, Nat.add_zero] at *
        refine Goes.val (hr (.int .i64 ((0 : Nat) : Int)) w ?_) (.c .i) (write_none hI hrow)
        cases a <;> simp [Builtin.copy_, hts, run_underlying ht, Builtin.lenOf, sizeOf, typeInfo, hi, hmin, hfirst, goInt, storeCells]
    · cases h4
  · cases h2

theorem length_rep {α : Type} (n : Nat) (l : List α) : (List.replicate n l).flatten.length = n * l.length := by
  induction n with
  | zero => simp
  | succ n ih => rw [List.replicate_succ, List.flatten_cons, List.length_append, ih, Nat.succ_mul]; omega
theorem zero_list (z : Array Value) (n : Nat) (hz : z.size ≠ 0) : (Builtin.zeroCells z n).toList = (List.replicate n z.toList).flatten := by
  apply List.ext_getElem?
  intro j
  simp only [Builtin.zeroCells, Array.toList_map, Array.toList_range, List.getElem?_map]
  by_cases hj : j < n * z.size
  · rw [List.getElem?_range hj]
    have hm : j % z.size < z.size := Nat.mod_lt _ (by omega)
    have : (List.replicate n z.toList).flatten[j]? = z.toList[j % z.size]? := by
      induction n generalizing j with
      | zero => simp at hj
      | succ n ih =>
        rw [List.replicate_succ, List.flatten_cons]
        by_cases h1 : j < z.size
        · rw [List.getElem?_append_left (by simpa using h1), Nat.mod_eq_of_lt h1]
        · rw [List.getElem?_append_right (by simp; omega)]
          simp only [Array.length_toList]
          rw [Nat.succ_mul] at hj
          have hmod : j % z.size = (j - z.size) % z.size := Nat.mod_eq_sub_mod (by omega)
          rw [ih (j - z.size) (by omega) (Nat.mod_lt _ (by omega)), hmod]
    rw [this]
    simp [hm]
  · rw [List.getElem?_eq_none (by simpa using hj), List.getElem?_eq_none]
    · rfl
    · rw [length_rep, Array.length_toList]; omega

theorem replicate_vs {z : List V} {zs : List Value} {P : V → Value → Prop} (hl : z.length = zs.length) (hz : ∀ (j : Nat) v x, z[j]? = some v → zs[j]? = some x → P v x) (n : Nat) :
    ((List.replicate n z).flatten.length = (List.replicate n zs).flatten.length) ∧
    ∀ (j : Nat) v x, (List.replicate n z).flatten[j]? = some v → (List.replicate n zs).flatten[j]? = some x → P v x := by
  induction n with
  | zero => simp
  | succ n ih =>
    simp only [List.replicate_succ, List.flatten_cons]
    refine ⟨by simp only [List.length_append, hl, ih.1], fun j v x hv hx => ?_⟩
    by_cases hj : j < z.length
    · rw [List.getElem?_append_left hj] at hv; rw [List.getElem?_append_left (by omega)] at hx
      exact hz j v x hv hx
    · rw [List.getElem?_append_right (by omega)] at hv; rw [List.getElem?_append_right (by omega)] at hx
      rw [← hl] at hx
      exact ih.2 _ v x hv hx

theorem clear_goes {t0 e ty : TypeId} {i : TypeInfo} {z : List V} {zv : Value} {d v : V} {d' : Value} {U : Up} {ts : Array TypeId} {r : Result Next} (hI : Inv E X ι μ h w)
    (hts : ts[0]? = some t0) (ht : E.P.underlying t0 = some (.slice e)) (hi : E.P.info? e = some i) (hs0 : i.size ≠ 0) (hz : i.zero = some zv) (hzs : scalars zv.cells.toList = some z)
    (hp : (clearV i.size z d).run h = some ((v, U), R)) (hd : VR ι μ d d')
    (hr : ∀ y w', (Builtin.clear_ ts ty #[d']).run E.P w = .ok y w' → r = .ok (.value y) w') : Goes E X ι μ h sl w r v U := by
  unfold clearV at hp
  split at hp
  · cases hp
    obtain ⟨rfl, rfl⟩ := hd.sn_inv
    exact Goes.pure hI (hr undef w (by simp [Builtin.clear_, hts, run_underlying ht]; rfl)) vr_undef
  · rename_i y o m
    obtain ⟨⟨l, k, sz', wr, ow, sib⟩, R3, R4, h3, h4, rfl⟩ := Rd.run_bind hp
    have hrow := Rd.run_row h3
    dsimp only at hrow h4
    split at h4
    · rename_i hc
      obtain ⟨rfl, rfl, hlen, hfit, hzl⟩ := hc
      obtain ⟨_, R5, R6, h5, h6, rfl⟩ := Rd.run_bind h4
      cases h6
      have hzv := (scalars_vs hzs).1 ι μ
      have hcr := fits_cr hfit hzv
      obtain ⟨e1, e2⟩ := replicate_vs hzv.1 hcr m
      have hz0 : zv.cells.size = i.size := by have := hzv.1; simp at this; omega
      have hfl : (List.replicate m z).flatten.length = m * i.size := by rw [length_rep, hzl]
      rcases hd.s_inv with ⟨L, cap, hL, hcap, hN, rfl⟩ | ⟨hm0, hyι, a, rfl⟩
      · obtain ⟨w', hst, hI'⟩ := write_goes hI hrow hL (o := o) (mid := (List.replicate m z).flatten) (news := (List.replicate m zv.cells.toList).flatten) e1 (by omega) e2
        rw [hfl] at hI'
        refine Goes.val (hr undef w' ?_) vr_undef hI'
        have hst' := hst E.P
        by_cases hm : m = 0
        · subst hm
          simp [storeCells] at hst'
          subst hst'
          simp [Builtin.clear_, hts, run_underlying ht]; rfl
        · have hzl2 := zero_list zv.cells m (by omega)
          have : (Builtin.clear_ ts ty #[.slice (some ⟨L.b, L.β + o, none⟩) m cap]).run E.P w = ((storeCells ⟨L.b, L.β + o, none⟩ (Builtin.zeroCells zv.cells m).toList).run E.P w).andThen fun _ w => .ok undef w := by
            simp only [Builtin.clear_, hts]
            cases m with
            | zero => exact (hm rfl).elim
            | succ m => simp [run_underlying ht, zeroValue, typeInfo, hi, hz, Result.andThen, undef]
          rw [this, hzl2, hst']; rfl
      · subst hm0
        simp only [List.replicate_zero, List.flatten_nil, Nat.zero_mul, Nat.add_zero] at *
        refine Goes.val (hr undef w ?_) vr_undef (write_none hI hrow)
        cases a <;> simp [Builtin.clear_, hts, run_underlying ht, undef]
    · cases h4
  · cases hp

end Go.Rk
