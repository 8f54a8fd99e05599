/-
  An abstract machine for the model's code: its values, its memory, and what each operation comes to.
  Conditions: none; these are definitions. What the machine says of the model is proved in the texts behind.
-/
import Derived.Calls
noncomputable section
namespace Go.Ab

/-- A binary tree: at depth d it holds numbers below 2^d. -/
inductive Tr (α : Type) where
  | e : Tr α
  | l (x : α) : Tr α
  | n (a b : Tr α) : Tr α

/-- A way down a tree. -/
inductive Path where
  | z | f (p : Path) | s (p : Path)

namespace Tr
variable {α : Type}
def fst (t : Tr α) : Tr α := Tr.casesOn t .e (fun _ => .e) (fun a _ => a)
def snd (t : Tr α) : Tr α := Tr.casesOn t .e (fun _ => .e) (fun _ b => b)
def val (t : Tr α) : Option α := Tr.casesOn t none (fun x => some x) (fun _ _ => none)
def bit (i d : Nat) : Bool := Nat.beq (Nat.land (Nat.shiftRight i d) 1) 1
/-- The way to i, of d steps. -/
def path (d i : Nat) : Path := Nat.rec (motive := fun _ => Path) .z (fun d p => Bool.casesOn (bit i d) (.f p) (.s p)) d
def get (d : Nat) (t : Tr α) (i : Nat) : Option α :=
  Path.rec (motive := fun _ => Tr α → Option α) (fun t => t.val)
    (fun _ ih t => Tr.casesOn t none (fun _ => none) (fun a _ => ih a))
    (fun _ ih t => Tr.casesOn t none (fun _ => none) (fun _ b => ih b)) (path d i) t
def set (x : α) (d : Nat) (t : Tr α) (i : Nat) : Tr α :=
  Path.rec (motive := fun _ => Tr α → Tr α) (fun _ => .l x)
    (fun _ ih t => Tr.casesOn t (.n (ih .e) .e) (fun _ => .n (ih .e) .e) (fun a b => .n (ih a) b))
    (fun _ ih t => Tr.casesOn t (.n .e (ih .e)) (fun _ => .n .e (ih .e)) (fun a b => .n a (ih b))) (path d i) t
/-- The part below the address i's upper m bits; it has depth k. -/
def sub (k m : Nat) : Tr α → Nat → Tr α :=
  Nat.rec (motive := fun _ => Tr α → Nat → Tr α) (fun t _ => t) (fun m ih t i => Bool.casesOn (bit i (m + k)) (ih t.fst i) (ih t.snd i)) m
def put (s : Tr α) (k m : Nat) : Tr α → Nat → Tr α :=
  Nat.rec (motive := fun _ => Tr α → Nat → Tr α) (fun _ _ => s)
    (fun m ih t i => Tr.casesOn t
      (Bool.casesOn (bit i (m + k)) (.n (ih .e i) .e) (.n .e (ih .e i)))
      (fun _ => Bool.casesOn (bit i (m + k)) (.n (ih .e i) .e) (.n .e (ih .e i)))
      (fun a b => Bool.casesOn (bit i (m + k)) (.n (ih a i) b) (.n a (ih b i)))) m
end Tr

/-- Numbers that are not known: a variable with its bounds. -/
inductive E where
  | var (i : Nat) (lo hi : Int)
  | const (n : Int)
  | add (a b : E) | sub (a b : E) | mul (a b : E)
  | rem (a : E) (c : Nat) | quo (a : E) (c : Nat)
  | max (a b : E) | min (a b : E)

def E.same : E → E → Bool
  | .var i l h, .var j l' h' => Nat.beq i j && (decide (l = l') && decide (h = h'))
  | .const n, .const m => decide (n = m)
  | .add a b, .add c d => a.same c && b.same d
  | .sub a b, .sub c d => a.same c && b.same d
  | .mul a b, .mul c d => a.same c && b.same d
  | .rem a b, .rem c d => Nat.beq b d && a.same c
  | .quo a b, .quo c d => Nat.beq b d && a.same c
  | .max a b, .max c d => a.same c && b.same d
  | .min a b, .min c d => a.same c && b.same d
  | _, _ => false

def E.eval (σ : Nat → Int) : E → Int
  | .var i _ _ => σ i
  | .const n => n
  | .add a b => a.eval σ + b.eval σ
  | .sub a b => a.eval σ - b.eval σ
  | .mul a b => a.eval σ * b.eval σ
  | .rem a c => a.eval σ % c
  | .quo a c => a.eval σ / c
  | .max a b => if b.eval σ > a.eval σ then b.eval σ else a.eval σ
  | .min a b => if b.eval σ < a.eval σ then b.eval σ else a.eval σ

/-- Are the variables within their bounds? -/
def E.ok (σ : Nat → Int) : E → Prop
  | .var i l h => l ≤ σ i ∧ σ i ≤ h
  | .const _ => True
  | .add a b | .sub a b | .mul a b | .max a b | .min a b => a.ok σ ∧ b.ok σ
  | .rem a _ | .quo a _ => a.ok σ

/-- Bounds, where they are plain. -/
def E.bnd : E → Option (Int × Int)
  | .var _ l h => some (l, h)
  | .const n => some (n, n)
  | .add a b => match a.bnd, b.bnd with
    | some (l, h), some (l', h') => some (l + l', h + h')
    | _, _ => none
  | .mul (.const (.ofNat m)) b => match b.bnd with
    | some (l, h) => some (m * l, m * h)
    | none => none
  | _ => none

/-- What is left of it by a divisor, where that is known. -/
def E.res (c : Nat) : E → Option Int
  | .const n => some (n % c)
  | .add a b => match a.res c, b.res c with
    | some x, some y => some ((x + y) % c)
    | _, _ => none
  | .sub a b => match a.res c, b.res c with
    | some x, some y => some ((x - y) % c)
    | _, _ => none
  | .mul (.const m) b => bif decide (m % c = 0) then some 0 else match b.res c with
    | some y => some ((m * y) % c)
    | none => none
  | _ => none

/-- Values. A pointer: an object's number and a cell. A slice: where it begins, its length, its capacity (ex: just that; else at least that), the cells of an element.
An aggregate: n cells in a tree of depth dep, d where the tree has none. junk: whatever. sym: a number from lo to hi that is not known, as an expression. -/
inductive AV where
  | junk
  | bool (b : Bool)
  | int (k : IntKind) (n : Int)
  | sym (k : IntKind) (lo hi : Int) (e : E)
  | str (s : List Nat)
  | ptr (id off : Nat)
  | nilp
  | slice (id off len cap : Nat) (ex : Bool) (esz : Nat)
  | nils
  | map (id : Nat)
  | nilm
  | fn (f : Fn) (first cap : List AV)
  | nilf
  | iface (t : TypeId) (v : AV)
  | nili
  | agg (n dep : Nat) (d : AV) (t : Tr AV)
  | tup (l : List AV)

def depFor (n : Nat) : Nat := bif Nat.ble n 1 then 0 else Nat.log2 (n - 1) + 1

/-- A cell of an aggregate or an object. -/
def cget (dep : Nat) (d : AV) (t : Tr AV) (i : Nat) : AV := (t.get dep i).getD d

structure Vec where
  n : Nat
  dep : Nat
  d : AV
  t : Tr AV

def Vec.get (v : Vec) (i : Nat) : AV := cget v.dep v.d v.t i

/-- Cells o, o + 1, .. (k of them). -/
def cellsFrom (dep : Nat) (d : AV) (t : Tr AV) (o : Nat) : Nat → List AV
  | 0 => []
  | k + 1 => cget dep d t o :: cellsFrom dep d t (o + 1) k

def setFrom (dep : Nat) : Tr AV → Nat → List AV → Tr AV
  | t, _, [] => t
  | t, o, v :: l => setFrom dep (t.set v dep o) (o + 1) l

def AV.scalarEq : AV → AV → Bool
  | .bool a, .bool b => a == b
  | .int j a, .int k b => j == k && a == b
  | .sym j l h e, .sym k l' h' e' => j == k && (l == l' && (h == h' && e.same e'))
  | .str a, .str b => a == b
  | .nilp, .nilp => true
  | .ptr a o, .ptr b p => a == b && o == p
  | .nils, .nils => true
  | .nilm, .nilm => true
  | .map a, .map b => a == b
  | .nilf, .nilf => true
  | .nili, .nili => true
  | _, _ => false

/-- An aggregate of a list of cells: where all are alike, no tree. -/
def vecOf (l : List AV) : Vec :=
  let n := l.length
  match l with
  | [] => { n := 0, dep := 0, d := .junk, t := .e }
  | v :: r =>
    if r.all (v.scalarEq ·) then { n, dep := depFor n, d := v, t := .e }
    else { n, dep := depFor n, d := .junk, t := setFrom (depFor n) .e 0 l }

def AV.ofVec (v : Vec) : AV := .agg v.n v.dep v.d v.t

/-- A part of an aggregate or object: size cells from off on. -/
def subVec (n dep : Nat) (d : AV) (t : Tr AV) (off size : Nat) : Vec :=
  if off = 0 ∧ size = n then { n, dep, d, t }
  else
    let k := Nat.log2 size
    if 2 ^ k = size ∧ off % size = 0 ∧ k ≤ dep then { n := size, dep := k, d, t := t.sub k (dep - k) off }
    else vecOf (cellsFrom dep d t off size)

/-- The cells of a value in memory. -/
def AV.vec : AV → Option Vec
  | .agg n dep d t => some { n, dep, d, t }
  | .tup _ => none
  | .junk => none
  | v => some { n := 1, dep := 0, d := v, t := .e }

def plainCell : Value → Bool
  | .agg _ | .tuple _ => false
  | _ => true

def ofV : Nat → Value → AV
  | _, .bool b => .bool b
  | _, .int k n => .int k n
  | _, .string s => .str (s.data.toList.map UInt8.toNat)
  | _, .pointer none => .nilp
  | _, .slice none 0 0 => .nils
  | _, .map none => .nilm
  | _, .nilFunc => .nilf
  | _, .nilIface => .nili
  | f + 1, .agg cs => if cs.toList.all plainCell then .ofVec (vecOf (cs.toList.map (ofV f))) else .junk
  | f + 1, .tuple vs => .tup (vs.toList.map (ofV f))
  | _, _ => .junk

abbrev APanic := AV × Bool      -- value, recovered

structure ADef where
  fn : Fn
  cap : List AV
  args : List AV

/-- A frame's deferred calls: a call, or the mark of a range over a function. -/
inductive ADefer where
  | call (d : ADef)
  | mark (id : Nat)

/-- A frame's measures: the depth of its registers' tree, how many there are; how many package-level variables the program has. -/
structure FI where
  rd : Nat
  sz : Nat
  G : Nat

inductive AObj where
  | cells (n dep : Nat) (d : AV) (t : Tr AV)
  | map (es : List (AV × AV × Nat)) (clock : Nat)
  | miter (m : Option Nat) (since : Nat) (seen : List Nat) (last : Nat)
  | siter (s : List Nat) (pos : Nat)
  | loop (state : LoopState) (pending : Option Code) (fn : FuncId) (fi : FI) (regs : Tr AV) (params : List Tmp) (assign body : Code) (defers : Nat)
  | dfr (taken : Bool)
  | dead

structure H where
  nx : Nat
  t : Tr AObj

def HD : Nat := 14
def H.get (h : H) (id : Nat) : Option AObj := h.t.get HD id
def H.set (h : H) (id : Nat) (o : AObj) : H := ⟨h.nx, h.t.set o HD id⟩
/-- A new object: none where there is no room. -/
def H.new (h : H) (o : AObj) : Option (Nat × H) :=
  bif Nat.blt h.nx (2 ^ HD) then some (h.nx, ⟨h.nx + 1, h.t.set o HD h.nx⟩) else none

def ev (fi : FI) (regs : Tr AV) (x : Operand) : AV :=
  match x with
  | .tmp t => bif Nat.blt t fi.sz then (regs.get fi.rd t).getD .junk else .junk
  | .const v => ofV 3 v
  | .global g => bif Nat.blt g fi.G then .ptr g 0 else .junk
  | .func f => .fn (.func f) [] []

def putReg (fi : FI) (regs : Tr AV) (dst : Option Tmp) (v : AV) : Tr AV :=
  match dst with
  | some d => bif Nat.blt d fi.sz then regs.set v fi.rd d else regs
  | none => regs

/-- What an operation comes to. -/
inductive AR where
  | val (v : AV) (h : H)
  | enter (f : FuncId) (args : List AV) (h : H)
  | round (l : Nat) (args : List AV) (h : H)
  | defer (d : ADef) (h : H)
  | recover (h : H)
  | panic (v : AV) (h : H)

section
variable (P : Program)

def size? (t : TypeId) : Option Nat := (P.info? t).map (·.size)
def isAgg? (t : TypeId) : Option Bool := (P.underlying t).map fun | .struct _ | .array _ _ => true | _ => false
def zero? (t : TypeId) : Option AV := (P.info? t).bind fun i => i.zero.map (ofV 3)

def allocA (h : H) (v : Vec) : Option (Nat × H) := h.new (.cells v.n v.dep v.d v.t)

def loadA (h : H) (t : TypeId) (id off : Nat) : Option AV :=
  match h.get id with
  | some (.cells n dep d tr) =>
    match isAgg? P t with
    | some true =>
      match size? P t with
      | some sz => if off + sz ≤ n then some (.ofVec (subVec n dep d tr off sz)) else none
      | none => none
    | some false => if off < n then some (cget dep d tr off) else none
    | none => none
  | _ => none

/-- Cells from off on are written. -/
def storeVec (n dep : Nat) (d : AV) (tr : Tr AV) (off : Nat) (v : Vec) : AObj :=
  if off = 0 ∧ v.n = n then .cells n v.dep v.d v.t
  else
    let k := Nat.log2 v.n
    if v.n = 1 then .cells n dep d (tr.set (v.get 0) dep off)
    else if 2 ^ k = v.n ∧ off % v.n = 0 ∧ k ≤ dep ∧ v.dep = k ∧ v.d.scalarEq d then .cells n dep d (Tr.put v.t k (dep - k) tr off)
    else .cells n dep d (setFrom dep tr off (cellsFrom v.dep v.d v.t 0 v.n))

def storeA (h : H) (id off : Nat) (v : Vec) : Option H :=
  match h.get id with
  | some (.cells n dep d tr) => if off + v.n ≤ n ∧ n ≤ 2 ^ dep then some (h.set id (storeVec n dep d tr off v)) else none
  | _ => none

/-- Go's own panics. -/
def nilDeref (h : H) : AR := .panic (.iface P.rt.errorString (.str ((("invalid memory address or nil pointer dereference").toUTF8).data.toList.map UInt8.toNat))) h

def wrapI (k : IntKind) (n : Int) : AV := .int k (k.wrap n)

def bitsI (op : BinOp) (k : IntKind) (x y : Int) : Option AV :=
  let m : Int := (2 ^ k.bits : Nat)
  let a := (x % m).toNat
  let b := (y % m).toNat
  match op with
  | .and => some (wrapI k (Nat.land a b))
  | .or => some (wrapI k (Nat.lor a b))
  | .xor => some (wrapI k (Nat.xor a b))
  | .andNot => some (wrapI k (Nat.land a (2 ^ k.bits - 1 - b)))
  | _ => none

def leS : List Nat → List Nat → Bool
  | [], _ => true
  | _ :: _, [] => false
  | a :: x, b :: y => Nat.blt a b || (Nat.beq a b && leS x y)

def intOp (op : BinOp) (k : IntKind) (a b : Int) : Option AV :=
  match op with
  | .add => some (wrapI k (a + b))
  | .sub => some (wrapI k (a - b))
  | .mul => some (wrapI k (a * b))
  | .quo => if b = 0 then none else some (wrapI k (a.tdiv b))
  | .rem => if b = 0 then none else some (.int k (a.tmod b))
  | .eql => some (.bool (a == b))
  | .neq => some (.bool (a != b))
  | .lss => some (.bool (decide (a < b)))
  | .leq => some (.bool (decide (a ≤ b)))
  | .gtr => some (.bool (decide (a > b)))
  | .geq => some (.bool (decide (a ≥ b)))
  | .and | .or | .xor | .andNot => bitsI op k a b
  | .shl | .shr => none

/-- Half of a kind's numbers. -/
def half (k : IntKind) : Nat := Nat.pow 2 (Nat.pred k.bits)
def kindNo (k : IntKind) : Nat := k.casesOn 0 1 2 3 4 5 6 7

/-- Integers that are not negative, the short way. -/
def natOp (op : BinOp) (k : IntKind) (x y : Nat) : Option AV :=
  match op with
  | .add => bif Nat.blt (Nat.add x y) (half k) then some (.int k (.ofNat (Nat.add x y))) else intOp op k (.ofNat x) (.ofNat y)
  | .sub => bif Nat.ble y x then (bif Nat.blt x (half k) then some (.int k (.ofNat (Nat.sub x y))) else intOp op k (.ofNat x) (.ofNat y)) else intOp op k (.ofNat x) (.ofNat y)
  | .eql => some (.bool (Nat.beq x y))
  | .neq => some (.bool (!Nat.beq x y))
  | .lss => some (.bool (Nat.blt x y))
  | .leq => some (.bool (Nat.ble x y))
  | .gtr => some (.bool (Nat.blt y x))
  | .geq => some (.bool (Nat.ble y x))
  | op => intOp op k (.ofNat x) (.ofNat y)

def intF (op : BinOp) (k : IntKind) (a b : Int) : Option AV :=
  match a, b with
  | .ofNat x, .ofNat y => natOp op k x y
  | a, b => intOp op k a b

def shiftOp (op : BinOp) (k : IntKind) (a b : Int) : Option AV :=
  if b < 0 then none else
  let n := min b.toNat k.bits
  match op with
  | .shl => some (wrapI k (a * 2 ^ n))
  | .shr => some (.int k (a.fdiv (2 ^ n)))
  | _ => none

/-- The field f of a struct type: offset, type. A field of no cells is not served. -/
def field? (s : TypeId) (f : Nat) : Option (Nat × TypeId × Nat) :=
  match P.underlying s with
  | some (.struct fields) => match fields[f]? with
    | some x => match size? P x.type with
      | some (sz + 1) => some (x.offset, x.type, sz + 1)
      | _ => none
    | none => none
  | _ => none

/-- A part of an aggregate, as a value of its type. -/
def partA (t : TypeId) (n dep : Nat) (d : AV) (tr : Tr AV) (off : Nat) : Option AV :=
  match isAgg? P t, size? P t with
  | some true, some sz => if off + sz ≤ n then some (.ofVec (subVec n dep d tr off sz)) else none
  | some false, _ => if off < n then some (cget dep d tr off) else none
  | _, _ => none

def eqFields (rec : TypeId → AV → AV → Option Bool) (n dep : Nat) (d : AV) (t : Tr AV) (m dep' : Nat) (d' : AV) (t' : Tr AV) : List Field → Option Bool
  | [] => some true
  | f :: fs =>
    if f.name ≠ "_" then
      match partA P f.type n dep d t f.offset, partA P f.type m dep' d' t' f.offset with
      | some a, some b => match rec f.type a b with
        | some true => eqFields rec n dep d t m dep' d' t' fs
        | some false => some false
        | none => none
      | _, _ => none
    else eqFields rec n dep d t m dep' d' t' fs

def eqItems (rec : AV → AV → Option Bool) (e : TypeId) (sz : Nat) (n dep : Nat) (d : AV) (t : Tr AV) (m dep' : Nat) (d' : AV) (t' : Tr AV) : List Nat → Option Bool
  | [] => some true
  | i :: is =>
    match partA P e n dep d t (i * sz), partA P e m dep' d' t' (i * sz) with
    | some a, some b => match rec a b with
      | some true => eqItems rec e sz n dep d t m dep' d' t' is
      | some false => some false
      | none => none
    | _, _ => none

/-- '==' at a type without addresses. -/
def eqT : Nat → TypeId → AV → AV → Option Bool
  | 0, _, _, _ => none
  | f + 1, t, x, y =>
    match P.underlying t, x, y with
    | some .bool, .bool a, .bool b => some (a == b)
    | some (.int _), .int k a, .int k' b => if k = k' then some (a == b) else none
    | some (.int _), .sym k l h e, .sym k' l' h' e' => if k = k' then (bif e.same e' then some true else bif decide (h < l') || decide (h' < l) then some false else none) else none
    | some (.int _), .sym k l h _, .int k' b => if k = k' then (bif decide (h < b) || decide (b < l) then some false else none) else none
    | some (.int _), .int k a, .sym k' l h _ => if k = k' then (bif decide (h < a) || decide (a < l) then some false else none) else none
    | some .string, .str a, .str b => some (a == b)
    | some (.struct fs), .agg n dep d tr, .agg m dep' d' tr' => if P.stoodInHeld t then none else eqFields P (eqT f) n dep d tr m dep' d' tr' fs.toList
    | some (.array len e), .agg n dep d tr, .agg m dep' d' tr' => match size? P e with
      | some sz => eqItems P (eqT f e) e sz n dep d tr m dep' d' tr' (List.range len)
      | none => none
    | _, _, _ => none

def ckFields (rec : TypeId → AV → Bool) (n dep : Nat) (d : AV) (t : Tr AV) : List Field → Bool
  | [] => true
  | f :: fs =>
    if f.name ≠ "_" then
      match partA P f.type n dep d t f.offset with
      | some a => rec f.type a && ckFields rec n dep d t fs
      | none => false
    else ckFields rec n dep d t fs

/-- A key that can be looked up: of a type without addresses and arrays. -/
def ckT : Nat → TypeId → AV → Bool
  | 0, _, _ => false
  | f + 1, t, x =>
    match P.underlying t, x with
    | some .bool, .bool _ | some (.int _), .int _ _ | some (.int _), .sym _ _ _ _ | some .string, .str _ => true
    | some (.struct fs), .agg n dep d tr => ckFields P (ckT f) n dep d tr fs.toList
    | _, _ => false

/-- The very same key. -/
def sameScalar : AV → AV → Bool
  | .bool a, .bool b => a == b
  | .int j a, .int k b => j == k && a == b
  | .sym j _ _ e, .sym k _ _ e' => j == k && e.same e'
  | .str a, .str b => a == b
  | _, _ => false

def sameKey (x y : AV) : Bool :=
  match x, y with
  | .agg n dep d t, .agg m dep' d' t' => n == m && (List.range n).all fun i => sameScalar (cget dep d t i) (cget dep' d' t' i)
  | x, y => sameScalar x y

/-! Numbers that are not known: what surely holds of them. -/

/-- A number as an expression, with its bounds. -/
def asSym : AV → Option (IntKind × Int × Int × E)
  | .int k n => some (k, n, n, .const n)
  | .sym k lo hi e => some (k, lo, hi, e)
  | _ => none
/-- Bounds within the lower half of a kind's numbers. -/
def fits (k : IntKind) (lo hi : Int) : Bool := decide (0 ≤ lo) && decide (hi < half k)
def mkS (k : IntKind) (lo hi : Int) (e : E) : AV :=
  match e with
  | .const n => .int k n
  | e => bif decide (lo = hi) then .int k lo else .sym k lo hi e
def mkI (k : IntKind) (lo hi : Int) (e : E) : Option AV := bif fits k lo hi then some (mkS k lo hi e) else none

/-- A multiple and a rest that is within bounds: the rest. -/
def E.rest (c : Nat) : E → Option (Int × Int × E)
  | .add (.mul (.const m) _) y => match y.bnd with
    | some (l, h) => bif decide (m % c = 0) && (decide (0 ≤ l) && decide (h < c)) then some (l, h, y) else none
    | none => none
  | _ => none

/-- A remainder of a number that is not negative; c > 0. -/
def symRem (k : IntKind) (lo hi : Int) (e : E) (c : Nat) : AV :=
  bif decide (hi < c) then mkS k lo hi e else
  match e.res c with
  | some r => .int k r
  | none =>
    bif decide (lo / c = hi / c) then mkS k (lo - c * (lo / c)) (hi - c * (lo / c)) (.sub e (.const (c * (lo / c)))) else
    match e.rest c with
    | some (l, h, y) => mkS k l h y
    | none => mkS k 0 (c - 1) (.rem e c)

def symOr (k : IntKind) (c : Int) (l h : Int) (e : E) : Option AV :=
  bif decide (0 ≤ c) && (decide (0 ≤ l) && decide (c % (2 ^ (Nat.log2 h.toNat + 1) : Nat) = 0)) then mkI k (c + l) (c + h) (bif decide (c = 0) then e else .add (.const c) e) else none

def symAri (op : BinOp) (k : IntKind) (l₁ h₁ : Int) (e₁ : E) (l₂ h₂ : Int) (e₂ : E) : Option AV :=
  match op with
  | .add => mkI k (l₁ + l₂) (h₁ + h₂) (.add e₁ e₂)
  | .sub => mkI k (l₁ - h₂) (h₁ - l₂) (.sub e₁ e₂)
  | .rem => match e₂ with
    | .const (.ofNat (c + 1)) => bif decide (0 ≤ l₁) then some (symRem k l₁ h₁ e₁ (c + 1)) else none
    | _ => none
  | .quo => match e₂ with
    | .const (.ofNat (c + 1)) => bif decide (0 ≤ l₁) then mkI k (l₁ / (c + 1 : Nat)) (h₁ / (c + 1 : Nat)) (.quo e₁ (c + 1)) else none
    | _ => none
  | .or => match e₁, e₂ with
    | .const c, _ => symOr k c l₂ h₂ e₂
    | _, .const c => symOr k c l₁ h₁ e₁
    | _, _ => none
  | .and => match e₂ with
    | .const (.ofNat c) => bif fits k l₁ h₁ && (Nat.blt c (half k) && Nat.beq (2 ^ (Nat.log2 c + 1)) (c + 1)) then some (symRem k l₁ h₁ e₁ (c + 1)) else none
    | _ => none
  | .lss => bif decide (h₁ < l₂) then some (.bool true) else bif decide (h₂ ≤ l₁) then some (.bool false) else none
  | .leq => bif decide (h₁ ≤ l₂) then some (.bool true) else bif decide (h₂ < l₁) then some (.bool false) else none
  | .gtr => bif decide (h₂ < l₁) then some (.bool true) else bif decide (h₁ ≤ l₂) then some (.bool false) else none
  | .geq => bif decide (h₂ ≤ l₁) then some (.bool true) else bif decide (h₁ < l₂) then some (.bool false) else none
  | .eql => bif e₁.same e₂ then some (.bool true) else bif decide (h₁ < l₂) || decide (h₂ < l₁) then some (.bool false) else none
  | .neq => bif e₁.same e₂ then some (.bool false) else bif decide (h₁ < l₂) || decide (h₂ < l₁) then some (.bool true) else none
  | _ => none

/-- A shift of an unknown number by a known one. -/
def symSh (op : BinOp) (k : IntKind) (l₁ h₁ : Int) (e₁ : E) (n : Int) : Option AV :=
  bif decide (0 ≤ n) && decide (n < k.bits) then
    match op with
    | .shl => bif decide (0 ≤ l₁) then mkI k (l₁ * 2 ^ n.toNat) (h₁ * 2 ^ n.toNat) (.mul (.const (2 ^ n.toNat)) e₁) else none
    | .shr => bif decide (0 ≤ l₁) then some (mkS k (l₁ / (2 ^ n.toNat : Nat)) (h₁ / (2 ^ n.toNat : Nat)) (.quo e₁ (2 ^ n.toNat))) else none
    | _ => none
  else none

def symBin (op : BinOp) (x y : AV) : Option AV :=
  match asSym x, asSym y with
  | some (k, l₁, h₁, e₁), some (k', l₂, h₂, e₂) =>
    match op, y with
    | .shl, .int _ n => symSh .shl k l₁ h₁ e₁ n
    | .shr, .int _ n => symSh .shr k l₁ h₁ e₁ n
    | .shl, _ | .shr, _ => none
    | op, _ => bif Nat.beq (kindNo k) (kindNo k') then symAri op k l₁ h₁ e₁ l₂ h₂ e₂ else none
  | _, _ => none

/-- '=='. cst: is an operand a constant? -/
def eqA (t : TypeId) (x y : AV) (cst : Bool) : Option Bool :=
  match P.underlying t, x, y with
  | some .bool, .bool a, .bool b => some (a == b)
  | some (.pointer _), .nilp, .nilp => some true
  | some (.pointer _), .nilp, .ptr _ _ | some (.pointer _), .ptr _ _, .nilp => some false
  | some (.slice _), .nils, .nils => some true
  | some (.slice _), .nils, .slice .. | some (.slice _), .slice .., .nils => some false
  | some (.map _ _), .nilm, .nilm => some true
  | some (.map _ _), .nilm, .map _ | some (.map _ _), .map _, .nilm => some false
  | some (.func _ _ _), .nilf, .nilf => some true
  | some (.func _ _ _), .nilf, .fn .. | some (.func _ _ _), .fn .., .nilf => some false
  | some (.interface _), .nili, .nili => if cst then some true else none
  | some (.interface _), .nili, .iface _ _ | some (.interface _), .iface _ _, .nili => some false
  | some (.struct _), .agg .., .agg .. | some (.array _ _), .agg .., .agg .. => if P.eqGuardType P.depth t = false then eqT P 8 t x y else none
  | _, _, _ => none

def isConst : Operand → Bool | .const _ => true | _ => false

def binA (op : BinOp) (t : TypeId) (cst : Bool) (x y : AV) : Option AV :=
  match op, x, y with
  | .shl, .int k a, .int _ b | .shr, .int k a, .int _ b => shiftOp op k a b
  | _, .int k a, .int k' b => bif Nat.beq (kindNo k) (kindNo k') then intF op k a b else none
  | op, .sym k l h e, y => symBin op (.sym k l h e) y
  | op, .int k a, .sym k' l h e => symBin op (.int k a) (.sym k' l h e)
  | .add, .str a, .str b => if a.length + b.length < 1000000 then some (.str (a ++ b)) else none
  | .eql, .str a, .str b => some (.bool (a == b))
  | .neq, .str a, .str b => some (.bool !(a == b))
  | .lss, .str a, .str b => some (.bool !(leS b a))
  | .leq, .str a, .str b => some (.bool (leS a b))
  | .gtr, .str a, .str b => some (.bool !(leS a b))
  | .geq, .str a, .str b => some (.bool (leS b a))
  | .eql, x, y => (eqA P t x y cst).map .bool
  | .neq, x, y => (eqA P t x y cst).map (.bool !·)
  | _, _, _ => none

def isPointer (t : TypeId) : Bool := match P.underlying t with
  | some (.pointer _) => true
  | _ => false
def nilEq (op : BinOp) (r : Bool) : Option AV := match op with
  | .eql => some (.bool r)
  | .neq => some (.bool (!r))
  | _ => none
def intQ (op : BinOp) (k k' : IntKind) (a b : Int) : Option AV := match op with
  | .shl => shiftOp .shl k a b
  | .shr => shiftOp .shr k a b
  | op => bif Nat.beq (kindNo k) (kindNo k') then intF op k a b else none

/-- The same as binA, the most frequent ones first. -/
def binQ (op : BinOp) (t : TypeId) (cst : Bool) (x y : AV) : Option AV :=
  match x with
  | .int k a => match y with
    | .int k' b => intQ op k k' a b
    | _ => binA P op t cst x y
  | .nilp => match y with
    | .nilp => bif isPointer P t then nilEq op true else binA P op t cst x y
    | .ptr _ _ => bif isPointer P t then nilEq op false else binA P op t cst x y
    | _ => binA P op t cst x y
  | .ptr _ _ => match y with
    | .nilp => bif isPointer P t then nilEq op false else binA P op t cst x y
    | _ => binA P op t cst x y
  | _ => binA P op t cst x y

theorem binQ_eq (op : BinOp) (t : TypeId) (cst : Bool) (x y : AV) : binQ P op t cst x y = binA P op t cst x y := by
  cases x <;> try rfl
  case int k a =>
    cases y <;> try rfl
    cases op <;> rfl
  case nilp =>
    cases y <;> try rfl
    all_goals
      simp only [binQ, isPointer]
      cases hu : P.underlying t with
      | none => rfl
      | some d =>
        cases d <;> try rfl
        cases op <;> simp [nilEq, binA, eqA, hu]
  case ptr id off =>
    cases y <;> try rfl
    all_goals
      simp only [binQ, isPointer]
      cases hu : P.underlying t with
      | none => rfl
      | some d =>
        cases d <;> try rfl
        cases op <;> simp [nilEq, binA, eqA, hu]

def unA (op : UnOp) (x : AV) : Option AV :=
  match op, x with
  | .neg, .int k n => some (wrapI k (0 - n))
  | .xor, .int k n => bitsI .xor k (if k.signed then -1 else k.max) n
  | .not, .bool b => some (.bool !b)
  | _, _ => none

def indexAddrA (t : TypeId) (x i : AV) (h : H) : Option AR :=
  match i with
  | .int _ i =>
    match P.underlying t, x with
    | some (.array len e), .ptr id off =>
      match size? P e with
      | some (sz + 1) => if 0 ≤ i ∧ i < len then some (.val (.ptr id (off + i.toNat * (sz + 1))) h) else none
      | _ => none
    | some (.slice e), .slice id off len _ _ esz =>
      match size? P e with
      | some (sz + 1) => if 0 ≤ i ∧ i < len ∧ esz = sz + 1 then some (.val (.ptr id (off + i.toNat * (sz + 1))) h) else none
      | _ => none
    | _, _ => none
  | _ => none

def indexA (t : TypeId) (x i : AV) : Option AV :=
  match i with
  | .int _ i =>
    match P.underlying t, x with
    | some (.array len e), .agg n dep d tr =>
      match size? P e with
      | some sz => if 0 ≤ i ∧ i < len then partA P e n dep d tr (i.toNat * sz) else none
      | none => none
    | some .string, .str s => if 0 ≤ i then (s[i.toNat]?).map fun b => .int .u8 (b : Nat) else none
    | _, _ => none
  | _ => none

def natOf : AV → Option Nat
  | .int _ n => if 0 ≤ n then some n.toNat else none
  | _ => none

/-- An optional bound: none: it is not one that is served. -/
def bound (x : Option AV) (dflt : Nat) : Option Nat :=
  match x with
  | none => some dflt
  | some v => natOf v

/-- Has an object so many cells? -/
def roomA (h : H) (id k : Nat) : Bool :=
  match h.get id with
  | some (.cells m _ _ _) => Nat.ble k m
  | _ => false

def sliceA (t : TypeId) (x : AV) (lo hi mx : Option AV) (h : H) : Option AV :=
  match P.underlying t, x with
  | some .string, .str s =>
    match mx, bound lo 0, bound hi s.length with
    | none, some l, some h => if l ≤ h ∧ h ≤ s.length then some (.str ((s.take h).drop l)) else none
    | _, _, _ => none
  | some (.slice e), .slice id off len cap ex esz =>
    match size? P e, bound lo 0, bound hi len with
    | some sz, some l, some h =>
      match mx with
      | none => if sz = esz ∧ l ≤ h ∧ h ≤ cap then some (.slice id (off + l * esz) (h - l) (cap - l) ex esz) else none
      | some m => match natOf m with
        | some m => if sz = esz ∧ hi.isSome ∧ l ≤ h ∧ h ≤ m ∧ m ≤ cap then some (.slice id (off + l * esz) (h - l) (m - l) true esz) else none
        | none => none
    | _, _, _ => none
  | some (.slice e), .nils =>
    match size? P e, mx, bound lo 0, bound hi 0 with
    | some _, none, some 0, some 0 => some .nils
    | _, _, _, _ => none
  | some (.array n e), .ptr id off =>
    match size? P e, bound lo 0, bound hi n, mx with
    | some (sz + 1), some l, some hh, none => if l ≤ hh ∧ hh ≤ n ∧ roomA h id (off + n * (sz + 1)) = true then some (.slice id (off + l * (sz + 1)) (hh - l) (n - l) true (sz + 1)) else none
    | _, _, _, _ => none
  | some (.pointer a), .ptr id off =>
    match P.underlying a with
    | some (.array n e) =>
      match size? P e, bound lo 0, bound hi n, mx with
      | some (sz + 1), some l, some hh, none => if l ≤ hh ∧ hh ≤ n ∧ roomA h id (off + n * (sz + 1)) = true then some (.slice id (off + l * (sz + 1)) (hh - l) (n - l) true (sz + 1)) else none
      | _, _, _, _ => none
    | _ => none
  | _, _ => none

def findA (kt : TypeId) (k : AV) : List (AV × AV × Nat) → Nat → Option (Option (Nat × AV × AV × Nat))
  | [], _ => some none
  | (k', v, b) :: es, i =>
    match eqT P 8 kt k k' with
    | some true => some (some (i, k', v, b))
    | some false => findA kt k es (i + 1)
    | none => none

def lookupA (t : TypeId) (x k : AV) (ok : Bool) (h : H) : Option AV :=
  match P.underlying t with
  | some (.map kt et) =>
    if ckT P 8 kt k then
      let es : Option (List (AV × AV × Nat)) := match x with
        | .nilm => some []
        | .map id => match h.get id with | some (.map es _) => some es | _ => none
        | _ => none
      match es with
      | some es => match findA P kt k es 0 with
        | some (some (_, _, v, _)) => some (if ok then .tup [v, .bool true] else v)
        | some none => match zero? P et with
          | some z => some (if ok then .tup [z, .bool false] else z)
          | none => none
        | none => none
      | none => none
    else none
  | _ => none

def modifyAt (l : List (AV × AV × Nat)) (i : Nat) (f : AV × AV × Nat → AV × AV × Nat) : List (AV × AV × Nat) := l.modify i f

def mapUpdateA (t : TypeId) (x k v : AV) (h : H) : Option H :=
  match P.underlying t, x with
  | some (.map kt _), .map id =>
    match h.get id with
    | some (.map es clock) =>
      if ckT P 8 kt k then
        match findA P kt k es 0 with
        | some (some (i, k', _, _)) => if sameKey k' k then some (h.set id (.map (modifyAt es i fun e => (k, v, e.2.2)) clock)) else none
        | some none => some (h.set id (.map (es ++ [(k, v, clock)]) (clock + 1)))
        | none => none
      else none
    | _ => none
  | _, _ => none

def mapEntryA (t : TypeId) (x k : AV) (h : H) : Option (AV × H) :=
  match P.underlying t, x with
  | some (.map kt et), .map id =>
    match h.get id with
    | some (.map es clock) =>
      if ckT P 8 kt k then
        match findA P kt k es 0 with
        | some (some (i, k', v, b)) => if sameKey k' k then some (.tup [v, .int .i64 b], h.set id (.map (modifyAt es i fun e => (k, e.2)) clock)) else none
        | some none => match zero? P et with
          | some z => some (.tup [z, .int .i64 clock], h.set id (.map (es ++ [(k, z, clock)]) (clock + 1)))
          | none => none
        | none => none
      else none
    | _ => none
  | _, _ => none

def entryStoreA (x s v : AV) (h : H) : Option H :=
  match x, s with
  | .map id, .int _ b =>
    match h.get id with
    | some (.map es clock) => match es.findIdx? (fun e => (e.2.2 : Int) == b) with
      | some i => some (h.set id (.map (modifyAt es i fun e => (e.1, v, e.2.2)) clock))
      | none => none
    | _ => none
  | _, _ => none

def rangeA (t : TypeId) (x : AV) (h : H) : Option (AV × H) :=
  let o : Option AObj := match P.underlying t, x with
    | some .string, .str s => some (.siter s 0)
    | some (.map _ _), .nilm => some (.miter none 0 [] 0)
    | some (.map _ _), .map id => match h.get id with
      | some (.map _ clock) => some (.miter (some id) clock [] clock)
      | _ => none
    | _, _ => none
  match o with
  | some o => (h.new o).map fun (id, h) => (.ptr id 0, h)
  | none => none

/-- A step of a range over a map: where just one may come next. -/
def nextA (x : AV) (isString : Bool) (h : H) : Option (AV × H) :=
  match x, isString with
  | .ptr id 0, false =>
    match h.get id with
    | some (.miter none _ _ _) => some (.tup [.bool false], h)
    | some (.miter (some m) since seen last) =>
      match h.get m with
      | some (.map es clock) =>
        if !seen.isEmpty && !es.isEmpty && es.all (fun e => Nat.ble last e.2.2) then none else
        let left := es.filter fun e => !seen.contains e.2.2
        let old := left.filter fun e => Nat.blt e.2.2 since
        let new := left.filter fun e => Nat.ble since e.2.2
        match old, new with
        | [], [] => some (.tup [.bool false], h)
        | [e], [] => some (.tup [.bool true, e.1, e.2.1], h.set id (.miter (some m) since (seen ++ [e.2.2]) clock))
        | _, _ => none
      | _ => none
    | _ => none
  | _, _ => none

def entryA (x : AV) (h : H) : Option AV :=
  match x with
  | .ptr id 0 =>
    match h.get id with
    | some (.miter (some m) _ seen stepped) =>
      match seen.getLast?, h.get m with
      | some stamp, some (.map es clock) =>
        if clock = stepped then match es.find? (fun e => e.2.2 == stamp) with
          | some e => some (.tup [e.1, e.2.1])
          | none => none
        else none
      | _, _ => none
    | _ => none
  | _ => none

def typeAssertA (x : AV) (asserted : TypeId) (ok : Bool) : Option AV :=
  match P.underlying asserted, x with
  | some (.interface _), _ => none
  | some _, .iface t v =>
    if t = asserted then some (if ok then .tup [v, .bool true] else v)
    else if ok then (zero? P asserted).map fun z => .tup [z, .bool false] else none
  | some _, .nili => if ok then (zero? P asserted).map fun z => .tup [z, .bool false] else none
  | _, _ => none

def repCells : Nat → List AV → List AV
  | 0, _ => []
  | k + 1, z => z ++ repCells k z

/-- n elements of a zero value's cells. -/
def zeroVec (n : Nat) (z : Vec) : Vec :=
  if z.n = 1 then { n, dep := depFor n, d := z.get 0, t := .e }
  else match z.t with
    | .e => { n := n * z.n, dep := depFor (n * z.n), d := z.d, t := .e }
    | _ => vecOf (repCells n (cellsFrom z.dep z.d z.t 0 z.n))

def makeSliceA (t : TypeId) (len cap : AV) (h : H) : Option (AV × H) :=
  match P.underlying t, natOf len, natOf cap with
  | some (.slice e), some l, some c =>
    match size? P e, zero? P e, P.info? e with
    | some (sz + 1), some z, some i =>
      if l ≤ c ∧ c ≤ 1000000 ∧ i.bytes * c ≤ 1000000000 then
        match z.vec with
        | some zv => if zv.n = sz + 1 then (allocA h (zeroVec c zv)).map fun (id, h) => (.slice id 0 l c true (sz + 1), h) else none
        | none => none
      else none
    | _, _, _ => none
  | _, _, _ => none

def fillA (esz : Nat) (v : Vec) : List (Nat × AV) → Option Vec
  | [] => some v
  | (i, x) :: rest =>
    match x.vec with
    | some xv => if xv.n = esz ∧ (i + 1) * esz ≤ v.n ∧ v.n ≤ 2 ^ v.dep then fillA esz { v with t := setFrom v.dep v.t (i * esz) (cellsFrom xv.dep xv.d xv.t 0 xv.n) } rest else none
    | none => none

def fillS (fields : Array Field) (v : Vec) : List (Nat × AV) → Option Vec
  | [] => some v
  | (i, x) :: rest =>
    match fields[i]? with
    | some f => match x.vec, size? P f.type with
      | some xv, some sz => if xv.n = sz ∧ f.offset + sz ≤ v.n ∧ v.n ≤ 2 ^ v.dep then fillS fields { v with t := setFrom v.dep v.t f.offset (cellsFrom xv.dep xv.d xv.t 0 xv.n) } rest else none
      | _, _ => none
    | none => none

def buildA (t : TypeId) (parts : List (Nat × AV)) : Option AV :=
  match zero? P t with
  | some z => match z.vec, P.underlying t with
    | some zv, some (.struct fields) => if fields.toList.all fun f => (size? P f.type).isSome then (fillS P fields zv parts).map .ofVec else none
    | some zv, some (.array _ e) => match size? P e with
      | some sz => (fillA sz zv parts).map .ofVec
      | none => none
    | _, _ => none
  | none => none

def buildSliceA (t : TypeId) (len : Nat) (parts : List (Nat × AV)) (h : H) : Option (AV × H) :=
  match P.underlying t with
  | some (.slice e) =>
    match size? P e, zero? P e with
    | some (sz + 1), some z => match z.vec with
      | some zv => if zv.n = sz + 1 ∧ len * (sz + 1) ≤ 16000000 then
          match fillA (sz + 1) (zeroVec len zv) parts with
          | some v => (allocA h v).map fun (id, h) => (.slice id 0 len len true (sz + 1), h)
          | none => none
        else none
      | none => none
    | _, _ => none
  | _ => none

/-- The cells of what is appended or copied: its first n elements. -/
def srcCells (h : H) (esz n : Nat) (x : AV) : Option (List AV) :=
  match x with
  | .nils => some []
  | .slice id off len _ _ e =>
    match h.get id with
    | some (.cells m dep d t) => if e = esz ∧ n ≤ len ∧ off + n * esz ≤ m then some (cellsFrom dep d t off (n * esz)) else none
    | _ => none
  | .str s => if esz = 1 ∧ n ≤ s.length then some ((s.take n).map fun b => .int .u8 (b : Nat)) else none
  | _ => none

def lenA : AV → Option Nat
  | .nils => some 0
  | .slice _ _ len _ _ _ => some len
  | .str s => some s.length
  | _ => none

/-- Old cells, and new ones behind: where the old ones are all of an object's, its tree is gone on with. -/
def grown (n dep : Nat) (d : AV) (t : Tr AV) (off cnt : Nat) (new : List AV) : Vec :=
  if off = 0 ∧ cnt = n ∧ n ≤ 2 ^ dep then
    let m := n + new.length
    bif Nat.ble m (2 ^ dep) then { n := m, dep, d, t := setFrom dep t n new }
    else { n := m, dep := depFor m, d := .junk, t := setFrom (depFor m) .e 0 (cellsFrom dep d t 0 n ++ new) }
  else vecOf (cellsFrom dep d t off cnt ++ new)

def appendA (t : TypeId) (s x : AV) (h : H) : Option (AV × H) :=
  match P.underlying t with
  | some (.slice e) =>
    match size? P e, P.info? e, (zero? P e).bind (AV.vec ·) with
    | some (sz + 1), some i, some zv =>
      if zv.n ≠ sz + 1 then none else
      match lenA x with
      | some k =>
        match srcCells h (sz + 1) k x with
        | some new =>
          match s with
          | .nils =>
            if k = 0 then some (.nils, h)
            else if (4 * k + 5000) * i.bytes ≤ 1000000000000 ∧ 0 < i.bytes then (allocA h (vecOf new)).map fun (id, h) => (.slice id 0 k k false (sz + 1), h) else none
          | .slice id off len cap ex esz =>
            if esz = sz + 1 then
              if k = 0 then some (s, h)
              else if len + k ≤ cap then
                (storeA h id (off + len * esz) (vecOf new)).map fun h => (.slice id off (len + k) cap ex esz, h)
              else if (4 * (len + k) + 5000) * i.bytes ≤ 1000000000000 ∧ 0 < i.bytes then
                match h.get id with
                | some (.cells n dep d tr) =>
                  if off + len * esz ≤ n then
                    let h' := if ex then h else h.set id .dead
                    (allocA h' (grown n dep d tr off (len * esz) new)).map fun (id', h) => (.slice id' 0 (len + k) (len + k) false esz, h)
                  else none
                | _ => none
              else none
            else none
          | _ => none
        | none => none
      | none => none
    | _, _, _ => none
  | _ => none

def copyA (t : TypeId) (dst src : AV) (h : H) : Option (AV × H) :=
  match P.underlying t, lenA src with
  | some (.slice e), some sl =>
    match size? P e, dst with
    | some (sz + 1), .slice id off dl _ _ esz =>
      let n := Nat.min sl dl
      match srcCells h (sz + 1) n src with
      | some cells => if n = 0 then some (.int .i64 0, h) else if esz = sz + 1 then (storeA h id off (vecOf cells)).map fun h => (.int .i64 n, h) else none
      | none => none
    | some (sz + 1), .nils => (srcCells h (sz + 1) 0 src).map fun _ => (.int .i64 0, h)
    | _, _ => none
  | _, _ => none

def deleteA (t : TypeId) (x k : AV) (h : H) : Option H :=
  match P.underlying t, x with
  | some (.map kt _), .map id =>
    match h.get id with
    | some (.map es clock) =>
      if ckT P 8 kt k then
        match findA P kt k es 0 with
        | some (some (i, _, _, _)) => some (h.set id (.map (es.eraseIdx i) clock))
        | some none => some h
        | none => none
      else none
    | _ => none
  | some (.map kt _), .nilm => if ckT P 8 kt k then some h else none
  | _, _ => none

def clearA (t : TypeId) (x : AV) (h : H) : Option H :=
  match P.underlying t, x with
  | some (.slice _), .nils => some h
  | some (.slice e), .slice id off len _ _ esz =>
    if len = 0 then some h else
    match size? P e, zero? P e with
    | some sz, some z => match z.vec with
      | some zv => if sz = esz ∧ zv.n = sz then storeA h id off (zeroVec len zv) else none
      | none => none
    | _, _ => none
  | some (.map _ _), .nilm => some h
  | some (.map _ _), .map id => match h.get id with
    | some (.map _ clock) => some (h.set id (.map [] clock))
    | _ => none
  | _, _ => none

def lenOfA (t : TypeId) (x : AV) (h : H) : Option AV :=
  match P.underlying t, x with
  | some .string, .str s => some (.int .i64 s.length)
  | some (.array n _), _ => some (.int .i64 n)
  | some (.slice _), .nils => some (.int .i64 0)
  | some (.slice _), .slice _ _ len _ _ _ => some (.int .i64 len)
  | some (.map _ _), .nilm => some (.int .i64 0)
  | some (.map _ _), .map id => match h.get id with
    | some (.map es _) => some (.int .i64 es.length)
    | _ => none
  | _, _ => none

def mm (mx : Bool) : AV → List AV → Option AV
  | x, [] => some x
  | .int k x, .int _ y :: r => mm mx (.int k (if mx then (if y > x then y else x) else (if y < x then y else x))) r
  | x, y :: r => match asSym x, asSym y with
    | some (k, l₁, h₁, e₁), some (_, l₂, h₂, e₂) =>
      mm mx (mkS k (if mx then (if l₂ > l₁ then l₂ else l₁) else (if l₂ < l₁ then l₂ else l₁)) (if mx then (if h₂ > h₁ then h₂ else h₁) else (if h₂ < h₁ then h₂ else h₁)) (if mx then .max e₁ e₂ else .min e₁ e₂)) r
    | _, _ => none

def strBytes (s : List Nat) : List AV := s.map fun b => .int .u8 (b : Nat)

def bytesOf : List AV → Option (List Nat)
  | [] => some []
  | .int .u8 n :: r => if 0 ≤ n ∧ n < 256 then (bytesOf r).map (n.toNat :: ·) else none
  | _ => none

def convertA (src dst : TypeId) (x : AV) (h : H) : Option (AV × H) :=
  match P.underlying src, P.underlying dst, x with
  | some _, some (.int k), .int _ n => some (wrapI k n, h)
  | some _, some (.int k), .sym _ l h' e => (bif fits k l h' then some (mkS k l h' e) else bif decide (0 ≤ l) && !k.signed then some (symRem k l h' e (2 ^ k.bits)) else none).map fun v => (v, h)
  | some _, some .string, .str s => some (.str s, h)
  | some _, some (.slice e), .str s =>
    match P.underlying e with
    | some (.int .u8) => (allocA h (vecOf (strBytes s))).map fun (id, h) => (.slice id 0 s.length s.length false 1, h)
    | _ => none
  | some (.slice _), some (.slice e), .slice id off len cap ex esz =>
    if src = dst then
      match P.underlying e, h.get id with
      | some (.int .u8), some (.cells ..) => some (.slice id off len cap ex esz, h)
      | _, _ => none
    else none
  | some (.slice e), some .string, .nils => match P.underlying e with
    | some (.int .u8) => some (.str [], h)
    | _ => none
  | some (.slice e), some .string, .slice id off len _ _ esz =>
    match P.underlying e, h.get id with
    | some (.int .u8), some (.cells n dep d t) =>
      if esz = 1 ∧ off + len ≤ n then (bytesOf (cellsFrom dep d t off len)).map fun s => (.str s, h) else none
    | _, _ => none
  | _, _, _ => none

def resolveA (ev : Operand → AV) (c : Call) : Option ADef :=
  match c.callee with
  | .value f => match ev f with
    | .fn fn first cap => some { fn, cap, args := first ++ (c.args.toList.map ev) }
    | _ => none
  | _ => none

def callA (d : ADef) (h : H) : Option AR :=
  match d.fn with
  | .func f => match P.funcs[f]? with
    | some fn => if fn.name == "runtime.NumGoroutine" then none else
      match fn.body with
      | some _ => some (.enter f (d.args ++ d.cap) h)
      | none => none
    | none => none
  | .yield l => some (.round l d.args h)
  | _ => none

def val2 (r : Option (AV × H)) : Option AR := r.map fun (v, h) => .val v h
def valH (v : Option AV) (h : H) : Option AR := v.map fun v => .val v h
def skipH (h : Option H) : Option AR := h.map fun h => .val (.tup []) h

def builtinA (ev : Operand → AV) (b : Builtin) (c : Call) (h : H) : Option AR :=
  let ts := c.argTypes
  match b, c.args.toList.map ev with
  | .append, [s, x] => match ts[0]?, ts[1]? with
    | some t, some u => (match P.underlying u with | some (.int _) => none | some _ => val2 (appendA P t s x h) | none => none)
    | some t, none => val2 (appendA P t s x h)
    | _, _ => none
  | .len, [x] => match ts[0]? with | some t => valH (lenOfA P t x h) h | none => none
  | .cap, [x] => match ts[0]?, x with
    | some t, .slice _ _ _ cap true _ => (match P.underlying t with | some (.slice _) => some (.val (.int .i64 cap) h) | _ => none)
    | some t, .nils => (match P.underlying t with | some (.slice _) => some (.val (.int .i64 0) h) | _ => none)
    | _, _ => none
  | .copy, [d, s] => match ts[0]? with | some t => val2 (copyA P t d s h) | none => none
  | .delete, [m, k] => match ts[0]? with | some t => skipH (deleteA P t m k h) | none => none
  | .clear, [x] => match ts[0]? with | some t => skipH (clearA P t x h) | none => none
  | .max, x :: r => valH (mm true x r) h
  | .min, x :: r => valH (mm false x r) h
  | .recover, [] => some (.recover h)
  | .panic, [x] => match x with | .iface _ _ => some (.panic x h) | _ => none
  | _, _ => none

def pairsA (ρ : Operand → AV) (parts : Array (Nat × Operand)) : List (Nat × AV) := parts.toList.map fun p => (p.1, ρ p.2)

/-- An operation. -/
def opR (ρ : Operand → AV) (o : Oper) (h : H) : Option AR :=
  match o.op with
  | .move x | .assign x => some (.val (ρ x) h)
  | .pick c a b => match ρ c with
    | .bool c => some (.val (if c then ρ a else ρ b) h)
    | _ => none
  | .alloc e => match zero? P e with
    | some z => match z.vec with
      | some v => (allocA h v).map fun (id, h) => .val (.ptr id 0) h
      | none => none
    | none => none
  | .box _ x => match (ρ x).vec with
    | some v => (allocA h v).map fun (id, h) => .val (.ptr id 0) h
    | none => none
  | .build t parts => valH (buildA P t (pairsA ρ parts)) h
  | .buildSlice t len parts => val2 (buildSliceA P t len (pairsA ρ parts) h)
  | .load t a => match ρ a with
    | .ptr id off => valH (loadA P h t id off) h
    | _ => none
  | .store t a x => match ρ a with
    | .ptr id off => match (ρ x).vec with
      | some v => if size? P t = some v.n then skipH (storeA h id off v) else none
      | none => none
    | _ => none
  | .nilCheck x => match ρ x with
    | .nilp | .nili | .nilf => some (nilDeref P h)
    | .junk => none
    | .fn (.method _) _ _ => none
    | v => some (.val v h)
  | .binOp op t x y _ => valH (binA P op t (isConst x || isConst y) (ρ x) (ρ y)) h
  | .unOp op _ x => valH (unA op (ρ x)) h
  | .convert s d x => val2 (convertA P s d (ρ x) h)
  | .sliceToArrayPointer t x => match P.underlying t, ρ x with
    | some (.array (n + 1) _), .slice id off len _ _ _ => if n + 1 ≤ len then some (.val (.ptr id off) h) else none
    | _, _ => none
  | .makeInterface t x => match P.underlying t, ρ x with
    | some (.interface _), _ => none
    | some _, .junk => none
    | some _, v => some (.val (.iface t v) h)
    | none, _ => none
  | .makeFunc fn first cap => match fn with
    | .func f => some (.val (.fn (.func f) (first.toList.map ρ) (cap.toList.map ρ)) h)
    | _ => none
  | .makeMap t r => match r with
    | none => (h.new (.map [] 0)).map fun (id, h) => .val (.map id) h
    | some x => match ρ x, P.underlying t with
      | .int _ _, some (.map _ _) => (h.new (.map [] 0)).map fun (id, h) => .val (.map id) h
      | _, _ => none
  | .makeSlice t l c => val2 (makeSliceA P t (ρ l) (ρ c) h)
  | .slice t x lo hi mx => valH (sliceA P t (ρ x) (lo.map ρ) (hi.map ρ) (mx.map ρ) h) h
  | .fieldAddr s x f => match ρ x, field? P s f with
    | .ptr id off, some (fo, _, _) => some (.val (.ptr id (off + fo)) h)
    | _, _ => none
  | .field s x f => match ρ x, field? P s f with
    | .agg n dep d t, some (fo, ft, _) => valH (partA P ft n dep d t fo) h
    | _, _ => none
  | .indexAddr t x i => indexAddrA P t (ρ x) (ρ i) h
  | .index t x i => valH (indexA P t (ρ x) (ρ i)) h
  | .lookup t x k ok => valH (lookupA P t (ρ x) (ρ k) ok h) h
  | .mapUpdate t m k x | .insert t m k x => skipH (mapUpdateA P t (ρ m) (ρ k) (ρ x) h)
  | .mapEntry t m k => val2 (mapEntryA P t (ρ m) (ρ k) h)
  | .entryStore _ m s x => skipH (entryStoreA (ρ m) (ρ s) (ρ x) h)
  | .range t x => val2 (rangeA P t (ρ x) h)
  | .next it isString => val2 (nextA (ρ it) isString h)
  | .entry it => valH (entryA (ρ it) h) h
  | .typeAssert x _ t ok => valH (typeAssertA P (ρ x) t ok) h
  | .extract x i => match ρ x with
    | .tup l => (l[i]?).map fun v => .val v h
    | _ => none
  | .call c => match c.callee with
    | .builtin b => builtinA P ρ b c h
    | .value _ => (resolveA ρ c).bind fun d => callA P d h
    | .invoke _ _ => none
  | .defer c => match c.callee with
    | .value _ => (resolveA ρ c).map fun d => .defer d h
    | _ => none
  | .panic x => match ρ x with
    | .iface t v => some (.panic (.iface t v) h)
    | _ => none
  | _ => none

/-! The same, said so that one branch costs little: each branch by its own name. -/

def qPick (ρ : Operand → AV) (c a b : Operand) (h : H) : Option AR := match ρ c with
  | .bool c => some (.val (if c then ρ a else ρ b) h)
  | _ => none
def qAlloc (e : TypeId) (h : H) : Option AR := match zero? P e with
  | some z => match z.vec with
    | some v => (allocA h v).map fun (id, h) => .val (.ptr id 0) h
    | none => none
  | none => none
def qBox (x : AV) (h : H) : Option AR := match x.vec with
  | some v => (allocA h v).map fun (id, h) => .val (.ptr id 0) h
  | none => none
def qLoad (t : TypeId) (a : AV) (h : H) : Option AR := match a with
  | .ptr id off => valH (loadA P h t id off) h
  | _ => none
def qStore (t : TypeId) (a x : AV) (h : H) : Option AR := match a with
  | .ptr id off => match x.vec with
    | some v => if size? P t = some v.n then skipH (storeA h id off v) else none
    | none => none
  | _ => none
def qNil (x : AV) (h : H) : Option AR := match x with
  | .nilp | .nili | .nilf => some (nilDeref P h)
  | .junk => none
  | .fn (.method _) _ _ => none
  | v => some (.val v h)
def qS2ap (t : TypeId) (x : AV) (h : H) : Option AR := match P.underlying t, x with
  | some (.array (n + 1) _), .slice id off len _ _ _ => if n + 1 ≤ len then some (.val (.ptr id off) h) else none
  | _, _ => none
def qIface (t : TypeId) (x : AV) (h : H) : Option AR := match P.underlying t, x with
  | some (.interface _), _ => none
  | some _, .junk => none
  | some _, v => some (.val (.iface t v) h)
  | none, _ => none
def qFunc (ρ : Operand → AV) (fn : Fn) (first cap : Array Operand) (h : H) : Option AR := match fn with
  | .func f => some (.val (.fn (.func f) (first.toList.map ρ) (cap.toList.map ρ)) h)
  | _ => none
def qMap (ρ : Operand → AV) (t : TypeId) (r : Option Operand) (h : H) : Option AR := match r with
  | none => (h.new (.map [] 0)).map fun (id, h) => .val (.map id) h
  | some x => match ρ x, P.underlying t with
    | .int _ _, some (.map _ _) => (h.new (.map [] 0)).map fun (id, h) => .val (.map id) h
    | _, _ => none
def qFieldAddr (s : TypeId) (x : AV) (f : Nat) (h : H) : Option AR := match x, field? P s f with
  | .ptr id off, some (fo, _, _) => some (.val (.ptr id (off + fo)) h)
  | _, _ => none
def qField (s : TypeId) (x : AV) (f : Nat) (h : H) : Option AR := match x, field? P s f with
  | .agg n dep d t, some (fo, ft, _) => valH (partA P ft n dep d t fo) h
  | _, _ => none
def qExtract (x : AV) (i : Nat) (h : H) : Option AR := match x with
  | .tup l => (l[i]?).map fun v => .val v h
  | _ => none
def qCall (ρ : Operand → AV) (c : Call) (h : H) : Option AR := match c.callee with
  | .builtin b => builtinA P ρ b c h
  | .value _ => (resolveA ρ c).bind fun d => callA P d h
  | .invoke _ _ => none
def qDefer (ρ : Operand → AV) (c : Call) (h : H) : Option AR := match c.callee with
  | .value _ => (resolveA ρ c).map fun d => .defer d h
  | _ => none
def qPanic (x : AV) (h : H) : Option AR := match x with
  | .iface t v => some (.panic (.iface t v) h)
  | _ => none

def opQ (ρ : Operand → AV) (o : Op) (h : H) : Option AR :=
  match o with
  | .move x | .assign x => some (.val (ρ x) h)
  | .pick c a b => qPick ρ c a b h
  | .alloc e => qAlloc P e h
  | .box _ x => qBox (ρ x) h
  | .build t parts => valH (buildA P t (pairsA ρ parts)) h
  | .buildSlice t len parts => val2 (buildSliceA P t len (pairsA ρ parts) h)
  | .load t a => qLoad P t (ρ a) h
  | .store t a x => qStore P t (ρ a) (ρ x) h
  | .nilCheck x => qNil P (ρ x) h
  | .binOp op t x y _ => valH (binQ P op t (isConst x || isConst y) (ρ x) (ρ y)) h
  | .unOp op _ x => valH (unA op (ρ x)) h
  | .convert s d x => val2 (convertA P s d (ρ x) h)
  | .sliceToArrayPointer t x => qS2ap P t (ρ x) h
  | .makeInterface t x => qIface P t (ρ x) h
  | .makeFunc fn first cap => qFunc ρ fn first cap h
  | .makeMap t r => qMap P ρ t r h
  | .makeSlice t l c => val2 (makeSliceA P t (ρ l) (ρ c) h)
  | .slice t x lo hi mx => valH (sliceA P t (ρ x) (lo.map ρ) (hi.map ρ) (mx.map ρ) h) h
  | .fieldAddr s x f => qFieldAddr P s (ρ x) f h
  | .field s x f => qField P s (ρ x) f h
  | .indexAddr t x i => indexAddrA P t (ρ x) (ρ i) h
  | .index t x i => valH (indexA P t (ρ x) (ρ i)) h
  | .lookup t x k ok => valH (lookupA P t (ρ x) (ρ k) ok h) h
  | .mapUpdate t m k x | .insert t m k x => skipH (mapUpdateA P t (ρ m) (ρ k) (ρ x) h)
  | .mapEntry t m k => val2 (mapEntryA P t (ρ m) (ρ k) h)
  | .entryStore _ m s x => skipH (entryStoreA (ρ m) (ρ s) (ρ x) h)
  | .range t x => val2 (rangeA P t (ρ x) h)
  | .next it isString => val2 (nextA (ρ it) isString h)
  | .entry it => valH (entryA (ρ it) h) h
  | .typeAssert x _ t ok => valH (typeAssertA P (ρ x) t ok) h
  | .extract x i => qExtract (ρ x) i h
  | .call c => qCall P ρ c h
  | .defer c => qDefer ρ c h
  | .panic x => qPanic (ρ x) h
  | _ => none

theorem opQ_eq (ρ : Operand → AV) (o : Oper) (h : H) : opQ P ρ o.op h = opR P ρ o h := by
  obtain ⟨dst, op, type, pos, after, guard⟩ := o
  cases op
  case binOp op t x y ty => show valH (binQ P op t _ _ _) h = valH (binA P op t _ _ _) h; rw [binQ_eq]
  all_goals rfl

def opA (fi : FI) (regs : Tr AV) (o : Oper) (h : H) : Option AR := opQ P (ev fi regs) o.op h
theorem opA_eq (fi : FI) (regs : Tr AV) (o : Oper) (h : H) : opA P fi regs o h = opR P (ev fi regs) o h := opQ_eq P _ o h
end
end Go.Ab
