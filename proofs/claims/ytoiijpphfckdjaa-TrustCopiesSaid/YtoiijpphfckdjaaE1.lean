/-
  A deterministic evaluator over the loaded program: definitions.
-/
import Derived.Orders
import Derived.Laws.Tables
import Derived.Laws.StructEq
import Derived.Laws.AppendOwn
import Derived.Laws.CopyRow
import Derived.Laws.Cells
import Derived.Laws.MakeOwn
import Derived.Laws.Append
import Derived.Laws.Slices
import Derived.Laws.Rows
import Derived.Below
import Derived.KernelRfl
import Derived.ChangeKeysEq
namespace Go.Proofs.Ytoiijpphfckdjaa.Ev
open Go

/-- A block of the evaluator's heap. -/
structure Blk where
  cells : List Value

/-- A map of numbers, as a binary tree. -/
inductive Tr where
  | e
  | n (v : Option Blk) (l r : Tr)

def Tr.get : Tr → Nat → Option Blk
  | .e, _ => none
  | .n v l r, k => if k = 0 then v else if k % 2 = 1 then l.get (k / 2) else r.get (k / 2 - 1)

def Tr.val : Tr → Option Blk
  | .e => none
  | .n v _ _ => v
def Tr.left : Tr → Tr
  | .e => .e
  | .n _ l _ => l
def Tr.right : Tr → Tr
  | .e => .e
  | .n _ _ r => r

def Tr.put (b : Option Blk) : (fuel : Nat) → Tr → Nat → Tr
  | 0, t, _ => t
  | f + 1, t, k => if k = 0 then .n b t.left t.right else if k % 2 = 1 then .n t.val (Tr.put b f t.left (k / 2)) t.right else .n t.val t.left (Tr.put b f t.right (k / 2 - 1))

structure Heap where
  size : Nat
  root : Tr
  lock : Nat
  hid : List (Nat × Nat)

def hidden : List (Nat × Nat) → Nat → Bool
  | [], _ => false
  | (a, b) :: r, k => (a ≤ k && k < b) || hidden r k

def Heap.get (H : Heap) (k : Nat) : Option Blk := if k < H.size then (if hidden H.hid k then none else H.root.get k) else none
def Heap.put (H : Heap) (k : Nat) (b : Option Blk) : Heap := { H with root := H.root.put b (k + 1) k }
def Heap.push (H : Heap) (b : Blk) : Heap := { H with size := H.size + 1, root := H.root.put (some b) (H.size + 1) H.size }
def Heap.mine (H : Heap) (k : Nat) (_ : Blk) : Bool := decide (H.lock ≤ k)

structure St where
  fr : List Value
  hp : Heap

inductive Ex where
  | normal
  | exit (id : Nat)
  | ret

def isCell : Value → Bool
  | .agg _ => false
  | .tuple _ => false
  | _ => true

def noCaps (a b : Array Value) : Bool := a.size == 0 && b.size == 0

def constOk : Value → Bool
  | .bool _ => true
  | .int .. => true
  | .string _ => true
  | .pointer none => true
  | .slice none 0 0 => true
  | .nilFunc => true
  | .nilIface => true
  | _ => false

def opnd (fr : List Value) : Operand → Option Value
  | .tmp t => some (fr.getD t undef)
  | .const v => if constOk v then some v else none
  | .global _ => none
  | .func f => some (.func (.func f) #[] #[])

/-- The cells of a value that may be laid into memory. -/
def valCells : Value → Option (List Value)
  | .agg cs => some cs.toList
  | .tuple _ => none
  | v => some [v]

/-- The cells of a zero value. -/
def zCells (z : Value) : Option (List Value) :=
  match valCells z with
  | some cs => if cs.all constOk then some cs else none
  | none => none

def getCells (H : Heap) (b off n : Nat) : Option (List Value) :=
  match H.get b with
  | some k => if off + n ≤ k.cells.length then some ((k.cells.drop off).take n) else none
  | none => none

def setCells (H : Heap) (b off : Nat) (vs : List Value) : Option Heap :=
  match H.get b with
  | some k => if H.mine b k && 0 < vs.length && off + vs.length ≤ k.cells.length then
      some (H.put b (some ⟨k.cells.take off ++ vs ++ k.cells.drop (off + vs.length)⟩)) else none
  | none => none

def aggD : TypeDesc → Bool
  | .struct _ => true
  | .array _ _ => true
  | _ => false

section
variable (P : Program)

def loadE (H : Heap) (t : TypeId) : Value → Option Value
  | .pointer (some ⟨b, off, none⟩) =>
    match P.underlying t, P.info? t with
    | some d, some i =>
      match aggD d with
      | true => (getCells H b off i.size).map fun cs => .agg cs.toArray
      | false =>
        match getCells H b off 1 with
        | some (v :: _) => some v
        | _ => none
    | _, _ => none
  | _ => none

def storeE (H : Heap) (t : TypeId) (p v : Value) : Option Heap :=
  match p with
  | .pointer (some ⟨b, off, none⟩) =>
    match valCells v, P.info? t with
    | some cs, some i => if cs.length = i.size then setCells H b off cs else none
    | _, _ => none
  | _ => none

def pushV (H : Heap) (cs : List Value) : Heap := H.push ⟨cs⟩
def ptr (b off : Nat) : Value := .pointer (some ⟨b, off, none⟩)

def partE (t : TypeId) (cs : Array Value) (off : Nat) : Option Value :=
  match P.underlying t, P.info? t with
  | some d, some i =>
    match aggD d with
    | true => if off + i.size ≤ cs.size then some (.agg (cs.extract off (off + i.size))) else none
    | false => cs[off]?
  | _, _ => none

/-- Equality of values of plain types: whole numbers, bools; structs and arrays of these. -/
def eqE : Nat → TypeId → Value → Value → Option Bool
  | 0, _, _, _ => none
  | d + 1, t, x, y =>
    match P.underlying t, x, y with
    | some .bool, .bool a, .bool b => some (a == b)
    | some (.int _), .int k a, .int k' b => if k = k' then some (a == b) else none
    | some (.struct fs), .agg xs, .agg ys =>
      if P.stoodInHeld t then none else
      fs.toList.foldr (fun f (r : Option Bool) =>
        if f.name ≠ "_" then
          match partE P f.type xs f.offset, partE P f.type ys f.offset with
          | some a, some b =>
            match eqE d f.type a b with
            | some true => r
            | some false => some false
            | none => none
          | _, _ => none
        else r) (some true)
    | some (.array len elem), .agg xs, .agg ys =>
      match P.info? elem with
      | some i =>
        (List.range len).foldr (fun j (r : Option Bool) =>
          match partE P elem xs (j * i.size), partE P elem ys (j * i.size) with
          | some a, some b =>
            match eqE d elem a b with
            | some true => r
            | some false => some false
            | none => none
          | _, _ => none) (some true)
      | none => none
    | _, _, _ => none

def arithE (op : BinOp) (k : IntKind) (a b : Int) : Option Value :=
  match op with
  | .add => some (.int k (k.wrap (a + b)))
  | .sub => some (.int k (k.wrap (a - b)))
  | .mul => some (.int k (k.wrap (a * b)))
  | .quo => if b = 0 then none else some (.int k (k.wrap (a.tdiv b)))
  | .rem => if b = 0 then none else some (.int k (a.tmod b))
  | .and => some (.int k (k.wrap (BitVec.ofInt k.bits a &&& BitVec.ofInt k.bits b).toNat))
  | .or => some (.int k (k.wrap (BitVec.ofInt k.bits a ||| BitVec.ofInt k.bits b).toNat))
  | .xor => some (.int k (k.wrap (BitVec.ofInt k.bits a ^^^ BitVec.ofInt k.bits b).toNat))
  | .andNot => some (.int k (k.wrap (BitVec.ofInt k.bits a &&& ~~~(BitVec.ofInt k.bits b)).toNat))
  | .eql => some (.bool (a == b))
  | .neq => some (.bool (a != b))
  | .lss => some (.bool (decide (a < b)))
  | .leq => some (.bool (decide (a ≤ b)))
  | .gtr => some (.bool (decide (a > b)))
  | .geq => some (.bool (decide (a ≥ b)))
  | .shl => none
  | .shr => none

def shiftE (op : BinOp) (k : IntKind) (a b : Int) : Option Value :=
  if b < 0 then none else
  match op with
  | .shl => some (.int k (k.wrap (a * 2 ^ (min b.toNat k.bits))))
  | .shr => some (.int k (a.fdiv (2 ^ (min b.toNat k.bits))))
  | _ => none

/-- Is this reference nil? For the comparisons with nil. -/
def isNil : Value → Option Bool
  | .pointer none => some true
  | .pointer (some _) => some false
  | .slice none _ _ => some true
  | .slice (some _) _ _ => some false
  | _ => none

def refD : TypeDesc → Value → Value → Bool
  | .pointer _, .pointer none, .pointer _ => true
  | .pointer _, .pointer _, .pointer none => true
  | .slice _, .slice none _ _, .slice _ _ _ => true
  | .slice _, .slice _ _ _, .slice none _ _ => true
  | _, _, _ => false

def equalE (t : TypeId) (x y : Value) : Option Bool :=
  match x, y with
  | .agg _, .agg _ => if P.eqGuardType P.depth t then none else eqE P 10000 t x y
  | .bool a, .bool b => match P.underlying t with | some .bool => some (a == b) | _ => none
  | _, _ =>
    match P.underlying t, isNil x, isNil y with
    | some d, some a, some b => if refD d x y then some (a && b) else none
    | _, _, _ => none

def binE (op : BinOp) (t : TypeId) (x y : Value) : Option Value :=
  match x, y with
  | .int k a, .int k' b =>
    match op with
    | .shl => shiftE .shl k a b
    | .shr => shiftE .shr k a b
    | _ => if k = k' then arithE op k a b else none
  | x, y =>
    match op with
    | .eql => (equalE P t x y).map .bool
    | .neq => (equalE P t x y).map fun b => .bool (!b)
    | _ => none

def unE (op : UnOp) (x : Value) : Option Value :=
  match op, x with
  | .neg, .int k n => some (.int k (k.wrap (0 - n)))
  | .xor, .int k n => arithE .xor k (if k.signed then -1 else k.max) n
  | .not, .bool b => some (.bool (!b))
  | _, _ => none

def convE (src dst : TypeId) (x : Value) : Option Value :=
  match P.underlying src, P.underlying dst, x with
  | some _, some (.int k), .int _ n => some (.int k (k.wrap n))
  | _, _, _ => none

def boundE (x : Option Value) (d hi : Nat) : Option Nat :=
  match x with
  | none => some d
  | some (.int _ i) => if 0 ≤ i ∧ i ≤ (hi : Int) then some i.toNat else none
  | some _ => none

/-- x[lo:hi]. A slice whose capacity isn't known bears its elements' size at its address ('spot'). -/
def sliceE (t : TypeId) (x : Value) (lo hi : Option Value) : Option Value :=
  match P.underlying t with
  | some (.slice elem) =>
    match x, P.info? elem with
    | .slice a len cap, some i =>
      match boundE hi len cap with
      | some h =>
        match boundE lo 0 h with
        | some l =>
          match a with
          | none => some (.slice none (h - l) (cap - l))
          | some ⟨b, off, none⟩ => some (.slice (some ⟨b, if cap = l then off else off + l * i.size, none⟩) (h - l) (cap - l))
          | some ⟨b, off, some e⟩ => if e = i.size then some (.slice (some ⟨b, if cap = l then off else off + l * i.size, some e⟩) (h - l) (cap - l)) else none
        | none => none
      | none => none
    | _, _ => none
  | some (.array n elem) =>
    match x, P.info? elem with
    | .pointer (some ⟨b, off, none⟩), some i =>
      match boundE hi n n with
      | some h =>
        match boundE lo 0 h with
        | some l => some (.slice (some ⟨b, if n = l then off else off + l * i.size, none⟩) (h - l) (n - l))
        | none => none
      | none => none
    | _, _ => none
  | _ => none

def fieldAddrE (s : TypeId) (x : Value) (f : Nat) : Option Value :=
  match P.underlying s with
  | some (.struct fs) =>
    match fs[f]?, x with
    | some fd, .pointer (some a) =>
      match P.info? fd.type with
      | some i => if i.size = 0 then none else some (.pointer (some (a.add fd.offset)))
      | none => none
    | _, _ => none
  | _ => none

def fieldE (s : TypeId) (x : Value) (f : Nat) : Option Value :=
  match P.underlying s with
  | some (.struct fs) =>
    match fs[f]?, x with
    | some fd, .agg cs => partE P fd.type cs fd.offset
    | _, _ => none
  | _ => none

def indexAddrE (t : TypeId) (x ix : Value) : Option Value :=
  match ix with
  | .int _ i =>
    match P.underlying t, x with
    | some (.array len elem), .pointer (some a) =>
      match P.info? elem with
      | some ie => if 0 ≤ i ∧ i < (len : Int) then some (.pointer (some (a.add (i.toNat * ie.size)))) else none
      | none => none
    | some (.slice elem), .slice (some ⟨b, off, _⟩) len _ =>
      match P.info? elem with
      | some ie => if 0 ≤ i ∧ i < (len : Int) then some (.pointer (some ⟨b, off + i.toNat * ie.size, none⟩)) else none
      | none => none
    | _, _ => none
  | _ => none

def indexE (t : TypeId) (x ix : Value) : Option Value :=
  match ix with
  | .int _ i =>
    match P.underlying t, x with
    | some (.array len elem), .agg cs =>
      match P.info? elem with
      | some ie => if 0 ≤ i ∧ i < (len : Int) then partE P elem cs (i.toNat * ie.size) else none
      | none => none
    | some .string, .string s => if 0 ≤ i then (match s.data[i.toNat]? with | some b => some (.int .u8 b.toNat) | none => none) else none
    | _, _ => none
  | _ => none

def extractE (x : Value) (i : Nat) : Option Value :=
  match x with
  | .tuple vs => vs[i]?
  | _ => none

def makeE (H : Heap) (t : TypeId) (len cap : Value) : Option (Value × Heap) :=
  match P.underlying t, len, cap with
  | some (.slice elem), .int _ l, .int _ c =>
    match P.info? elem with
    | some i =>
      match i.zero with
      | some z =>
        if 0 ≤ l ∧ l ≤ c ∧ (i.bytes : Int) * c ≤ 140737488355328 ∧ c ≤ 9223372036854775807 then
          match zCells z with
          | some zc => if zc.length = i.size then some (.slice (some ⟨H.size, 0, none⟩) l.toNat c.toNat, pushV H (List.replicate c.toNat zc).flatten) else none
          | none => none
        else none
      | none => none
    | none => none
  | _, _, _ => none

/-- The first n elements of a slice. -/
def sliceCells (H : Heap) (size n : Nat) : Value → Option (List Value)
  | .slice none _ _ => if n = 0 then some [] else none
  | .slice (some ⟨b, off, _⟩) _ _ => getCells H b off (n * size)
  | _ => none

def appendE (H : Heap) (t u : TypeId) (s x : Value) : Option (Value × Heap) :=
  if t = u then
  match P.underlying t, s, x with
  | some (.slice elem), .slice base sLen sCap, .slice _ n _ =>
    match P.info? elem with
    | some i =>
      match i.zero with
      | some z =>
        match zCells z, sliceCells H i.size n x with
        | some zc, some new =>
          if zc.length = i.size ∧ 0 < i.size ∧ sLen ≤ sCap ∧ sLen + n < 1099511627776 ∧ (sLen + n) * i.bytes < 35184372088832 then
            match n with
            | 0 => some (s, H)
            | _ + 1 =>
              match base with
              | none => some (.slice (some ⟨H.size, 0, some i.size⟩) n n, pushV H new)
              | some ⟨b, off, sp⟩ =>
                match decide (sLen + n ≤ sCap) with
                | true => (setCells H b (off + sLen * i.size) new).map fun H' => (.slice base (sLen + n) sCap, H')
                | false =>
                  match sliceCells H i.size sLen s with
                  | some old =>
                    match sp with
                    | some e =>
                      match H.get b with
                      | some k =>
                        if H.mine b k && e == i.size && off == 0 && k.cells.length == sLen * i.size && 0 < sLen then
                          some (.slice (some ⟨H.size, 0, some i.size⟩) (sLen + n) (sLen + n), pushV (H.put b none) (old ++ new))
                        else none
                      | none => none
                    | none => some (.slice (some ⟨H.size, 0, some i.size⟩) (sLen + n) (sLen + n), pushV H (old ++ new))
                  | none => none
          else none
        | _, _ => none
      | none => none
    | none => none
  | _, _, _ => none
  else none

def copyE (H : Heap) (t _u : TypeId) (d s : Value) : Option (Value × Heap) :=
  match P.underlying t, d, s with
  | some (.slice elem), .slice db dLen _, .slice _ sLen _ =>
    match P.info? elem with
    | some i =>
      match sliceCells H i.size (min sLen dLen) s with
      | some [] => some (.int .i64 (min sLen dLen : Nat), H)
      | some cs =>
        match db with
        | none => none
        | some ⟨b, off, _⟩ => (setCells H b off cs).map fun H' => (.int .i64 (min sLen dLen : Nat), H')
      | none => none
    | none => none
  | _, _, _ => none

def min2E : Option Value → Value → Option Value
  | some (.int k x), .int _ y => some (.int k (if y < x then y else x))
  | _, _ => none
def max2E : Option Value → Value → Option Value
  | some (.int k x), .int _ y => some (.int k (if x < y then y else x))
  | _, _ => none
def minE : List Value → Option Value
  | .int k x :: rest => rest.foldl min2E (some (.int k x))
  | _ => none
def maxE : List Value → Option Value
  | .int k x :: rest => rest.foldl max2E (some (.int k x))
  | _ => none

def builtinE (H : Heap) (b : Builtin) (ts : Array TypeId) (args : List Value) : Option (Value × Heap) :=
  match b with
  | .append =>
    match ts.toList, args with
    | [t, u], [s, x] => appendE P H t u s x
    | _, _ => none
  | .copy =>
    match ts.toList, args with
    | [t, u], [d, s] => copyE P H t u d s
    | _, _ => none
  | .len =>
    match ts.toList, args with
    | [t], [x] =>
      match P.underlying t, x with
      | some (.slice _), .slice _ n _ => some (.int .i64 n, H)
      | some (.array n _), _ => some (.int .i64 n, H)
      | some .string, .string s => some (.int .i64 s.size, H)
      | _, _ => none
    | _, _ => none
  | .cap =>
    match ts.toList, args with
    | [t], [.slice none 0 0] => match P.underlying t with | some (.slice _) => some (.int .i64 0, H) | _ => none
    | [t], [.slice (some ⟨_, _, none⟩) _ c] =>
      match P.underlying t with
      | some (.slice _) => some (.int .i64 c, H)
      | _ => none
    | _, _ => none
  | .min => (minE args).map (·, H)
  | .max => (maxE args).map (·, H)
  | _ => none

def buildE (t : TypeId) (parts : List (Nat × Value)) : Option Value :=
  match ((P.info? t).bind (·.zero)).bind zCells with
  | some _ => (P.built t parts).map .agg
  | none => none

def buildSliceE (H : Heap) (t : TypeId) (len : Nat) (parts : List (Nat × Value)) : Option (Value × Heap) :=
  match P.underlying t with
  | some (.slice elem) =>
    match P.info? elem with
    | some i =>
      match i.zero with
      | some z =>
        match zCells z with
        | some zc =>
          if len * i.size ≤ 16777216 ∧ zc.length = i.size then
            match Instr.fill (fun j => some (j * i.size, i.size)) (List.replicate len zc).flatten.toArray parts with
            | some cs => some (.slice (some ⟨H.size, 0, none⟩) len len, pushV H cs.toList)
            | none => none
          else none
        | none => none
      | none => none
    | none => none
  | _ => none

def noTuple : Value → Option Value
  | .tuple _ => none
  | v => some v

def partsE (ρ : Operand → Option Value) : List (Nat × Operand) → Option (List (Nat × Value))
  | [] => some []
  | (i, x) :: r =>
    match (ρ x).bind noTuple, partsE ρ r with
    | some v, some vs => some ((i, v) :: vs)
    | _, _ => none

def argsE (ρ : Operand → Option Value) : List Operand → Option (List Value)
  | [] => some []
  | x :: r =>
    match ρ x, argsE ρ r with
    | some v, some vs => some (v :: vs)
    | _, _ => none

def optE (ρ : Operand → Option Value) : Option Operand → Option (Option Value)
  | none => some none
  | some x => (ρ x).map some

variable (cl : FuncId → List Value → Heap → Option (Value × Heap))

def opE (ρ : Operand → Option Value) (o : Oper) (H : Heap) : Option (Value × Heap) :=
  match o.op with
  | .move x => (ρ x).map (·, H)
  | .assign x => (ρ x).map (·, H)
  | .pick c a b =>
    match ρ c with
    | some (.bool t) => (match t with | true => ρ a | false => ρ b).map (·, H)
    | _ => none
  | .alloc e =>
    match (P.info? e).bind (·.zero) with
    | some z => (zCells z).map fun cs => (ptr H.size 0, pushV H cs)
    | none => none
  | .box _ x => ((ρ x).bind valCells).map fun cs => (ptr H.size 0, pushV H cs)
  | .build t ps => ((partsE ρ ps.toList).bind (buildE P t)).map (·, H)
  | .buildSlice t n ps => (partsE ρ ps.toList).bind (buildSliceE P H t n)
  | .load t a => ((ρ a).bind (loadE P H t)).map (·, H)
  | .store t a x =>
    match ρ a, ρ x with
    | some p, some v => (storeE P H t p v).map (undef, ·)
    | _, _ => none
  | .nilCheck x =>
    match ρ x with
    | some (.pointer (some a)) => some (.pointer (some a), H)
    | some (.slice a n c) => some (.slice a n c, H)
    | some (.func (.func f) x y) => some (.func (.func f) x y, H)
    | _ => none
  | .binOp op t x y _ =>
    match ρ x, ρ y with
    | some a, some b => (binE P op t a b).map (·, H)
    | _, _ => none
  | .unOp op _ x => ((ρ x).bind (unE op)).map (·, H)
  | .convert s d x => ((ρ x).bind (convE P s d)).map (·, H)
  | .makeFunc fn a b =>
    match fn, argsE ρ a.toList, argsE ρ b.toList with
    | .func f, some x, some y => some (.func (.func f) x.toArray y.toArray, H)
    | _, _, _ => none
  | .makeSlice t l c =>
    match ρ l, ρ c with
    | some a, some b => makeE P H t a b
    | _, _ => none
  | .slice t x lo hi none =>
    match ρ x, optE ρ lo, optE ρ hi with
    | some v, some l, some h => (sliceE P t v l h).map (·, H)
    | _, _, _ => none
  | .fieldAddr s x f => ((ρ x).bind (fieldAddrE P s · f)).map (·, H)
  | .field s x f => ((ρ x).bind (fieldE P s · f)).map (·, H)
  | .indexAddr t x i =>
    match ρ x, ρ i with
    | some v, some j => (indexAddrE P t v j).map (·, H)
    | _, _ => none
  | .index t x i =>
    match ρ x, ρ i with
    | some v, some j => (indexE P t v j).map (·, H)
    | _, _ => none
  | .extract x i => ((ρ x).bind (extractE · i)).map (·, H)
  | .call c =>
    match argsE ρ c.args.toList with
    | some args =>
      match c.callee with
      | .builtin b => builtinE P H b c.argTypes args
      | .value f =>
        match ρ f with
        | some (.func (.func g) x y) => cl g (x.toList ++ args ++ y.toList) H
        | _ => none
      | .invoke .. => none
    | none => none
  | _ => none

def wantedE (ops : Array Oper) (fr : List Value) (o : Oper) : Bool :=
  match o.guard with
  | none => true
  | some (j, want) =>
    match ((ops[j]?).bind (·.dst)).bind (fr[·]?) with
    | some (.bool b) => b == want
    | _ => false

def putE (fr : List Value) : Option Tmp → Value → List Value
  | none, _ => fr
  | some d, v => fr.set d v

def opsE (ops : Array Oper) : List Oper → St → Option St
  | [], s => some s
  | o :: r, s =>
    match wantedE ops s.fr o with
    | true =>
      match opE P cl (opnd s.fr) o s.hp with
      | some (v, H) => opsE ops r ⟨putE s.fr o.dst v, H⟩
      | none => none
    | false => opsE ops r ⟨putE s.fr o.dst undef, s.hp⟩

end
end Go.Proofs.Ytoiijpphfckdjaa.Ev
