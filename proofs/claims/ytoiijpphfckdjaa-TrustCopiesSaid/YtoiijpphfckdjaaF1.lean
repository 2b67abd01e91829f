/-
  An evaluator over values that are partly unknown: lists are values; memory of one's own is a few numbered blocks. Definitions.
-/
import Derived.Test.YtoiijpphfckdjaaE23
namespace Go.Proofs.Ytoiijpphfckdjaa.Ev
noncomputable section
open Go
set_option linter.unusedVariables false
set_option linter.unusedSimpArgs false

/-- What a cell of a row is. -/
inductive Sch where
  | int (k : IntKind)
  | bool
  | ints (k : IntKind)
  | recs (l : List Sch)

/-- Data: a whole number, or a row (a list) of data. -/
inductive Dat where
  | n (x : Int)
  | r (l : List Dat)
def Dat.int : Dat → Int
  | .n x => x
  | .r _ => 0
def Dat.sub : Dat → List Dat
  | .n _ => []
  | .r l => l
def Dat.fld (d : Dat) (c : Nat) : Dat := d.sub.getD c (.n 0)

/-- Lists of unknown length: whole numbers, or rows. -/
inductive Cont where
  | ints (k : IntKind) (xs : List Int)
  | recs (l : List Sch) (xs : List Dat)
def Cont.w : Cont → Nat
  | .ints _ _ => 1
  | .recs l _ => l.length
def Cont.len : Cont → Nat
  | .ints _ xs => xs.length
  | .recs _ xs => xs.length

inductive SV where
  | any
  | i (k : IntKind) (n : Int)
  | b (x : Bool)
  | str (s : ByteArray)
  | nilp
  | nils
  | nilf
  | nili
  | ptr (id row w col : Nat)
  | buf (id w : Nat) (ex : Bool)
  | sl (id off len w : Nat)
  | deep (c : Cont)
  | dp (c : Cont) (row col : Nat)
  | np (id w col : Nat) (n : Int)
  | fn (g : Nat) (x y : List SV)
  | agg (l : List SV)
  | tup (l : List SV)

def decS : Sch → Dat → SV
  | .int k, d => .i k d.int
  | .bool, d => .b (d.int != 0)
  | .ints k, d => .deep (.ints k (d.sub.map Dat.int))
  | .recs l, d => .deep (.recs l d.sub)
def rowFrom : List Sch → Nat → Dat → List SV
  | [], _, _ => []
  | s :: l, c, d => decS s (d.fld c) :: rowFrom l (c + 1) d
def Cont.row : Cont → Nat → List SV
  | .ints k xs, r => [.i k (xs.getD r 0)]
  | .recs l xs, r => rowFrom l 0 (xs.getD r (.r []))

mutual
def schEq : Sch → Sch → Bool
  | .int k, .int k' => k == k'
  | .bool, .bool => true
  | .ints k, .ints k' => k == k'
  | .recs l, .recs l' => schsEq l l'
  | _, _ => false
def schsEq : List Sch → List Sch → Bool
  | [], [] => true
  | a :: l, b :: m => schEq a b && schsEq l m
  | _, _ => false
end

def encS : Sch → SV → Option Dat
  | .int k, .i k' n => match k == k' with | true => some (.n n) | false => none
  | .bool, .b x => some (.n (bif x then 1 else 0))
  | .ints _, .nils => some (.r [])
  | .ints k, .deep (.ints k' xs) => match k == k' with | true => some (.r (xs.map .n)) | false => none
  | .recs _, .nils => some (.r [])
  | .recs l, .deep (.recs l' xs) => match schsEq l l' with | true => some (.r xs) | false => none
  | _, _ => none
def encRow : List Sch → List SV → Option (List Dat)
  | [], [] => some []
  | s :: l, v :: vs => match encS s v, encRow l vs with | some d, some r => some (d :: r) | _, _ => none
  | _, _ => none

inductive SBlk where
  | cells (l : List SV)
  | cont (c : Cont)
  | ptrs (id w col : Nat) (rows : List Int)

inductive STr where
  | e
  | n (v : Option SBlk) (l r : STr)
def STr.get : STr → Nat → Option SBlk
  | .e, _ => none
  | .n v l r, k => if k = 0 then v else if k % 2 = 1 then l.get (k / 2) else r.get (k / 2 - 1)
def STr.val : STr → Option SBlk
  | .e => none
  | .n v _ _ => v
def STr.left : STr → STr
  | .e => .e
  | .n _ l _ => l
def STr.right : STr → STr
  | .e => .e
  | .n _ _ r => r
def STr.put (b : Option SBlk) : (fuel : Nat) → STr → Nat → STr
  | 0, t, _ => t
  | f + 1, t, k => if k = 0 then .n b t.left t.right else if k % 2 = 1 then .n t.val (STr.put b f t.left (k / 2)) t.right else .n t.val t.left (STr.put b f t.right (k / 2 - 1))

structure SHeap where
  size : Nat
  root : STr
  lock : Nat
  hid : List (Nat × Nat)
def SHeap.get (S : SHeap) (k : Nat) : Option SBlk := if k < S.size then (if hidden S.hid k then none else S.root.get k) else none
def SHeap.put (S : SHeap) (k : Nat) (b : Option SBlk) : SHeap := { S with root := S.root.put b (k + 1) k }
def SHeap.push (S : SHeap) (b : SBlk) : SHeap := { S with size := S.size + 1, root := S.root.put (some b) (S.size + 1) S.size }

structure SSt where
  fr : List SV
  hp : SHeap

def svOfC : Value → Option SV
  | .bool x => some (.b x)
  | .int k n => some (.i k n)
  | .string s => some (.str s)
  | .pointer none => some .nilp
  | .slice none 0 0 => some .nils
  | .nilFunc => some .nilf
  | .nilIface => some .nili
  | _ => none
def svsOfC : List Value → Option (List SV)
  | [] => some []
  | v :: r => match svOfC v, svsOfC r with | some a, some l => some (a :: l) | _, _ => none

def opndS (fr : List SV) : Operand → Option SV
  | .tmp t => some (fr.getD t (.tup []))
  | .const v => svOfC v
  | .global _ => none
  | .func f => some (.fn f [] [])

/-- The cells of a value that may be laid into memory. -/
def cellsS : SV → Option (List SV)
  | .agg l => some l
  | .tup _ => none
  | .any => none
  | v => some [v]

section
variable {R : Type} (P : Program) (L : List FuncId)

def zeroS (t : TypeId) : Option (List SV) :=
  match (P.info? t).bind (·.zero) with
  | some (.agg cs) => svsOfC cs.toList
  | some v => match svOfC v with | some s => some [s] | none => none
  | none => none

def schOf : Nat → TypeId → Option (List Sch)
  | 0, _ => none
  | d + 1, t =>
    match P.underlying t with
    | some (.int k) => some [.int k]
    | some .bool => some [.bool]
    | some (.slice e) =>
      match P.underlying e with
      | some (.int k) => some [.ints k]
      | _ => match schOf d e with | some l => some [.recs l] | none => none
    | some (.struct fs) => fs.toList.foldr (fun f r => match schOf d f.type, r with | some a, some b => some (a ++ b) | _, _ => none) (some [])
    | some (.array n e) => match schOf d e with | some l => some (List.replicate n l).flatten | none => none
    | _ => none

/-- A list of so many zero elements of a type, if it is whole numbers or rows. -/
def zeroCont (e : TypeId) (n : Nat) : Option Cont :=
  match P.underlying e with
  | some (.int k) => match zeroS P e with | some [.i k' z] => (match k == k' with | true => some (.ints k (List.replicate n z)) | false => none) | _ => none
  | _ =>
    match schOf P 20 e, zeroS P e with
    | some l, some z => match encRow l z with | some r => some (.recs l (List.replicate n (.r r))) | none => none
    | _, _ => none

/-- A list out of cells. -/
def rowsOf (l : List Sch) (w : Nat) : Nat → List SV → Option (List Dat)
  | 0, [] => some []
  | 0, _ => none
  | n + 1, cs => match encRow l (cs.take w), rowsOf l w n (cs.drop w) with | some r, some rs => some (.r r :: rs) | _, _ => none
def intsOf (k : IntKind) : List SV → Option (List Int)
  | [] => some []
  | .i k' n :: r => match k == k', intsOf k r with | true, some l => some (n :: l) | _, _ => none
  | _ => none
def contOf (e : TypeId) (n : Nat) (cs : List SV) : Option Cont :=
  match P.underlying e with
  | some (.int k) => match intsOf k cs with | some xs => some (.ints k xs) | none => none
  | _ =>
    match schOf P 20 e with
    | some l => match rowsOf l l.length n cs with | some r => some (.recs l r) | none => none
    | none => none
/-- A block out of cells: a list, if may be. -/
def blkOf (e : TypeId) (n : Nat) (cs : List SV) : SBlk :=
  match contOf P e n cs with
  | some c => .cont c
  | none => .cells cs

def mkS (d : TypeDesc) (cs : List SV) : Option SV :=
  match aggD d with
  | true => some (.agg cs)
  | false => match cs with | v :: _ => some v | [] => none

/-- Cells of a place. -/
def readC (c : Cont) (w row col n : Nat) (k : List SV → Option R) : Option R :=
  match (w == c.w) && decide (col + n ≤ c.w) && decide (0 < n) with
  | true => match decide (row < c.len) with | true => k (((c.row row).drop col).take n) | false => none
  | false => none

/-- May one be chosen of two? -/
def alike : SV → SV → Bool
  | .i k _, .i k' _ => k == k'
  | .b _, .b _ => true
  | .deep (.ints k _), .deep (.ints k' _) => k == k'
  | .deep (.recs l _), .deep (.recs l' _) => schsEq l l'
  | _, _ => false
def SV.num : SV → Int
  | .i _ n => n
  | _ => 0
def SV.flag : SV → Bool
  | .b x => x
  | _ => false
def SV.nums : SV → List Int
  | .deep (.ints _ l) => l
  | _ => []
def SV.rows : SV → List Dat
  | .deep (.recs _ l) => l
  | _ => []
def picked (a : SV) (l : List SV) (r : Nat) : SV :=
  match a with
  | .i k _ => .i k ((l.map SV.num).getD r 0)
  | .b _ => .b ((l.map SV.flag).getD r false)
  | .deep (.ints k _) => .deep (.ints k ((l.map SV.nums).getD r []))
  | .deep (.recs s _) => .deep (.recs s ((l.map SV.rows).getD r []))
  | a => a
def chosen (c : Bool) (new old : SV) : SV :=
  match old with
  | .i k n => .i k (bif c then new.num else n)
  | .b x => .b (bif c then new.flag else x)
  | .deep (.ints k l) => .deep (.ints k (bif c then new.nums else l))
  | .deep (.recs s l) => .deep (.recs s (bif c then new.rows else l))
  | a => a
/-- Places of cells, one a row. -/
def colOf (l : List SV) (w o m : Nat) : List SV := (List.range m).map fun j => l.getD (o + j * w) .any
def alikes (l : List SV) (w col n m : Nat) : Bool := (List.range n).all fun c => (colOf l w (col + c) m).all (alike (l.getD (col + c) .any))
def rowsN (l : List SV) (w col n : Nat) : Nat → Nat → Nat
  | 0, j => j
  | f + 1, j => match decide (col + j * w + n ≤ l.length) && (List.range n).all fun c => alike (l.getD (col + c) .any) (l.getD (col + j * w + c) .any) with | true => rowsN l w col n f (j + 1) | false => j
def rowsOk (l : List SV) (w col n m : Nat) : Bool := decide (0 < w) && (decide (0 < m) && (decide (col + (m - 1) * w + n ≤ l.length) && alikes l w col n m))
def readL (l : List SV) (row w col n : Nat) (k : List SV → Option R) : Option R :=
  match rowsOk l w col n (rowsN l w col n l.length 0) with
  | true => match decide (row < rowsN l w col n l.length 0) with | true => k ((List.range n).map fun c => picked (l.getD (col + c) .any) (colOf l w (col + c) (rowsN l w col n l.length 0)) row) | false => none
  | false => match decide (row * w + col + n ≤ l.length) with | true => k ((l.drop (row * w + col)).take n) | false => none
def updL (row w col m : Nat) (us : List SV) : Nat → List SV → List SV
  | _, [] => []
  | o, a :: r => (match decide (col ≤ o) && (decide ((o - col) % w < us.length) && decide ((o - col) / w < m)) with | true => chosen (decide (row = (o - col) / w)) (us.getD ((o - col) % w) .any) a | false => a) :: updL row w col m us (o + 1) r
def newOk (l : List SV) (w col : Nat) (us : List SV) : Bool := decide (us.length ≤ w) && (List.range us.length).all fun c => alike (l.getD (col + c) .any) (us.getD c .any)
def writeL (l : List SV) (row w col : Nat) (us : List SV) (k : List SV → Option R) : Option R :=
  match newOk l w col us && rowsOk l w col us.length (rowsN l w col us.length l.length 0) with
  | true => match decide (row < rowsN l w col us.length l.length 0) with | true => k (updL row w col (rowsN l w col us.length l.length 0) us 0 l) | false => none
  | false => match decide (row * w + col + us.length ≤ l.length) with | true => k (l.take (row * w + col) ++ us ++ l.drop (row * w + col + us.length)) | false => none

def readS (S : SHeap) (n : Nat) (p : SV) (k : List SV → Option R) : Option R :=
  match p with
  | .ptr id row w col =>
    match S.get id with
    | some (.cells l) => readL l row w col n k
    | some (.cont c) => readC c w row col n k
    | some (.ptrs j v e rows) => (match (w == 1) && ((col == 0) && (n == 1)) with | true => (match decide (row < rows.length) with | true => k [.np j v e (rows.getD row 0)] | false => none) | false => none)
    | none => none
  | .dp c row col => readC c c.w row col n k
  | _ => none

def loadS (S : SHeap) (t : TypeId) (p : SV) (k : SV → Option R) : Option R :=
  match P.underlying t, P.info? t with
  | some d, some i => readS S (match aggD d with | true => i.size | false => 1) p fun cs => match mkS d cs with | some v => k v | none => none
  | _, _ => none

def Cont.set (c : Cont) (row col : Nat) (vs : List SV) : Option Cont :=
  match c with
  | .ints k xs => match vs with | [.i k' n] => (match k == k' with | true => some (.ints k (xs.set row n)) | false => none) | _ => none
  | .recs l xs =>
    match encRow l (((Cont.recs l xs).row row).take col ++ vs ++ ((Cont.recs l xs).row row).drop (col + vs.length)) with
    | some r => some (.recs l (xs.set row (.r r)))
    | none => none

def writeS (S : SHeap) (p : SV) (vs : List SV) (k : SHeap → Option R) : Option R :=
  match p with
  | .ptr id row w col =>
    match decide (S.lock ≤ id) && decide (0 < vs.length) with
    | true =>
      (match S.get id with
      | some (.cells l) => writeL l row w col vs fun l' => k (S.put id (some (.cells l')))
      | some (.cont c) =>
        (match (w == c.w) && decide (col + vs.length ≤ c.w) with
        | true => match decide (row < c.len) with | true => (match c.set row col vs with | some c' => k (S.put id (some (.cont c'))) | none => none) | false => none
        | false => none)
      | _ => none)
    | false => none
  | _ => none

def storeS (S : SHeap) (t : TypeId) (p v : SV) (k : SHeap → Option R) : Option R :=
  match cellsS v, P.info? t with
  | some cs, some i => match decide (cs.length = i.size) with | true => writeS S p cs k | false => none
  | _, _ => none

def partS (t : TypeId) (cs : List SV) (off : Nat) : Option SV :=
  match P.underlying t, P.info? t with
  | some d, some i =>
    match aggD d with
    | true => match decide (off + i.size ≤ cs.length) with | true => some (.agg ((cs.drop off).take i.size)) | false => none
    | false => cs[off]?
  | _, _ => none

/-- Equality of plain values, as one bool. -/
def eqS : Nat → TypeId → SV → SV → Option Bool
  | 0, _, _, _ => none
  | d + 1, t, x, y =>
    match P.underlying t, x, y with
    | some .bool, .b a, .b c => some (a == c)
    | some (.int _), .i k a, .i k' c => if k = k' then some (a == c) else none
    | some (.struct fs), .agg xs, .agg ys =>
      if P.stoodInHeld t then none else
      fs.toList.foldr (fun f (r : Option Bool) =>
        if f.name ≠ "_" then
          match partS P f.type xs f.offset, partS P f.type ys f.offset with
          | some a, some c =>
            match eqS d f.type a c, r with
            | some u, some w => some (u && w)
            | _, _ => none
          | _, _ => none
        else r) (some true)
    | some (.array len elem), .agg xs, .agg ys =>
      match P.info? elem with
      | some i =>
        (List.range len).foldr (fun j (r : Option Bool) =>
          match partS P elem xs (j * i.size), partS P elem ys (j * i.size) with
          | some a, some c =>
            match eqS d elem a c, r with
            | some u, some w => some (u && w)
            | _, _ => none
          | _, _ => none) (some true)
      | none => none
    | _, _, _ => none

/-- Is it nil? -/
def nilS : SV → Option Bool
  | .nilp => some true
  | .ptr _ _ _ _ => some false
  | .np _ _ _ n => some (decide (n < 0))
  | .nils => some true
  | .buf _ _ true => some false
  | _ => none
def refS : TypeDesc → SV → SV → Bool
  | .pointer _, .nilp, .ptr _ _ _ _ => true
  | .pointer _, .nilp, .nilp => true
  | .pointer _, .ptr _ _ _ _, .nilp => true
  | .pointer _, .nilp, .np _ _ _ _ => true
  | .pointer _, .np _ _ _ _, .nilp => true
  | .slice _, .nils, .buf _ _ _ => true
  | .slice _, .buf _ _ _, .nils => true
  | .slice _, .nils, .nils => true
  | _, _, _ => false

def ofVal : Value → Option SV
  | .int k n => some (.i k n)
  | .bool x => some (.b x)
  | _ => none

open Classical in
/-- What comes to the same either way. -/
noncomputable def both (x y : Option R) : Option R := if x = y then x else none

def binS (op : BinOp) (t : TypeId) (x y : SV) (k : SV → Option R) : Option R :=
  match x, y with
  | .i k1 a, .i k2 c =>
    match op with
    | .quo => if k1 = k2 then (match decide (c = 0) with | true => none | false => k (.i k1 (k1.wrap (a.tdiv c)))) else none
    | .rem => if k1 = k2 then (match decide (c = 0) with | true => none | false => k (.i k1 (a.tmod c))) else none
    | .shl => (match decide (c < 0) with | true => none | false => k (.i k1 (k1.wrap (a * 2 ^ (min c.toNat k1.bits)))))
    | .shr => (match decide (c < 0) with | true => none | false => k (.i k1 (a.fdiv (2 ^ (min c.toNat k1.bits)))))
    | _ => if k1 = k2 then (match arithE op k1 a c with | some v => (match ofVal v with | some s => k s | none => none) | none => none) else none
  | .agg xs, .agg ys =>
    match P.eqGuardType P.depth t with
    | true => none
    | false =>
      match op with
      | .eql => (match eqS P 10000 t (.agg xs) (.agg ys) with | some c => k (.b c) | none => none)
      | .neq => (match eqS P 10000 t (.agg xs) (.agg ys) with | some c => k (.b (!c)) | none => none)
      | _ => none
  | .b a, .b c =>
    match P.underlying t with
    | some .bool => match op with | .eql => k (.b (a == c)) | .neq => k (.b (!(a == c))) | _ => none
    | _ => none
  | .deep c, .nils =>
    match P.underlying t with
    | some (.slice _) =>
      match op with
      | .eql => (match decide (c.len = 0) with | true => both (k (.b true)) (k (.b false)) | false => k (.b false))
      | .neq => (match decide (c.len = 0) with | true => both (k (.b true)) (k (.b false)) | false => k (.b true))
      | _ => none
    | _ => none
  | _, _ =>
    match P.underlying t, nilS x, nilS y with
    | some d, some a, some c => (match refS d x y with | true => (match op with | .eql => k (.b (a && c)) | .neq => k (.b (!(a && c))) | _ => none) | false => none)
    | _, _, _ => none

def unS (op : UnOp) (x : SV) : Option SV :=
  match op, x with
  | .neg, .i k n => some (.i k (k.wrap (0 - n)))
  | .xor, .i k n => match arithE .xor k (if k.signed then -1 else k.max) n with | some v => ofVal v | none => none
  | .not, .b x => some (.b (!x))
  | _, _ => none

def convS (src dst : TypeId) (x : SV) : Option SV :=
  match P.underlying src, P.underlying dst, x with
  | some _, some (.int k), .i _ n => some (.i k (k.wrap n))
  | _, _, _ => none

/-- How long a slice is. -/
def lenS (S : SHeap) : SV → Option Nat
  | .nils => some 0
  | .buf id w ex => match S.get id with
    | some (.cont c) => (match (w == c.w) && decide (0 < w) with | true => some c.len | false => none)
    | some (.cells l) => (match ex && (decide (0 < w) && (l.length % w == 0)) with | true => some (l.length / w) | false => none)
    | some (.ptrs _ _ _ rows) => (match w == 1 with | true => some rows.length | false => none)
    | none => none
  | .sl _ _ len _ => some len
  | .deep c => some c.len
  | _ => none

def boundS (x : Option SV) (d : Nat) : Option (Bool × Nat) :=
  match x with
  | none => some (true, d)
  | some (.i _ n) => some (false, n.toNat)
  | _ => none
/-- Is the bound not below nought? -/
def bposS (x : Option SV) : Bool :=
  match x with
  | some (.i _ n) => decide (0 ≤ n)
  | _ => true

def Cont.cut (c : Cont) (l n : Nat) : Cont :=
  match c with
  | .ints k xs => .ints k ((xs.drop l).take n)
  | .recs s xs => .recs s ((xs.drop l).take n)

/-- x[lo:hi], within its length. -/
def sliceS (S : SHeap) (t : TypeId) (x : SV) (lo hi : Option SV) (k : SV → Option R) : Option R :=
  match P.underlying t with
  | some (.slice e) =>
    match P.info? e, lenS S x with
    | some i, some len =>
      match boundS hi len, boundS lo 0 with
      | some (_, h), some (_, l) =>
        match bposS hi && (bposS lo && decide (l ≤ h ∧ h ≤ len)) with
        | true =>
          (match x with
           | .nils => k .nils
           | .buf id w _ => match w == i.size with | true => k (.sl id l (h - l) w) | false => none
           | .sl id off _ w => match w == i.size with | true => k (.sl id (off + l) (h - l) w) | false => none
           | .deep c => match c.w == i.size with | true => k (.deep (c.cut l (h - l))) | false => none
           | _ => none)
        | false => none
      | _, _ => none
    | _, _ => none
  | some (.array n e) =>
    match lo, hi, x, P.info? e with
    | none, none, .ptr id row w col, some i =>
      (match S.get id with
       | some (.cont c) => match (c.w == i.size) && (n == c.len) && (row == 0) && (col == 0) with | true => k (.buf id c.w true) | false => none
       | _ => none)
    | _, _, _, _ => none
  | _ => none

def fieldAddrS (s : TypeId) (x : SV) (f : Nat) : Option SV :=
  match P.underlying s with
  | some (.struct fs) =>
    match fs[f]? with
    | some fd =>
      match P.info? fd.type with
      | some i =>
        (match i.size == 0 with
         | true => none
         | false =>
          match x with
          | .ptr id row w col => some (.ptr id row w (col + fd.offset))
          | .dp c row col => some (.dp c row (col + fd.offset))
          | _ => none)
      | none => none
    | none => none
  | _ => none

def fieldS (s : TypeId) (x : SV) (f : Nat) : Option SV :=
  match P.underlying s with
  | some (.struct fs) =>
    match fs[f]?, x with
    | some fd, .agg cs => partS P fd.type cs fd.offset
    | _, _ => none
  | _ => none

/-- One of a few: by the number. -/
def caseN (n : Nat) (i : Int) (k : Nat → Option R) : Nat → Option R
  | 0 => none
  | m + 1 => match decide (i = ((n - (m + 1) : Nat) : Int)) with | true => k (n - (m + 1)) | false => caseN n i k m

def indexAddrS (S : SHeap) (t : TypeId) (x ix : SV) (k : SV → Option R) : Option R :=
  match ix with
  | .i _ i =>
    match P.underlying t, x with
    | some (.array len e), .ptr id row w col =>
      (match P.info? e, S.get id with
       | some ie, some (.cells l) => (match rowsOk l ie.size (row * w + col) ie.size len with
          | true => (match decide (0 ≤ i ∧ i < (len : Int)) with | true => k (.ptr id i.toNat ie.size (row * w + col)) | false => none)
          | false => caseN len i (fun j => k (.ptr id row w (col + j * ie.size))) len)
       | some ie, some (.cont c) => (match (c.w == ie.size) && (len == c.len) && (row == 0) && (col == 0) with
          | true => (match decide (0 ≤ i ∧ i < (len : Int)) with | true => k (.ptr id i.toNat c.w 0) | false => none)
          | false => none)
       | _, _ => none)
    | some (.array len e), .dp c row col =>
      (match P.info? e with
       | some ie => caseN len i (fun j => k (.dp c row (col + j * ie.size))) len
       | none => none)
    | some (.slice e), _ =>
      (match P.info? e, lenS S x with
       | some ie, some len =>
         (match decide (0 ≤ i ∧ i < (len : Int)) with
          | true =>
            (match x with
             | .buf id w _ => match w == ie.size with | true => k (.ptr id i.toNat w 0) | false => none
             | .sl id off _ w => match w == ie.size with | true => k (.ptr id (off + i.toNat) w 0) | false => none
             | .deep c => match c.w == ie.size with | true => k (.dp c i.toNat 0) | false => none
             | _ => none)
          | false => none)
       | _, _ => none)
    | _, _ => none
  | _ => none

def indexS (t : TypeId) (x ix : SV) (k : SV → Option R) : Option R :=
  match ix with
  | .i _ i =>
    match P.underlying t, x with
    | some (.array len e), .agg cs =>
      (match P.info? e with
       | some ie => (match rowsOk cs ie.size 0 ie.size len with
          | true => (match decide (0 ≤ i ∧ i < (len : Int)) with | true => readL cs i.toNat ie.size 0 ie.size (fun l => match partS P e l 0 with | some v => k v | none => none) | false => none)
          | false => caseN len i (fun j => match partS P e cs (j * ie.size) with | some v => k v | none => none) len)
       | none => none)
    | some .string, .str s => (match decide (0 ≤ i ∧ i.toNat < s.data.size) with | true => k (.i .u8 ((s.data.getD i.toNat 0).toNat : Nat)) | false => none)
    | _, _ => none
  | _ => none

/-- The elements of a slice, as a list. -/
def viewS (S : SHeap) : SV → Option Cont
  | .buf id w _ => match S.get id with | some (.cont c) => (match (w == c.w) && decide (0 < w) with | true => some c | false => none) | _ => none
  | .sl id off len w => match S.get id with | some (.cont c) => (match (w == c.w) && decide (0 < w) with | true => some (c.cut off len) | false => none) | _ => none
  | .deep c => some c
  | _ => none

def Cont.app : Cont → Cont → Option Cont
  | .ints k xs, .ints k' ys => match k == k' with | true => some (.ints k (xs ++ ys)) | false => none
  | .recs l xs, .recs l' ys => match schsEq l l' with | true => some (.recs l (xs ++ ys)) | false => none
  | _, _ => none

/-- Lists in blocks: rows, or pointers into a block. -/
def SBlk.len : SBlk → Nat
  | .cont c => c.len
  | .ptrs _ _ _ rows => rows.length
  | .cells _ => 0
def SBlk.w : SBlk → Nat
  | .cont c => c.w
  | .ptrs _ _ _ _ => 1
  | .cells _ => 0
def SBlk.app : SBlk → SBlk → Option SBlk
  | .cont a, .cont b => match a.app b with | some c => some (.cont c) | none => none
  | .ptrs j v e rows, .ptrs j' v' e' rows' => match (j == j') && ((v == v') && (e == e')) with | true => some (.ptrs j v e (rows ++ rows')) | false => none
  | _, _ => none
/-- The elements of a slice, as a block. -/
def viewB (S : SHeap) : SV → Option SBlk
  | .buf id w ex =>
    match S.get id with
    | some (.ptrs j v e rows) => (match w == 1 with | true => some (.ptrs j v e rows) | false => none)
    | some (.cells [.ptr j row v e]) => (match ex && (w == 1) with | true => some (.ptrs j v e [(row : Int)]) | false => none)
    | _ => match viewS S (.buf id w ex) with | some c => some (.cont c) | none => none
  | x => match viewS S x with | some c => some (.cont c) | none => none

/-- Does the append leave its base alone? -/
def quietApp : SV → Bool
  | .nils => true
  | .buf _ _ true => true
  | _ => false

def appendS (S : SHeap) (t u : TypeId) (s x : SV) (k : SV → SHeap → Option R) : Option R :=
  match t == u, P.underlying t with
  | true, some (.slice e) =>
    match P.info? e with
    | some i =>
      match decide (0 < i.size) && (match (i.zero).bind zCells with | some zc => zc.length == i.size | none => false) with
      | true =>
        (match (match x with | .nils => (match zeroCont P e 0 with | some z => some (SBlk.cont z) | none => none) | _ => viewB S x) with
         | some new =>
          match s with
          | .nils =>
            (match new.w == i.size with
             | true => (match decide (new.len < 1099511627776 ∧ new.len * i.bytes < 35184372088832) with | true => k (.buf S.size i.size false) (S.push new) | false => none)
             | false => none)
          | .buf id w ex =>
            (match S.get id with
             | some old =>
               (match old.app new, (w == i.size) && (old.w == i.size) with
                | some c, true =>
                  (match decide (old.len + new.len < 1099511627776 ∧ (old.len + new.len) * i.bytes < 35184372088832) with
                   | true =>
                     (match decide (S.lock ≤ id) with
                      | true => k (.buf S.size w false) ((S.put id none).push c)
                      | false => (match ex with
                        | true => (match decide (new.len = 0) with | true => k (.buf id w ex) S | false => k (.buf S.size w false) (S.push c))
                        | false => none))
                   | false => none)
                | _, _ => none)
             | none => none)
          | _ => none
         | none => none)
      | false => none
    | none => none
  | _, _ => none

def Cont.copied (d s : Cont) : Option Cont :=
  match d, s with
  | .ints k xs, .ints k' ys => match k == k' with | true => some (.ints k (ys.take (min ys.length xs.length) ++ xs.drop (min ys.length xs.length))) | false => none
  | .recs l xs, .recs l' ys => match schsEq l l' with | true => some (.recs l (ys.take (min ys.length xs.length) ++ xs.drop (min ys.length xs.length))) | false => none
  | _, _ => none
def copyS (S : SHeap) (t : TypeId) (d s : SV) (k : SV → SHeap → Option R) : Option R :=
  match P.underlying t, d with
  | some (.slice e), .buf id w _ =>
    (match P.info? e, S.get id, viewS S s with
     | some i, some (.cont c), some new =>
       (match (w == i.size) && (c.w == i.size) && decide (S.lock ≤ id) && decide (0 < i.size), c.copied new with
        | true, some c' => k (.i .i64 ((min new.len c.len : Nat) : Int)) (S.put id (some (.cont c')))
        | _, _ => none)
     | _, _, _ => none)
  | _, _ => none

def min2S : Option SV → SV → Option SV
  | some (.i k x), .i _ y => some (.i k (if y < x then y else x))
  | _, _ => none
def max2S : Option SV → SV → Option SV
  | some (.i k x), .i _ y => some (.i k (if x < y then y else x))
  | _, _ => none
def minS : List SV → Option SV
  | .i k x :: r => r.foldl min2S (some (.i k x))
  | _ => none
def maxS : List SV → Option SV
  | .i k x :: r => r.foldl max2S (some (.i k x))
  | _ => none

def lenB (S : SHeap) (t : TypeId) (x : SV) : Option SV :=
  match P.underlying t with
  | some (.slice _) => match lenS S x with | some n => some (.i .i64 (n : Int)) | none => none
  | some (.array n _) => some (.i .i64 (n : Int))
  | some .string => match x with | .str s => some (.i .i64 (s.size : Int)) | _ => none
  | _ => none

def builtinS (S : SHeap) (b : Builtin) (ts : List TypeId) (args : List SV) (k : SV → SHeap → Option R) : Option R :=
  match b with
  | .append => match ts, args with | [t, u], [s, x] => appendS P S t u s x k | _, _ => none
  | .copy => match ts, args with | [t, _], [d, s] => copyS P S t d s k | _, _ => none
  | .len => match ts, args with | [t], [x] => (match lenB P S t x with | some v => k v S | none => none) | _, _ => none
  | .min => match minS args with | some v => k v S | none => none
  | .max => match maxS args with | some v => k v S | none => none
  | _ => none

def partsS (ρ : Operand → Option SV) : List (Nat × Operand) → Option (List (Nat × List SV))
  | [] => some []
  | (i, x) :: r =>
    match (ρ x).bind cellsS, partsS ρ r with
    | some v, some vs => some ((i, v) :: vs)
    | _, _ => none

/-- Cells laid into places. -/
def fillS (place : Nat → Option (Nat × Nat)) : List SV → List (Nat × List SV) → Option (List SV)
  | cs, [] => some cs
  | cs, (i, v) :: r =>
    match place i with
    | some (off, n) => match decide (v.length = n) && decide (off + n ≤ cs.length) with | true => fillS place (v.zipIdx.foldl (fun cs p => cs.set (off + p.2) p.1) cs) r | false => none
    | none => none

def argsS (ρ : Operand → Option SV) : List Operand → Option (List SV)
  | [] => some []
  | x :: r =>
    match ρ x, argsS ρ r with
    | some v, some vs => some (v :: vs)
    | _, _ => none

def optS (ρ : Operand → Option SV) : Option Operand → Option (Option SV)
  | none => some none
  | some x => (ρ x).map some

def buildS (t : TypeId) (parts : List (Nat × List SV)) : Option SV :=
  match P.underlying t with
  | some (.array _ e) =>
    match zeroS P t, P.info? e with
    | some z, some ie => match fillS (fun i => some (i * ie.size, ie.size)) z parts with | some cs => some (.agg cs) | none => none
    | _, _ => none
  | some (.struct fields) =>
    match zeroS P t, fields.toList.mapM (fun f => (P.info? f.type).map fun i => (f.offset, i.size)) with
    | some z, some places => match fillS (places.toArray[·]?) z parts with | some cs => some (.agg cs) | none => none
    | _, _ => none
  | _ => none

def buildSliceS (S : SHeap) (t : TypeId) (n : Nat) (parts : List (Nat × List SV)) (k : SV → SHeap → Option R) : Option R :=
  match P.underlying t with
  | some (.slice e) =>
    match P.info? e, zeroS P e with
    | some i, some z =>
      (match decide (n * i.size ≤ 16777216) && decide (z.length = i.size) with
       | true =>
        (match fillS (fun j => some (j * i.size, i.size)) (List.replicate n z).flatten parts with
         | some cs => k (.buf S.size i.size true) (S.push (blkOf P e n cs))
         | none => none)
       | false => none)
    | _, _ => none
  | _ => none

def makeS (S : SHeap) (t : TypeId) (len : SV) (k : SV → SHeap → Option R) : Option R :=
  match P.underlying t, len with
  | some (.slice e), .i _ n =>
    match P.info? e, zeroS P e, zeroCont P e n.toNat with
    | some i, some z, some c =>
      (match (c.w == i.size) && decide (z.length = i.size) with
       | true =>
        (match decide (0 ≤ n ∧ (i.bytes : Int) * n ≤ 140737488355328 ∧ n ≤ 9223372036854775807) with
         | true => k (.buf S.size i.size true) (S.push (.cont c))
         | false => none)
       | false => none)
    | _, _, _ => none
  | _, _ => none

/-- An array with more places than a few is a list. -/
def allocB (e : TypeId) (z : List SV) : SBlk :=
  match P.underlying e with
  | some (.array n a) => (match decide (8 < n) with
    | true => (match P.underlying a with | some (.int k) => (match intsOf k z with | some xs => .cont (.ints k xs) | none => .cells z) | _ => .cells z)
    | false => .cells z)
  | _ => .cells z

def sameOp : Operand → Operand → Bool
  | .tmp a, .tmp b => a == b
  | .const (.int k a), .const (.int k' b) => k == k' && a == b
  | _, _ => false

/-- What is known of functions: a condition, the answer, the memory behind it. -/
abbrev TabS := FuncId → List SV → SHeap → Option (Bool × SV × SHeap)
abbrev CallS (R : Type) := FuncId → List SV → SHeap → (SV → SHeap → Option R) → Option R

variable (T : TabS) (cx : CallS R)

def opS (ρ : Operand → Option SV) (o : Oper) (S : SHeap) (k : SV → SHeap → Option R) : Option R :=
  match o.op with
  | .move x => (match ρ x with | some v => k v S | none => none)
  | .assign x => (match ρ x with | some v => k v S | none => none)
  | .pick c a b =>
    (match ρ c with
     | some (.b t) => (match t with | true => (match ρ a with | some v => k v S | none => none) | false => (match ρ b with | some v => k v S | none => none))
     | _ => none)
  | .alloc e => (match zeroS P e with | some z => k (.ptr S.size 0 0 0) (S.push (allocB P e z)) | none => none)
  | .box _ x => (match (ρ x).bind cellsS with | some cs => k (.ptr S.size 0 0 0) (S.push (.cells cs)) | none => none)
  | .build t ps => (match partsS ρ ps.toList with | some l => (match buildS P t l with | some v => k v S | none => none) | none => none)
  | .buildSlice t n ps => (match partsS ρ ps.toList with | some l => buildSliceS P S t n l k | none => none)
  | .load t a => (match ρ a with | some p => loadS P S t p fun v => k v S | none => none)
  | .store t a x => (match ρ a, ρ x with | some p, some v => storeS P S t p v fun S' => k (.tup []) S' | _, _ => none)
  | .nilCheck x =>
    (match ρ x with
     | some (.ptr id row w col) => k (.ptr id row w col) S
     | some (.dp c row col) => k (.dp c row col) S
     | some (.np id w col n) => (match decide (0 ≤ n) with | true => k (.ptr id (match w with | 0 => 0 | _ + 1 => n.toNat) w col) S | false => none)
     | some (.fn g x y) => k (.fn g x y) S
     | _ => none)
  | .binOp op t x y _ => (match ρ x, ρ y with | some a, some b => binS P op t a b fun v => k v S | _, _ => none)
  | .unOp op _ x => (match (ρ x).bind (unS op) with | some v => k v S | none => none)
  | .convert s d x => (match (ρ x).bind (convS P s d) with | some v => k v S | none => none)
  | .makeFunc fn a b =>
    (match fn, argsS ρ a.toList, argsS ρ b.toList with
     | .func f, some x, some y => k (.fn f x y) S
     | _, _, _ => none)
  | .makeSlice t l c => (match sameOp l c, ρ l with | true, some a => makeS P S t a k | _, _ => none)
  | .slice t x lo hi mx =>
    (match mx with
     | none => (match ρ x, optS ρ lo, optS ρ hi with | some v, some l, some h => sliceS P S t v l h fun v => k v S | _, _, _ => none)
     | some _ => none)
  | .fieldAddr s x f => (match (ρ x).bind (fieldAddrS P s · f) with | some v => k v S | none => none)
  | .field s x f => (match (ρ x).bind (fieldS P s · f) with | some v => k v S | none => none)
  | .indexAddr t x i => (match ρ x, ρ i with | some v, some j => indexAddrS P S t v j fun v => k v S | _, _ => none)
  | .index t x i => (match ρ x, ρ i with | some v, some j => indexS P t v j fun v => k v S | _, _ => none)
  | .extract x i => (match ρ x with | some (.tup l) => (match l[i]? with | some v => k v S | none => none) | _ => none)
  | .call c =>
    (match argsS ρ c.args.toList with
     | some args =>
       (match c.callee with
        | .builtin b => builtinS P S b c.argTypes.toList args k
        | .value f =>
          (match ρ f with
           | some (.fn g x y) =>
             (match T g (x ++ args ++ y) S with
              | some (cnd, v, S') => (match cnd with | true => k v S' | false => none)
              | none => cx g (x ++ args ++ y) S k)
           | _ => none)
        | .invoke .. => none)
     | none => none)
  | _ => none
end
end
end Go.Proofs.Ytoiijpphfckdjaa.Ev
