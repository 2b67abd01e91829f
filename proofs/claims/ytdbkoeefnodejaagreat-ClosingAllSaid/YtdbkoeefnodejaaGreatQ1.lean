/- Part of a proof: E1, E2, E3, E4, E5, E6, E7, E8, E9, E10, E11, E12, E13, E14, E15, E16, E17, E18, E19, S, E20, E21. Conditions: none. -/
import Derived.Below
import Derived.Carry
import Derived.ChangeKeysEq
import Derived.KernelRfl
import Derived.Laws.Append
import Derived.Laws.AppendOwn
import Derived.Laws.Cells
import Derived.Laws.CopyRow
import Derived.Laws.MakeOwn
import Derived.Laws.Rows
import Derived.Laws.Slices
import Derived.Laws.StructEq
import Derived.Laws.Tables
import Derived.LoopN
import Derived.OpenShut
import Derived.Orders
import Derived.ProofKit
import Derived.Test.YtdbkoeefnodejaaGreatProg
set_option linter.unusedVariables false
set_option linter.unusedSimpArgs false
set_option linter.unnecessarySimpa false
set_option linter.unusedSectionVars false
namespace Go.Proofs.YtdbkoeefnodejaaGreat.Ev
noncomputable section
open Go
structure Blk where
 cells : List Value
inductive Tr where
 | e
 | n (v : Option Blk) (l r : Tr)
def Tr.get : Tr -> Nat -> Option Blk
 | .e, _ => none
 | .n v l r, k => if k = 0 then v else if k % 2 = 1 then l.get (k / 2) else r.get (k / 2 - 1)
def Tr.val : Tr -> Option Blk
 | .e => none
 | .n v _ _ => v
def Tr.left : Tr -> Tr
 | .e => .e
 | .n _ l _ => l
def Tr.right : Tr -> Tr
 | .e => .e
 | .n _ _ r => r
def Tr.put (b : Option Blk) : (fuel : Nat) -> Tr -> Nat -> Tr
 | 0, t, _ => t
 | f + 1, t, k => if k = 0 then .n b t.left t.right else if k % 2 = 1 then .n t.val (Tr.put b f t.left (k / 2)) t.right else .n t.val t.left (Tr.put b f t.right (k / 2 - 1))
structure ah where
 size : Nat
 root : Tr
 lock : Nat
 hid : List (Nat × Nat)
def hidden : List (Nat × Nat) -> Nat -> Bool
 | [], _ => false
 | (a, b) :: r, k => (a <= k && k < b) || hidden r k
def ah.get (H : ah) (k : Nat) : Option Blk := if k < H.size then (if hidden H.hid k then none else H.root.get k) else none
def ah.put (H : ah) (k : Nat) (b : Option Blk) : ah := { H with root := H.root.put b (k + 1) k }
def ah.push (H : ah) (b : Blk) : ah := { H with size := H.size + 1, root := H.root.put (some b) (H.size + 1) H.size }
def ah.nW (H : ah) (k : Nat) (_ : Blk) : Bool := decide (H.lock <= k)
structure St where
 fr : List Value
 hp : ah
inductive Ex where
 | normal
 | exit (id : Nat)
 | ret
def bf : Value -> Bool
 | .agg _ => false
 | .tuple _ => false
 | _ => true
def fw : Value -> Bool
 | .bool _ => true
 | .int .. => true
 | .string _ => true
 | .pointer none => true
 | .slice none 0 0 => true
 | .nilFunc => true
 | .nilIface => true
 | _ => false
def dj (fr : List Value) : Operand -> Option Value
 | .tmp t => some (fr.getD t undef)
 | .const v => if fw v then some v else none
 | .global _ => none
 | .func f => some (.func (.func f) #[] #[])
def bo : Value -> Option (List Value)
 | .agg cs => some cs.toList
 | .tuple _ => none
 | v => some [v]
def fl (z : Value) : Option (List Value) :=
 match bo z with
 | some cs => if cs.all fw then some cs else none
 | none => none
def ct (H : ah) (b off n : Nat) : Option (List Value) :=
 match H.get b with
 | some k => if off + n <= k.cells.length then some ((k.cells.drop off).take n) else none
 | none => none
def dv (H : ah) (b off : Nat) (vs : List Value) : Option ah :=
 match H.get b with
 | some k => if H.nW b k && 0 < vs.length && off + vs.length <= k.cells.length then
  some (H.put b (some ⟨k.cells.take off ++ vs ++ k.cells.drop (off + vs.length)⟩)) else none
 | none => none
def jR : TypeDesc -> Bool
 | .struct _ => true
 | .array _ _ => true
 | _ => false
section
variable (P : Program)
def cd (H : ah) (t : TypeId) : Value -> Option Value
 | .pointer (some ⟨b, off, none⟩) =>
  match P.underlying t, P.info? t with
  | some d, some i =>
   match jR d with
   | true => (ct H b off i.size).map fun cs => .agg cs.toArray
   | false =>
    match ct H b off 1 with
    | some (v :: _) => some v
    | _ => none
  | _, _ => none
 | _ => none
def mE (H : ah) (t : TypeId) (p v : Value) : Option ah :=
 match p with
 | .pointer (some ⟨b, off, none⟩) =>
  match bo v, P.info? t with
  | some cs, some i => if cs.length = i.size then dv H b off cs else none
  | _, _ => none
 | _ => none
def aL (H : ah) (cs : List Value) : ah := H.push ⟨cs⟩
def ptr (b off : Nat) : Value := .pointer (some ⟨b, off, none⟩)
def gH (t : TypeId) (cs : Array Value) (off : Nat) : Option Value :=
 match P.underlying t, P.info? t with
 | some d, some i =>
  match jR d with
  | true => if off + i.size <= cs.size then some (.agg (cs.extract off (off + i.size))) else none
  | false => cs[off]?
 | _, _ => none
def eqE : Nat -> TypeId -> Value -> Value -> Option Bool
 | 0, _, _, _ => none
 | d + 1, t, x, y =>
  match P.underlying t, x, y with
  | some .bool, .bool a, .bool b => some (a == b)
  | some (.int _), .int k a, .int k' b => if k = k' then some (a == b) else none
  | some (.struct fs), .agg xs, .agg ys =>
   if P.stoodInHeld t then none else
   fs.toList.foldr (fun f (r : Option Bool) =>
    if f.name ≠ "_" then
     match gH P f.type xs f.offset, gH P f.type ys f.offset with
     | some a, some b =>
      match eqE d f.type a b with
      | some true => r
      | some false => some false
      | none => none
     | _, _ => none
    else r) (some true)
  | some (.array len elem), .agg xs, .agg ys =>
   match P.info? elem with
   | some i =>
    (List.range len).foldr (fun j (r : Option Bool) =>
     match gH P elem xs (j * i.size), gH P elem ys (j * i.size) with
     | some a, some b =>
      match eqE d elem a b with
      | some true => r
      | some false => some false
      | none => none
     | _, _ => none) (some true)
   | none => none
  | _, _, _ => none
def jn (op : BinOp) (k : IntKind) (a b : Int) : Option Value :=
 match op with
 | .add => some (.int k (k.wrap (a + b)))
 | .sub => some (.int k (k.wrap (a - b)))
 | .mul => some (.int k (k.wrap (a * b)))
 | .quo => if b = 0 then none else some (.int k (k.wrap (a.tdiv b)))
 | .rem => if b = 0 then none else some (.int k (a.tmod b))
 | .and => some (.int k (k.wrap (BitVec.ofInt k.bits a &&& BitVec.ofInt k.bits b).toNat))
 | .or => some (.int k (k.wrap (BitVec.ofInt k.bits a ||| BitVec.ofInt k.bits b).toNat))
 | .xor => some (.int k (k.wrap (BitVec.ofInt k.bits a ^^^ BitVec.ofInt k.bits b).toNat))
 | .andNot => some (.int k (k.wrap (BitVec.ofInt k.bits a &&& ~~~(BitVec.ofInt k.bits b)).toNat))
 | .eql => some (.bool (a == b))
 | .neq => some (.bool (a != b))
 | .lss => some (.bool (decide (a < b)))
 | .leq => some (.bool (decide (a <= b)))
 | .gtr => some (.bool (decide (a > b)))
 | .geq => some (.bool (decide (a >= b)))
 | .shl => none
 | .shr => none
def lT (op : BinOp) (k : IntKind) (a b : Int) : Option Value :=
 if b < 0 then none else
 match op with
 | .shl => some (.int k (k.wrap (a * 2 ^ (min b.toNat k.bits))))
 | .shr => some (.int k (a.fdiv (2 ^ (min b.toNat k.bits))))
 | _ => none
def isNil : Value -> Option Bool
 | .pointer none => some true
 | .pointer (some _) => some false
 | .slice none _ _ => some true
 | .slice (some _) _ _ => some false
 | _ => none
def yX : TypeDesc -> Value -> Value -> Bool
 | .pointer _, .pointer none, .pointer _ => true
 | .pointer _, .pointer _, .pointer none => true
 | .slice _, .slice none _ _, .slice _ _ _ => true
 | .slice _, .slice _ _ _, .slice none _ _ => true
 | _, _, _ => false
def eW (t : TypeId) (x y : Value) : Option Bool :=
 match x, y with
 | .agg _, .agg _ => if P.eqGuardType P.depth t then none else eqE P 10000 t x y
 | .bool a, .bool b => match P.underlying t with | some .bool => some (a == b) | _ => none
 | _, _ =>
  match P.underlying t, isNil x, isNil y with
  | some d, some a, some b => if yX d x y then some (a && b) else none
  | _, _, _ => none
def gD (op : BinOp) (t : TypeId) (x y : Value) : Option Value :=
 match x, y with
 | .int k a, .int k' b =>
  match op with
  | .shl => lT .shl k a b
  | .shr => lT .shr k a b
  | _ => if k = k' then jn op k a b else none
 | x, y =>
  match op with
  | .eql => (eW P t x y).map .bool
  | .neq => (eW P t x y).map fun b => .bool (!b)
  | _ => none
def unE (op : UnOp) (x : Value) : Option Value :=
 match op, x with
 | .neg, .int k n => some (.int k (k.wrap (0 - n)))
 | .xor, .int k n => jn .xor k (if k.signed then -1 else k.max) n
 | .not, .bool b => some (.bool (!b))
 | _, _ => none
def AW (src dst : TypeId) (x : Value) : Option Value :=
 match P.underlying src, P.underlying dst, x with
 | some _, some (.int k), .int _ n => some (.int k (k.wrap n))
 | _, _, _ => none
def lz (x : Option Value) (d hi : Nat) : Option Nat :=
 match x with
 | none => some d
 | some (.int _ i) => if 0 <= i /\ i <= (hi : Int) then some i.toNat else none
 | some _ => none
def ov (t : TypeId) (x : Value) (lo hi : Option Value) : Option Value :=
 match P.underlying t with
 | some (.slice elem) =>
  match x, P.info? elem with
  | .slice a len cap, some i =>
   match lz hi len cap with
   | some h =>
    match lz lo 0 h with
    | some l =>
     match a with
     | none => some (.slice none (h - l) (cap - l))
     | some ⟨b, off, none⟩ => some (.slice (some ⟨b, if cap = l then off else off + l * i.size, none⟩) (h - l) (cap - l))
     | some ⟨b, off, some e⟩ => if e = i.size then some (.slice (some ⟨b, if cap = l then off else off + l * i.size, some e⟩) (h - l) (cap - l)) else none
    | none => none
   | none => none
  | _, _ => none
 | some (.array n elem) =>
  match x, P.info? elem with
  | .pointer (some ⟨b, off, none⟩), some i =>
   match lz hi n n with
   | some h =>
    match lz lo 0 h with
    | some l => some (.slice (some ⟨b, if n = l then off else off + l * i.size, none⟩) (h - l) (n - l))
    | none => none
   | none => none
  | _, _ => none
 | _ => none
def gQ (s : TypeId) (x : Value) (f : Nat) : Option Value :=
 match P.underlying s with
 | some (.struct fs) =>
  match fs[f]?, x with
  | some fd, .pointer (some a) =>
   match P.info? fd.type with
   | some i => if i.size = 0 then none else some (.pointer (some (a.add fd.offset)))
   | none => none
  | _, _ => none
 | _ => none
def v3 (s : TypeId) (x : Value) (f : Nat) : Option Value :=
 match P.underlying s with
 | some (.struct fs) =>
  match fs[f]?, x with
  | some fd, .agg cs => gH P fd.type cs fd.offset
  | _, _ => none
 | _ => none
def dA (t : TypeId) (x ix : Value) : Option Value :=
 match ix with
 | .int _ i =>
  match P.underlying t, x with
  | some (.array len elem), .pointer (some a) =>
   match P.info? elem with
   | some ie => if 0 <= i /\ i < (len : Int) then some (.pointer (some (a.add (i.toNat * ie.size)))) else none
   | none => none
  | some (.slice elem), .slice (some ⟨b, off, _⟩) len _ =>
   match P.info? elem with
   | some ie => if 0 <= i /\ i < (len : Int) then some (.pointer (some ⟨b, off + i.toNat * ie.size, none⟩)) else none
   | none => none
  | _, _ => none
 | _ => none
def ma (t : TypeId) (x ix : Value) : Option Value :=
 match ix with
 | .int _ i =>
  match P.underlying t, x with
  | some (.array len elem), .agg cs =>
   match P.info? elem with
   | some ie => if 0 <= i /\ i < (len : Int) then gH P elem cs (i.toNat * ie.size) else none
   | none => none
  | some .string, .string s => if 0 <= i then (match s.data[i.toNat]? with | some b => some (.int .u8 b.toNat) | none => none) else none
  | _, _ => none
 | _ => none
def oB (x : Value) (i : Nat) : Option Value :=
 match x with
 | .tuple vs => vs[i]?
 | _ => none
def rB (H : ah) (t : TypeId) (len cap : Value) : Option (Value × ah) :=
 match P.underlying t, len, cap with
 | some (.slice elem), .int _ l, .int _ c =>
  match P.info? elem with
  | some i =>
   match i.zero with
   | some z =>
    if 0 <= l /\ l <= c /\ (i.bytes : Int) * c <= 140737488355328 /\ c <= 9223372036854775807 then
     match fl z with
     | some zc => if zc.length = i.size then some (.slice (some ⟨H.size, 0, none⟩) l.toNat c.toNat, aL H (List.replicate c.toNat zc).flatten) else none
     | none => none
    else none
   | none => none
  | none => none
 | _, _, _ => none
def aX (H : ah) (size n : Nat) : Value -> Option (List Value)
 | .slice none _ _ => if n = 0 then some [] else none
 | .slice (some ⟨b, off, _⟩) _ _ => ct H b off (n * size)
 | _ => none
def et (H : ah) (t u : TypeId) (s x : Value) : Option (Value × ah) :=
 if t = u then
 match P.underlying t, s, x with
 | some (.slice elem), .slice base sLen sCap, .slice _ n _ =>
  match P.info? elem with
  | some i =>
   match i.zero with
   | some z =>
    match fl z, aX H i.size n x with
    | some zc, some new =>
     if zc.length = i.size /\ 0 < i.size /\ sLen <= sCap /\ sLen + n < 1099511627776 /\ (sLen + n) * i.bytes < 35184372088832 then
      match n with
      | 0 => some (s, H)
      | _ + 1 =>
       match base with
       | none => some (.slice (some ⟨H.size, 0, some i.size⟩) n n, aL H new)
       | some ⟨b, off, sp⟩ =>
        match decide (sLen + n <= sCap) with
        | true => (dv H b (off + sLen * i.size) new).map fun H' => (.slice base (sLen + n) sCap, H')
        | false =>
         match aX H i.size sLen s with
         | some old =>
          match sp with
          | some e =>
           match H.get b with
           | some k =>
            if H.nW b k && e == i.size && off == 0 && k.cells.length == sLen * i.size && 0 < sLen then
             some (.slice (some ⟨H.size, 0, some i.size⟩) (sLen + n) (sLen + n), aL (H.put b none) (old ++ new))
            else none
           | none => none
          | none => some (.slice (some ⟨H.size, 0, some i.size⟩) (sLen + n) (sLen + n), aL H (old ++ new))
         | none => none
     else none
    | _, _ => none
   | none => none
  | none => none
 | _, _, _ => none
 else none
def ny (H : ah) (t _u : TypeId) (d s : Value) : Option (Value × ah) :=
 match P.underlying t, d, s with
 | some (.slice elem), .slice db dLen _, .slice _ sLen _ =>
  match P.info? elem with
  | some i =>
   match aX H i.size (min sLen dLen) s with
   | some [] => some (.int .i64 (min sLen dLen : Nat), H)
   | some cs =>
    match db with
    | none => none
    | some ⟨b, off, _⟩ => (dv H b off cs).map fun H' => (.int .i64 (min sLen dLen : Nat), H')
   | none => none
  | none => none
 | _, _, _ => none
def Cj : Option Value -> Value -> Option Value
 | some (.int k x), .int _ y => some (.int k (if y < x then y else x))
 | _, _ => none
def AQ : Option Value -> Value -> Option Value
 | some (.int k x), .int _ y => some (.int k (if x < y then y else x))
 | _, _ => none
def JC : List Value -> Option Value
 | .int k x :: rest => rest.foldl Cj (some (.int k x))
 | _ => none
def Lp : List Value -> Option Value
 | .int k x :: rest => rest.foldl AQ (some (.int k x))
 | _ => none
def gm (H : ah) (b : Builtin) (ts : Array TypeId) (args : List Value) : Option (Value × ah) :=
 match b with
 | .append =>
  match ts.toList, args with
  | [t, u], [s, x] => et P H t u s x
  | _, _ => none
 | .copy =>
  match ts.toList, args with
  | [t, u], [d, s] => ny P H t u d s
  | _, _ => none
 | .len =>
  match ts.toList, args with
  | [t], [x] =>
   match P.underlying t, x with
   | some (.slice _), .slice _ n _ => some (.int .i64 n, H)
   | some (.array n _), _ => some (.int .i64 n, H)
   | some .string, .string s => some (.int .i64 s.size, H)
   | _, _ => none
  | _, _ => none
 | .cap =>
  match ts.toList, args with
  | [t], [.slice none 0 0] => match P.underlying t with | some (.slice _) => some (.int .i64 0, H) | _ => none
  | [t], [.slice (some ⟨_, _, none⟩) _ c] =>
   match P.underlying t with
   | some (.slice _) => some (.int .i64 c, H)
   | _ => none
  | _, _ => none
 | .min => (JC args).map (·, H)
 | .max => (Lp args).map (·, H)
 | _ => none
def qf (t : TypeId) (parts : List (Nat × Value)) : Option Value :=
 match ((P.info? t).bind (·.zero)).bind fl with
 | some _ => (P.built t parts).map .agg
 | none => none
def dS (H : ah) (t : TypeId) (len : Nat) (parts : List (Nat × Value)) : Option (Value × ah) :=
 match P.underlying t with
 | some (.slice elem) =>
  match P.info? elem with
  | some i =>
   match i.zero with
   | some z =>
    match fl z with
    | some zc =>
     if len * i.size <= 16777216 /\ zc.length = i.size then
      match Instr.fill (fun j => some (j * i.size, i.size)) (List.replicate len zc).flatten.toArray parts with
      | some cs => some (.slice (some ⟨H.size, 0, none⟩) len len, aL H cs.toList)
      | none => none
     else none
    | none => none
   | none => none
  | none => none
 | _ => none
def lD : Value -> Option Value
 | .tuple _ => none
 | v => some v
def mB (ρ : Operand -> Option Value) : List (Nat × Operand) -> Option (List (Nat × Value))
 | [] => some []
 | (i, x) :: r =>
  match (ρ x).bind lD, mB ρ r with
  | some v, some vs => some ((i, v) :: vs)
  | _, _ => none
def nD (ρ : Operand -> Option Value) : List Operand -> Option (List Value)
 | [] => some []
 | x :: r =>
  match ρ x, nD ρ r with
  | some v, some vs => some (v :: vs)
  | _, _ => none
def DN (ρ : Operand -> Option Value) : Option Operand -> Option (Option Value)
 | none => some none
 | some x => (ρ x).map some
variable (cl : FuncId -> List Value -> ah -> Option (Value × ah))
def opE (ρ : Operand -> Option Value) (o : Oper) (H : ah) : Option (Value × ah) :=
 match o.op with
 | .move x => (ρ x).map (·, H)
 | .assign x => (ρ x).map (·, H)
 | .pick c a b =>
  match ρ c with
  | some (.bool t) => (match t with | true => ρ a | false => ρ b).map (·, H)
  | _ => none
 | .alloc e =>
  match (P.info? e).bind (·.zero) with
  | some z => (fl z).map fun cs => (ptr H.size 0, aL H cs)
  | none => none
 | .box _ x => ((ρ x).bind bo).map fun cs => (ptr H.size 0, aL H cs)
 | .build t ps => ((mB ρ ps.toList).bind (qf P t)).map (·, H)
 | .buildSlice t n ps => (mB ρ ps.toList).bind (dS P H t n)
 | .load t a => ((ρ a).bind (cd P H t)).map (·, H)
 | .store t a x =>
  match ρ a, ρ x with
  | some p, some v => (mE P H t p v).map (undef, ·)
  | _, _ => none
 | .nilCheck x =>
  match ρ x with
  | some (.pointer (some a)) => some (.pointer (some a), H)
  | some (.slice a n c) => some (.slice a n c, H)
  | some (.func (.func f) x y) => some (.func (.func f) x y, H)
  | _ => none
 | .binOp op t x y _ =>
  match ρ x, ρ y with
  | some a, some b => (gD P op t a b).map (·, H)
  | _, _ => none
 | .unOp op _ x => ((ρ x).bind (unE op)).map (·, H)
 | .convert s d x => ((ρ x).bind (AW P s d)).map (·, H)
 | .makeFunc fn a b =>
  match fn, nD ρ a.toList, nD ρ b.toList with
  | .func f, some x, some y => some (.func (.func f) x.toArray y.toArray, H)
  | _, _, _ => none
 | .makeSlice t l c =>
  match ρ l, ρ c with
  | some a, some b => rB P H t a b
  | _, _ => none
 | .slice t x lo hi none =>
  match ρ x, DN ρ lo, DN ρ hi with
  | some v, some l, some h => (ov P t v l h).map (·, H)
  | _, _, _ => none
 | .fieldAddr s x f => ((ρ x).bind (gQ P s · f)).map (·, H)
 | .field s x f => ((ρ x).bind (v3 P s · f)).map (·, H)
 | .indexAddr t x i =>
  match ρ x, ρ i with
  | some v, some j => (dA P t v j).map (·, H)
  | _, _ => none
 | .index t x i =>
  match ρ x, ρ i with
  | some v, some j => (ma P t v j).map (·, H)
  | _, _ => none
 | .extract x i => ((ρ x).bind (oB · i)).map (·, H)
 | .call c =>
  match nD ρ c.args.toList with
  | some args =>
   match c.callee with
   | .builtin b => gm P H b c.argTypes args
   | .value f =>
    match ρ f with
    | some (.func (.func g) x y) => cl g (x.toList ++ args ++ y.toList) H
    | _ => none
   | .invoke .. => none
  | none => none
 | _ => none
def dy (ops : Array Oper) (fr : List Value) (o : Oper) : Bool :=
 match o.guard with
 | none => true
 | some (j, want) =>
  match ((ops[j]?).bind (·.dst)).bind (fr[·]?) with
  | some (.bool b) => b == want
  | _ => false
def gp (fr : List Value) : Option Tmp -> Value -> List Value
 | none, _ => fr
 | some d, v => fr.set d v
def iR (ops : Array Oper) : List Oper -> St -> Option St
 | [], s => some s
 | o :: r, s =>
  match dy ops s.fr o with
  | true =>
   match opE P cl (dj s.fr) o s.hp with
   | some (v, H) => iR ops r ⟨gp s.fr o.dst v, H⟩
   | none => none
  | false => iR ops r ⟨gp s.fr o.dst undef, s.hp⟩
end
end
end Go.Proofs.YtdbkoeefnodejaaGreat.Ev
namespace Go.Proofs.YtdbkoeefnodejaaGreat.Ev
noncomputable section
open Go
theorem Tr.dY (b : Option Blk) : ∀ (f : Nat) (t : Tr) (k j : Nat), k < f -> (Tr.put b f t k).get j = if j = k then b else t.get j := by
 intro f
 induction f with
 | zero => intro t k j h; omega
 | succ f ih =>
  intro t k j h; have tl : ∀ m, t.left.get m = (match t with | .e => none | .n _ l _ => l.get m) := by intro m; cases t <;> rfl
  have tr : ∀ m, t.right.get m = (match t with | .e => none | .n _ _ r => r.get m) := by intro m; cases t <;> rfl
  simp only [Tr.put]
  by_cases h0 : k = 0
  · subst h0; simp only [if_true, Tr.get]
    by_cases hj : j = 0
    · simp [hj]
    · simp only [hj, if_false, tl, tr]; cases t <;> simp [Tr.get, hj]
  · simp only [h0, if_false]
    by_cases h1 : k % 2 = 1
    · simp only [h1, if_true, Tr.get]
      by_cases hj : j = 0
      · subst hj; simp only [if_true]; rw [if_neg (by omega)]; cases t <;> simp [Tr.get, Tr.val]
      · simp only [hj, if_false]
        by_cases hj1 : j % 2 = 1
        · simp only [hj1, if_true]; rw [ih _ _ _ (by omega)]
          by_cases e : j = k
          · subst e; simp
          · rw [if_neg (by omega), if_neg e, tl]; cases t <;> simp [Tr.get, hj, hj1]
        · simp only [hj1, if_false, tr]; rw [if_neg (by omega)]; cases t <;> simp [Tr.get, hj, hj1]
    · simp only [h1, if_false, Tr.get]
      by_cases hj : j = 0
      · subst hj; simp only [if_true]; rw [if_neg (by omega)]; cases t <;> simp [Tr.get, Tr.val]
      · simp only [hj, if_false]
        by_cases hj1 : j % 2 = 1
        · simp only [hj1, if_true, tl]; rw [if_neg (by omega)]; cases t <;> simp [Tr.get, hj, hj1]
        · simp only [hj1, if_false]; rw [ih _ _ _ (by omega)]
          by_cases e : j = k
          · subst e; simp
          · rw [if_neg (by omega), if_neg e, tr]; cases t <;> simp [Tr.get, hj, hj1]
theorem ah.bX (H : ah) (b : Blk) (k : Nat) : (H.push b).root.get k = if k = H.size then some b else H.root.get k :=
 Tr.dY _ _ _ _ _ (Nat.lt_succ_self _)
theorem ah.cz (H : ah) (j : Nat) (b : Option Blk) (k : Nat) : (H.put j b).root.get k = if k = j then b else H.root.get k :=
 Tr.dY _ _ _ _ _ (Nat.lt_succ_self _)
@[simp] theorem ah.size_push (H : ah) (b : Blk) : (H.push b).size = H.size + 1 := rfl
@[simp] theorem ah.Rr (H : ah) (j : Nat) (b : Option Blk) : (H.put j b).size = H.size := rfl
@[simp] theorem ah.Qe (H : ah) (b : Blk) : (H.push b).lock = H.lock := rfl
@[simp] theorem ah.RR (H : ah) (j : Nat) (b : Option Blk) : (H.put j b).lock = H.lock := rfl
@[simp] theorem ah.RQ (H : ah) (b : Blk) : (H.push b).hid = H.hid := rfl
@[simp] theorem ah.Sa (H : ah) (j : Nat) (b : Option Blk) : (H.put j b).hid = H.hid := rfl
theorem ah.bh {H : ah} {k : Nat} {b : Blk} (h : H.get k = some b) : k < H.size := by
 unfold ah.get at h
 split at h
 · assumption
 · cases h
theorem ah.aQ {H : ah} {k : Nat} {b : Blk} (h : H.get k = some b) : H.root.get k = some b /\ hidden H.hid k = false := by
 unfold ah.get at h
 split at h
 · split at h
   · cases h
   · rename_i hh; exact ⟨h, by cases hx : hidden H.hid k <;> simp_all⟩
 · cases h
theorem ah.eH (H : ah) (j k : Nat) (b : Option Blk) (h : k ≠ j) : (H.put j b).get k = H.get k := by
 simp [ah.get, ah.cz, h]
theorem ah.gk (H : ah) (j : Nat) (b : Option Blk) {c : Blk} (hb : H.get j = some c) : (H.put j b).get j = b := by
 have := ah.aQ hb; simp [ah.get, ah.cz, this.2, ah.bh hb]
theorem ah.eC (H : ah) (b : Blk) (k : Nat) (h : k < H.size) : (H.push b).get k = H.get k := by
 have h1 : k ≠ H.size := by omega
 have h2 : k < H.size + 1 := by omega
 simp [ah.get, ah.bX, h, h1, h2]
structure Loc where
 blk : Nat
 off : Nat
 room : Nat
abbrev Fm := Nat -> Option Loc
inductive V (f : Fm) : Value -> Value -> Prop where
 | bool (b : Bool) : V f (.bool b) (.bool b)
 | int (k : IntKind) (n : Int) : V f (.int k n) (.int k n)
 | str (s : ByteArray) : V f (.string s) (.string s)
 | yV : V f (.pointer none) (.pointer none)
 | dF : V f (.slice none 0 0) (.slice none 0 0)
 | nilFunc : V f .nilFunc .nilFunc
 | nilIface : V f .nilIface .nilIface
 | ptr (b off : Nat) (l : Loc) (h : f b = some l) : V f (.pointer (some ⟨b, off, none⟩)) (.pointer (some ⟨l.blk, l.off + off, none⟩))
 | slX (b off n c : Nat) (l : Loc) (a : Addr) (h : f b = some l) (ha : a = ⟨l.blk, l.off + off, none⟩ \/ (n = 0 /\ c = 0)) :
  V f (.slice (some ⟨b, off, none⟩) n c) (.slice (some a) n c)
 | slL (b off e n c off' c' : Nat) (l : Loc) (h : f b = some l) (hn : n <= c) (hc : c <= c')
  (hr : off' + c' * e <= l.room) (ho : 0 < c -> off' = l.off + off) :
  V f (.slice (some ⟨b, off, some e⟩) n c) (.slice (some ⟨l.blk, off', none⟩) n c')
 | func (g : FuncId) (x x' y y' : Array Value) (hx : x.size = x'.size) (hy : y.size = y'.size)
  (vx : ∀ (i : Nat) v v', x[i]? = some v -> x'[i]? = some v' -> V f v v') (vy : ∀ (i : Nat) v v', y[i]? = some v -> y'[i]? = some v' -> V f v v') :
  V f (.func (.func g) x y) (.func (.func g) x' y')
 | agg (x x' : Array Value) (hx : x.size = x'.size) (hc : ∀ (i : Nat) v, x[i]? = some v -> bf v = true)
  (vx : ∀ (i : Nat) v v', x[i]? = some v -> x'[i]? = some v' -> V f v v') : V f (.agg x) (.agg x')
 | tuple (x x' : Array Value) (hx : x.size = x'.size) (vx : ∀ (i : Nat) v v', x[i]? = some v -> x'[i]? = some v' -> V f v v') : V f (.tuple x) (.tuple x')
def Le (f g : Fm) : Prop := ∀ x l, f x = some l -> g x = some l
theorem Le.refl (f : Fm) : Le f f := fun _ _ h => h
theorem Le.trans {f g h : Fm} (a : Le f g) (b : Le g h) : Le f h := fun x l e => b x l (a x l e)
theorem V.mono {f g : Fm} (hle : Le f g) {v v' : Value} (h : V f v v') : V g v v' := by
 induction h with
 | bool b => exact .bool b
 | int k n => exact .int k n
 | str s => exact .str s
 | yV => exact .yV
 | dF => exact .dF
 | nilFunc => exact .nilFunc
 | nilIface => exact .nilIface
 | ptr b off l h => exact .ptr b off l (hle _ _ h)
 | slX b off n c l a h ha => exact .slX b off n c l a (hle _ _ h) ha
 | slL b off e n c off' c' l h hn hc hr ho => exact .slL b off e n c off' c' l (hle _ _ h) hn hc hr ho
 | func g x x' y y' hx hy _ _ ix iy => exact .func g x x' y y' hx hy ix iy
 | agg x x' hx hc _ ix => exact .agg x x' hx hc ix
 | tuple x x' hx _ ix => exact .tuple x x' hx ix
theorem V.cell {f : Fm} {v v' : Value} (h : V f v v') : bf v' = bf v := by cases h <;> rfl
theorem nO {v : Value} (h : bf v = true) : v.oneCell' = true := by cases v <;> simp_all [bf, Value.oneCell']
theorem V.undef (f : Fm) : V f Go.undef Go.undef := .tuple _ _ rfl (fun i v v' h _ => by simp at h)
theorem V.fw (f : Fm) {v : Value} (h : Ev.fw v = true) : V f v v := by
 unfold Ev.fw at h
 split at h <;> first | constructor | cases h
def VL (f : Fm) (xs ys : List Value) : Prop := xs.length = ys.length /\ ∀ (i : Nat) v v', xs[i]? = some v -> ys[i]? = some v' -> V f v v'
theorem VL.nil (f : Fm) : VL f [] [] := ⟨rfl, fun i v v' h => by simp at h⟩
theorem VL.cons {f : Fm} {v v' : Value} {xs ys : List Value} (h : V f v v') (t : VL f xs ys) : VL f (v :: xs) (v' :: ys) :=
 ⟨by simp [t.1], fun i => by
  cases i with
  | zero => intro u u' h1 h2; simp at h1 h2; subst h1; subst h2; exact h
  | succ i => intro u u' h1 h2; simp at h1 h2; exact t.2 i u u' h1 h2⟩
theorem VL.append {f : Fm} {a b c d : List Value} (h : VL f a b) (k : VL f c d) : VL f (a ++ c) (b ++ d) := by
 refine ⟨by simp [h.1, k.1], fun i v v' h1 h2 => ?_⟩; rw [List.getElem?_append] at h1 h2; rw [h.1] at h1
 split at h1
 · rename_i hi; rw [if_pos hi] at h2; exact h.2 i v v' h1 h2
 · rename_i hi; rw [if_neg hi] at h2; exact k.2 _ v v' h1 h2
theorem VL.mono {f g : Fm} (hle : Le f g) {xs ys : List Value} (h : VL f xs ys) : VL g xs ys := ⟨h.1, fun i v v' a b => (h.2 i v v' a b).mono hle⟩
theorem VL.get {f : Fm} {xs ys : List Value} (h : VL f xs ys) {i : Nat} {v : Value} (hi : xs[i]? = some v) : ∃ v', ys[i]? = some v' /\ V f v v' := by
 have hlt : i < ys.length := by rw [<- h.1]; exact (List.getElem?_eq_some_iff.1 hi).1
 exact ⟨ys[i], List.getElem?_eq_getElem hlt, h.2 i _ _ hi (List.getElem?_eq_getElem hlt)⟩
theorem VL.take {f : Fm} {xs ys : List Value} (h : VL f xs ys) (n : Nat) : VL f (xs.take n) (ys.take n) := by
 refine ⟨by simp [h.1], fun i v v' h1 h2 => ?_⟩; rw [List.getElem?_take] at h1 h2
 split at h1
 · rename_i hi; rw [if_pos hi] at h2; exact h.2 i v v' h1 h2
 · cases h1
theorem VL.drop {f : Fm} {xs ys : List Value} (h : VL f xs ys) (n : Nat) : VL f (xs.drop n) (ys.drop n) := by
 refine ⟨by simp [h.1], fun i v v' h1 h2 => ?_⟩; rw [List.getElem?_drop] at h1 h2; exact h.2 _ v v' h1 h2
theorem VL.set {f : Fm} {xs ys : List Value} (h : VL f xs ys) (i : Nat) {v v' : Value} (hv : V f v v') : VL f (xs.set i v) (ys.set i v') := by
 refine ⟨by simp [h.1], fun j u u' h1 h2 => ?_⟩; rw [List.getElem?_set] at h1 h2; rw [h.1] at h1
 split at h1
 · rename_i e; rw [if_pos e] at h2
   split at h1
   · rename_i hl; rw [if_pos hl] at h2; simp at h1 h2; subst h1; subst h2; exact hv
   · cases h1
 · rename_i e; rw [if_neg e] at h2; exact h.2 j u u' h1 h2
theorem VL.Gz {f : Fm} {x x' : Array Value} (h : V f (.agg x) (.agg x')) : VL f x.toList x'.toList /\ ∀ v ∈ x.toList, bf v = true := by
 cases h with
 | agg _ _ hx hc vx =>
  refine ⟨⟨by simpa using hx, fun i v v' a b => vx i v v' (by simpa using a) (by simpa using b)⟩, fun v hv => ?_⟩; obtain ⟨i, hi⟩ := List.getElem?_of_mem hv; exact hc i v (by simpa using hi)
theorem V.zh {f : Fm} {x x' : List Value} (h : VL f x x') (hc : ∀ v ∈ x, bf v = true) : V f (.agg x.toArray) (.agg x'.toArray) :=
 .agg _ _ (by simpa using h.1) (fun i v a => hc v (List.mem_of_getElem? (by simpa using a))) (fun i v v' a b => h.2 i v v' (by simpa using a) (by simpa using b))
theorem V.bo {f : Fm} {v v' : Value} {cs : List Value} (h : V f v v') (hc : Ev.bo v = some cs) : VL f cs v'.cells.toList /\ ∀ u ∈ cs, bf u = true := by
 cases h with
 | agg x x' hx hcx vx =>
  simp [Ev.bo] at hc; subst hc; exact VL.Gz (.agg x x' hx hcx vx)
 | tuple => simp [Ev.bo] at hc
 | bool b => simp [Ev.bo] at hc; subst hc; exact ⟨.cons (.bool b) (.nil f), by simp [bf]⟩
 | int k n => simp [Ev.bo] at hc; subst hc; exact ⟨.cons (.int k n) (.nil f), by simp [bf]⟩
 | str s => simp [Ev.bo] at hc; subst hc; exact ⟨.cons (.str s) (.nil f), by simp [bf]⟩
 | yV => simp [Ev.bo] at hc; subst hc; exact ⟨.cons .yV (.nil f), by simp [bf]⟩
 | dF => simp [Ev.bo] at hc; subst hc; exact ⟨.cons .dF (.nil f), by simp [bf]⟩
 | nilFunc => simp [Ev.bo] at hc; subst hc; exact ⟨.cons .nilFunc (.nil f), by simp [bf]⟩
 | nilIface => simp [Ev.bo] at hc; subst hc; exact ⟨.cons .nilIface (.nil f), by simp [bf]⟩
 | ptr b off l h => simp [Ev.bo] at hc; subst hc; exact ⟨.cons (.ptr b off l h) (.nil f), by simp [bf]⟩
 | slX b off n c l a h ha => simp [Ev.bo] at hc; subst hc; exact ⟨.cons (.slX b off n c l a h ha) (.nil f), by simp [bf]⟩
 | slL b off e n c off' c' l h hn hc' hr ho => simp [Ev.bo] at hc; subst hc; exact ⟨.cons (.slL b off e n c off' c' l h hn hc' hr ho) (.nil f), by simp [bf]⟩
 | func g x x' y y' hx hy vx vy => simp [Ev.bo] at hc; subst hc; exact ⟨.cons (.func g x x' y y' hx hy vx vy) (.nil f), by simp [bf]⟩
structure R (f : Fm) (H : ah) (w : World) : Prop where
 blk : ∀ x b, H.get x = some b -> ∃ l C e fr, f x = some l /\ w.heap[l.blk]? = some (.cells C e fr) /\
  (∀ (i : Nat) v, b.cells[i]? = some v -> bf v = true /\ ∃ v', C[l.off + i]? = some v' /\ V f v v') /\
  (H.nW x b = true -> fr = (0, 0) /\ l.room <= C.size)
 big : ∀ x l, f x = some l -> l.blk < w.heap.size
 lk : H.lock <= H.size
 inj : ∀ x y b c l m, H.get x = some b -> H.get y = some c -> H.nW x b = true -> x ≠ y -> f x = some l -> f y = some m -> l.blk ≠ m.blk
def ft (f : Fm) (H : ah) (cb : Nat) : Prop := ∃ x b l, H.get x = some b /\ H.nW x b = true /\ f x = some l /\ l.blk = cb
structure Stp (f : Fm) (H : ah) (w : World) (f' : Fm) (H' : ah) (w' : World) : Prop where
 le : Le f f'
 out : ∀ x, ¬ (H.size <= x /\ x < H'.size) -> f' x = f x
 size : H.size <= H'.size
 lock : H'.lock = H.lock
 hid : H'.hid = H.hid
 root : ∀ x, x < H.size -> x < H.lock -> H'.root.get x = H.root.get x
 fK : w.heap.size <= w'.heap.size
 os : w'.os = w.os
 tape : w'.tape = w.tape
 output : w'.output = w.output
 fX : ∀ cb, cb < w.heap.size -> ¬ ft f H cb -> w'.heap[cb]? = w.heap[cb]?
 own : ∀ cb, cb < w.heap.size -> ft f' H' cb -> ft f H cb
theorem Stp.refl (f : Fm) (H : ah) (w : World) : Stp f H w f H w :=
 ⟨.refl f, fun _ _ => rfl, Nat.le_refl _, rfl, rfl, fun _ _ _ => rfl, Nat.le_refl _, rfl, rfl, rfl, fun _ _ _ => rfl, fun _ _ h => h⟩
theorem Stp.trans {f g h : Fm} {A B C : ah} {u v w : World} (a : Stp f A u g B v) (b : Stp g B v h C w) : Stp f A u h C w where
 le := a.le.trans b.le
 out x hx := by
  have := a.size; have := b.size; rw [b.out x (by omega), a.out x (by omega)]
 size := Nat.le_trans a.size b.size
 lock := b.lock.trans a.lock
 hid := b.hid.trans a.hid
 root x h1 h2 := (b.root x (Nat.lt_of_lt_of_le h1 a.size) (by rw [a.lock]; exact h2)).trans (a.root x h1 h2)
 fK := Nat.le_trans a.fK b.fK
 os := b.os.trans a.os
 tape := b.tape.trans a.tape
 output := b.output.trans a.output
 fX cb h1 h2 := (b.fX cb (Nat.lt_of_lt_of_le h1 a.fK) (fun h => h2 (a.own cb h1 h))).trans (a.fX cb h1 h2)
 own cb h1 h2 := a.own cb h1 (b.own cb (Nat.lt_of_lt_of_le h1 a.fK) h2)
theorem Stp.drew {f f' : Fm} {H H' : ah} {w w' : World} (h : Stp f H w.drew f' H' w') : Stp f H w f' H' w' :=
 ⟨h.le, h.out, h.size, h.lock, h.hid, h.root, h.fK, h.os, h.tape, h.output, h.fX, h.own⟩
theorem R.drew {f : Fm} {H : ah} {w : World} (h : R f H w) : R f H w.drew := ⟨h.blk, h.big, h.lk, h.inj⟩
theorem aU {H : ah} {x : Nat} {b : Blk} : H.nW x b = true ↔ H.lock <= x := by simp [ah.nW]
theorem R.cells {f : Fm} {H : ah} {w : World} (h : R f H w) {b off n : Nat} {cs : List Value} (hg : ct H b off n = some cs) :
 cs.length = n /\ ∃ l C e fr, f b = some l /\ w.heap[l.blk]? = some (.cells C e fr) /\
  ∃ cs', VL f cs cs' /\ (∀ u ∈ cs, bf u = true) /\ ∀ (j : Nat) v, cs'[j]? = some v -> C[l.off + off + j]? = some v := by
 unfold ct at hg; cases hb : H.get b with
 | none => simp [hb] at hg
 | some k =>
  simp only [hb] at hg
  split at hg
  · rename_i hl; cases hg; obtain ⟨l, C, e, fr, hf, hw, hc, _⟩ := h.blk b k hb; have hlen : ((k.cells.drop off).take n).length = n := by simp; omega
    refine ⟨hlen, l, C, e, fr, hf, hw, ((List.range n).map fun j => C.getD (l.off + off + j) Go.undef), ⟨by simp; omega, ?_⟩, ?_, ?_⟩
    · intro i v v' h1 h2; rw [List.getElem?_take] at h1
      split at h1
      · rename_i hi; rw [List.getElem?_drop] at h1; obtain ⟨_, v'', hv'', hV⟩ := hc _ v h1; simp [hi] at h2; rw [show l.off + (off + i) = l.off + off + i by omega] at hv''; simp [hv''] at h2; subst h2; exact hV
      · cases h1
    · intro u hu; obtain ⟨i, hi⟩ := List.getElem?_of_mem hu; rw [List.getElem?_take] at hi
      split at hi
      · rw [List.getElem?_drop] at hi; exact (hc _ u hi).1
      · cases hi
    · intro j v hj; have hjn : j < n := by
       have := (List.getElem?_eq_some_iff.1 hj).1; simpa using this
      have h1 : k.cells[off + j]? = some k.cells[off + j] := List.getElem?_eq_getElem (by omega); obtain ⟨_, v'', hv'', _⟩ := hc _ _ h1; rw [show l.off + (off + j) = l.off + off + j by omega] at hv''; simp [hjn, hv''] at hj; subst hj; exact hv''
  · cases hg
theorem sk (w : World) (o : Obj) : (w.alloc o).heap[w.heap.size]? = some o := by
 show (w.heap.push o)[w.heap.size]? = _; simp
theorem lJ (w : World) (o : Obj) {k : Nat} (h : k < w.heap.size) : (w.alloc o).heap[k]? = w.heap[k]? := by
 show (w.heap.push o)[k]? = _; rw [Array.getElem?_push, if_neg (by omega)]
theorem R.push {f : Fm} {H : ah} {w : World} (h : R f H w) (hfree : f H.size = none) (room : Nat) (cs : List Value) (C : Array Value) (e : TypeId)
 (hc : ∀ u ∈ cs, bf u = true) (hv : ∀ (i : Nat) v, cs[i]? = some v -> ∃ v', C[i]? = some v' /\ V f v v') (hr : room <= C.size) :
 ∃ f', f' H.size = some ⟨w.heap.size, 0, room⟩ /\ Stp f H w f' (aL H cs) (w.alloc (.cells C e)) /\ R f' (aL H cs) (w.alloc (.cells C e)) := by
 let f' : Fm := fun x => if x = H.size then some ⟨w.heap.size, 0, room⟩ else f x
 have hle : Le f f' := by
  intro x l hx
  by_cases e : x = H.size
  · subst e; rw [hfree] at hx; cases hx
  · simp [f', e, hx]
 have hsz : (w.alloc (.cells C e)).heap.size = w.heap.size + 1 := by show (w.heap.push _).size = _; simp
 have hold : ∀ x b, (aL H cs).get x = some b -> x ≠ H.size -> H.get x = some b /\ f' x = f x := by
  intro x b hx hne; have hlt : x < H.size := by have := ah.bh hx; simp [aL] at this; omega
  refine ⟨?_, by simp [f', hne]⟩
  rwa [aL, ah.eC _ _ _ hlt] at hx
 have hnew : ∀ b, (aL H cs).get H.size = some b -> b = ⟨cs⟩ := by
  intro b hb; have := (ah.aQ hb).1; rw [aL, ah.bX] at this; simpa using this.symm
 have hf0 : f' H.size = some ⟨w.heap.size, 0, room⟩ := by simp [f']
 refine ⟨f', hf0, ⟨hle, ?_, ?_, rfl, rfl, ?_, by omega, rfl, rfl, rfl, ?_, ?_⟩, ⟨?_, ?_, ?_, ?_⟩⟩
 · intro x hx; simp [aL] at hx
   by_cases e : x = H.size
   · omega
   · simp [f', e]
 · simp [aL]
 · intro x hx _; rw [aL, ah.bX, if_neg (by omega)]
 · intro cb hcb _; exact lJ w _ hcb
 · intro cb hcb ⟨x, b, l, hx, hm, hl, hb⟩
   by_cases e : x = H.size
   · subst e; rw [hf0] at hl; cases hl; simp at hb; omega
   · obtain ⟨h1, h2⟩ := hold x b hx e; exact ⟨x, b, l, h1, by simpa [aU, aL] using hm, by rw [<- h2]; exact hl, hb⟩
 · intro x b hx
   by_cases e : x = H.size
   · subst e; have := hnew b hx; subst this; refine ⟨_, C, _, _, hf0, sk w _, ?_, ?_⟩
     · intro i v hi; obtain ⟨v', h1, h2⟩ := hv i v hi; exact ⟨hc v (List.mem_of_getElem? hi), v', by simpa using h1, h2.mono hle⟩
     · intro _; exact ⟨rfl, hr⟩
   · obtain ⟨h1, h2⟩ := hold x b hx e; obtain ⟨l, C', e', fr, hf, hw, hcs, hm⟩ := h.blk x b h1; refine ⟨l, C', e', fr, by rw [h2]; exact hf, ?_, ?_, ?_⟩
     · rw [lJ w _ (h.big x l hf)]; exact hw
     · intro i v hi; obtain ⟨a1, v', a2, a3⟩ := hcs i v hi; exact ⟨a1, v', a2, a3.mono hle⟩
     · intro hmm; exact hm (by simpa [aU, aL] using hmm)
 · intro x l hx; rw [hsz]
   by_cases e : x = H.size
   · subst e; rw [hf0] at hx; cases hx; simp
   · have := h.big x l (by simpa [f', e] using hx); omega
 · have := h.lk; simp [aL]; omega
 · intro x y b c l m hx hy hm hne hl hmm
   by_cases ex : x = H.size
   · subst ex; rw [hf0] at hl; cases hl; obtain ⟨h1, h2⟩ := hold y c hy (Ne.symm hne); have := h.big y m (by rw [<- h2]; exact hmm); simp; omega
   · obtain ⟨h1, h2⟩ := hold x b hx ex
     by_cases ey : y = H.size
     · subst ey; rw [hf0] at hmm; cases hmm; have := h.big x l (by rw [<- h2]; exact hl); simp; omega
     · obtain ⟨h3, h4⟩ := hold y c hy ey; exact h.inj x y b c l m h1 h3 (by simpa [aU, aL] using hm) hne (by rw [<- h2]; exact hl) (by rw [<- h4]; exact hmm)
theorem R.store {f : Fm} {H H' : ah} {w : World} (h : R f H w) {b off : Nat} {vs vs' : List Value} (hs : dv H b off vs = some H') (hv : VL f vs vs') (hc : ∀ u ∈ vs, bf u = true) :
 ∃ l C e, f b = some l /\ w.heap[l.blk]? = some (.cells C e (0, 0)) /\ l.off + off + vs'.length <= C.size /\
  Stp f H w f H' (w.setRow l.blk (C.toList.take (l.off + off) ++ vs' ++ C.toList.drop (l.off + off + vs'.length)).toArray) /\
  R f H' (w.setRow l.blk (C.toList.take (l.off + off) ++ vs' ++ C.toList.drop (l.off + off + vs'.length)).toArray) := by
 unfold dv at hs; cases hb : H.get b with
 | none => simp [hb] at hs
 | some k =>
  simp only [hb] at hs
  split at hs
  · rename_i hcond; simp only [Bool.and_eq_true, decide_eq_true_eq] at hcond; obtain ⟨⟨hm, hpos⟩, hlen⟩ := hcond; cases hs; obtain ⟨l, C, e, fr, hf, hw, hcs, hmm⟩ := h.blk b k hb; obtain ⟨hfr, hroom⟩ := hmm hm; subst hfr; have hvl := hv.1; have hCs : ∀ i, i < k.cells.length -> l.off + i < C.size := by
     intro i hi; obtain ⟨_, v', hv', _⟩ := hcs i _ (List.getElem?_eq_getElem hi); exact (Array.getElem?_eq_some_iff.1 hv').1
    have hfit : l.off + off + vs'.length <= C.size := by
     have := hCs (off + vs'.length - 1) (by omega); omega
    let D : Array Value := (C.toList.take (l.off + off) ++ vs' ++ C.toList.drop (l.off + off + vs'.length)).toArray
    have hD : (C.toList.take (l.off + off) ++ vs' ++ C.toList.drop (l.off + off + vs'.length)).toArray = D := rfl; have hDsize : D.size = C.size := by simp [D]; omega
    have hDget : ∀ i, D[l.off + i]? = if i < off then C[l.off + i]? else if i < off + vs'.length then vs'[i - off]? else C[l.off + i]? := by
     intro i; simp only [D, List.getElem?_toArray, List.getElem?_append, List.length_append, List.length_take, Array.length_toList, List.getElem?_take, List.getElem?_drop]; have hmin : min (l.off + off) C.size = l.off + off := by omega
     rw [hmin]
     by_cases h1 : i < off
     · rw [if_pos (by omega), if_pos (by omega), if_pos (by omega), if_pos h1]; simp
     · by_cases h2 : i < off + vs'.length
       · rw [if_pos (by omega), if_neg (by omega), if_neg h1, if_pos h2]; congr 1; omega
       · rw [if_neg (by omega), if_neg h1, if_neg h2]; simp; congr 1; omega
    have hget : ∀ x c, (H.put b (some ⟨k.cells.take off ++ vs ++ k.cells.drop (off + vs.length)⟩)).get x = some c ->
     (x = b /\ c = ⟨k.cells.take off ++ vs ++ k.cells.drop (off + vs.length)⟩) \/ (x ≠ b /\ H.get x = some c) := by
     intro x c hx
     by_cases ex : x = b
     · subst ex; rw [ah.gk H x _ hb] at hx; exact .inl ⟨rfl, (Option.some.inj hx).symm⟩
     · rw [ah.eH _ _ _ _ ex] at hx; exact .inr ⟨ex, hx⟩
    have hmineb : H.nW b k = true := hm; refine ⟨l, C, e, hf, hw, hfit, ?_, ?_⟩
    · refine ⟨.refl f, fun _ _ => rfl, Nat.le_refl _, rfl, rfl, ?_, by simp, rfl, rfl, rfl, ?_, ?_⟩
      · intro x _ hx; rw [ah.cz, if_neg]; intro ex; have := aU.1 hm; omega
      · intro cb _ hn; exact setRow_other w l.blk cb _ (fun ex => hn ⟨b, k, l, hb, hm, hf, ex.symm⟩)
      · intro cb _ ⟨x, c, m, hx, hxm, hfm, hcb⟩; rcases hget x c hx with ⟨rfl, rfl⟩ | ⟨_, hx'⟩
        · exact ⟨x, k, m, hb, by simpa [aU] using hxm, hfm, hcb⟩
        · exact ⟨x, c, m, hx', by simpa [aU] using hxm, hfm, hcb⟩
    · refine ⟨?_, by simpa using h.big, h.lk, ?_⟩
      · intro x c hx; rcases hget x c hx with ⟨rfl, rfl⟩ | ⟨hne, hx'⟩
        · refine ⟨l, D, e, (0, 0), hf, setRow_heap w l.blk C _ e (0, 0) hw, ?_, ?_⟩
          · intro i v hi; rw [hDget i]; simp only [List.getElem?_append, List.length_append, List.length_take, List.getElem?_take, List.getElem?_drop] at hi; have hmin : min off k.cells.length = off := by omega
            rw [hmin] at hi
            by_cases h1 : i < off
            · rw [if_pos (by omega), if_pos h1, if_pos h1] at hi; rw [if_pos h1]; exact hcs i v hi
            · by_cases h2 : i < off + vs.length
              · rw [if_pos (by omega), if_neg h1] at hi; rw [if_neg h1, if_pos (by omega)]; obtain ⟨v', h3, h4⟩ := hv.get hi; exact ⟨hc v (List.mem_of_getElem? hi), v', h3, h4⟩
              · rw [if_neg (by omega)] at hi; rw [if_neg h1, if_neg (by omega)]; have : off + vs.length + (i - (off + vs.length)) = i := by omega
                rw [this] at hi; exact hcs i v hi
          · intro hxm; refine ⟨rfl, ?_⟩; simp only [hDsize]; exact hroom
        · obtain ⟨m, C', e', fr, hfm, hw', hcs', hmm'⟩ := h.blk x c hx'; have hne' : m.blk ≠ l.blk := Ne.symm (h.inj b x k c l m hb hx' hm (Ne.symm hne) hf hfm); exact ⟨m, C', e', fr, hfm, by rw [setRow_other w l.blk m.blk _ hne']; exact hw', hcs', fun hxm => hmm' (by simpa [aU] using hxm)⟩
      · intro x y c d m n hx hy hxm hne hfm hfn; have hx1 : ∃ c', H.get x = some c' /\ H.nW x c' = true := by
         rcases hget x c hx with ⟨rfl, rfl⟩ | ⟨_, hx'⟩
         · exact ⟨k, hb, hm⟩
         · exact ⟨c, hx', by simpa [aU] using hxm⟩
        have hy1 : ∃ d', H.get y = some d' := by
         rcases hget y d hy with ⟨rfl, rfl⟩ | ⟨_, hy'⟩
         · exact ⟨k, hb⟩
         · exact ⟨d, hy'⟩
        obtain ⟨c', hc', hcm⟩ := hx1; obtain ⟨d', hd'⟩ := hy1; exact h.inj x y c' d' m n hc' hd' hcm hne hfm hfn
  · cases hs
end
end Go.Proofs.YtdbkoeefnodejaaGreat.Ev
namespace Go.Proofs.YtdbkoeefnodejaaGreat.Ev
noncomputable section
open Go
section
variable {P : Program} {f : Fm} {H : ah} {w : World}
theorem NO {f : Fm} {xs ys : List Value} (h : VL f xs ys) : ys.length = xs.length := h.1.symm
theorem nd {t : TypeId} {d : TypeDesc} (hu : P.underlying t = some d) : (isAgg t).run P w = .ok (jR d) w := by
 cases d <;> simp [isAgg, run_underlying hu, jR]
theorem cQ {t : TypeId} {i : TypeInfo} (hi : P.info? t = some i) : (sizeOf t).run P w = .ok i.size w := by simp [sizeOf, typeInfo, hi]
theorem Addr.add_eq (b o n : Nat) : (⟨b, o, none⟩ : Addr).add n = ⟨b, o + n, none⟩ := by
 unfold Addr.add
 split
 · rename_i h; subst h; rfl
 · rfl
theorem yO {g : Nat} {C : Array Value} {e : TypeId} {fr : Nat × Nat} (hw : w.heap[g]? = some (.cells C e fr)) (o : Nat) : w.cell? ⟨g, o, none⟩ = C[o]? := by
 simp [World.cell?, hw]
theorem uD {g o : Nat} {C : Array Value} {e : TypeId} {fr : Nat × Nat} (hw : w.heap[g]? = some (.cells C e fr)) (cs : List Value)
 (h : ∀ (j : Nat) v, cs[j]? = some v -> C[o + j]? = some v) : (loadCells ⟨g, o, none⟩ cs.length).run P w = .ok cs.toArray w :=
 run_loadCells_list w _ cs fun j v hj => by rw [Addr.add_eq, yO hw]; exact h j v hj
theorem mo (hR : R f H w) {t : TypeId} {p p' v : Value} (hp : V f p p') (h : cd P H t p = some v) :
 ∃ v', (Instr.loadAt t p').run P w = .ok v' w /\ V f v v' := by
 cases hp <;> try (simp [cd] at h; done)
 case ptr b off l hl =>
  simp only [cd] at h; cases hu : P.underlying t with
  | none => simp [hu] at h
  | some d =>
   cases hi : P.info? t with
   | none => simp [hu, hi] at h
   | some i =>
    simp only [hu, hi] at h; cases ha : jR d with
    | true =>
     simp only [ha, Option.map_eq_some_iff] at h; obtain ⟨cs, hg, rfl⟩ := h; obtain ⟨hlen, l', C, e, fr, hl', hw, cs', hvl, hcell, hc⟩ := hR.cells hg; rw [hl] at hl'; cases hl'; have hr := uD (P := P) hw cs' hc; rw [NO hvl, hlen] at hr; refine ⟨.agg cs'.toArray, ?_, V.zh hvl hcell⟩; simp [Instr.loadAt, Instr.sureAddr, loadVar, nd hu, ha, cQ hi, hr]
    | false =>
     simp only [ha] at h
     split at h
     · rename_i u rest hg; cases h; obtain ⟨hlen, l', C, e, fr, hl', hw, cs', hvl, hcell, hc⟩ := hR.cells hg; rw [hl] at hl'; cases hl'; obtain ⟨v', hv', hV⟩ := hvl.get (i := 0) (by simp; rfl); have := hc 0 v' hv'; refine ⟨v', ?_, hV⟩; simp only [Nat.add_zero] at this; simp [Instr.loadAt, Instr.sureAddr, loadVar, nd hu, ha, run_load, yO hw, this]
     · cases h
theorem Al {t : TypeId} {i : TypeInfo} (hi : P.info? t = some i) {g o : Nat} {C : Array Value} {e : TypeId} (hw : w.heap[g]? = some (.cells C e (0, 0)))
 (v : Value) (hs : v.cells.size = i.size) (hfit : o + v.cells.toList.length <= C.size) (hc : ∀ u ∈ v.cells.toList, bf u = true) :
 (storeVar t ⟨g, o, none⟩ v).run P w = .ok () (w.setRow g (C.toList.take o ++ v.cells.toList ++ C.toList.drop (o + v.cells.toList.length)).toArray) := by
 have := run_storeCells_at P g o e v.cells.toList 0 C w hw (by simpa using hfit) (fun u hu => nO (hc u hu)); simp only [Nat.add_zero] at this; simp [storeVar, cQ hi, hs, this]
theorem yw (hR : R f H w) {t : TypeId} {p p' v v' : Value} {H' : ah} (hp : V f p p') (hv : V f v v') (h : mE P H t p v = some H') :
 ∃ w', (Instr.storeAt t p' v').run P w = .ok () w' /\ Stp f H w f H' w' /\ R f H' w' := by
 cases hp <;> try (simp [mE] at h; done)
 case ptr b off l hl =>
  simp only [mE] at h; cases hcs : bo v with
  | none => simp [hcs] at h
  | some cs =>
   cases hi : P.info? t with
   | none => simp [hcs, hi] at h
   | some i =>
    simp only [hcs, hi] at h
    split at h
    · rename_i hlen; obtain ⟨hvl, hcell⟩ := hv.bo hcs; obtain ⟨l', C, e, hl', hw, hfit, hs, hr⟩ := hR.store h hvl hcell; rw [hl] at hl'; cases hl'; have hcell' : ∀ u ∈ v'.cells.toList, bf u = true := by
       intro u hu; obtain ⟨j, hj⟩ := List.getElem?_of_mem hu; have hjl : j < cs.length := by rw [hvl.1]; exact (List.getElem?_eq_some_iff.1 hj).1
       have h1 := List.getElem?_eq_getElem hjl; rw [(hvl.2 j _ _ h1 hj).cell]; exact hcell _ (List.getElem_mem hjl)
      have hsz : v'.cells.size = i.size := by have := hvl.1; simp at this; omega
      exact ⟨_, by simp only [Instr.storeAt, Instr.sureAddr, Sem.run_bind, Sem.run_pure, Result.andThen_ok]; exact Al hi hw v' hsz hfit hcell', hs, hr⟩
    · cases h
theorem fS {t : TypeId} {x x' : Array Value} {off : Nat} {v : Value} (hx : V f (.agg x) (.agg x')) (h : gH P t x off = some v) :
 ∃ v', (part t x' off).run P w = .ok v' w /\ V f v v' := by
 unfold gH at h; cases hu : P.underlying t with
 | none => simp [hu] at h
 | some d =>
  cases hi : P.info? t with
  | none => simp [hu, hi] at h
  | some i =>
   simp only [hu, hi] at h; obtain ⟨hvl, hcell⟩ := VL.Gz hx; cases ha : jR d with
   | true =>
    simp only [ha] at h
    split at h
    · rename_i hle; cases h; refine ⟨.agg (x'.extract off (off + i.size)), by simp [part, nd hu, ha, cQ hi], ?_⟩; have h1 : x.extract off (off + i.size) = ((x.toList.drop off).take i.size).toArray := by
       apply Array.ext'; simp [List.extract_eq_take_drop]
      have h2 : x'.extract off (off + i.size) = ((x'.toList.drop off).take i.size).toArray := by
       apply Array.ext'; simp [List.extract_eq_take_drop]
      rw [h1, h2]; refine V.zh ((hvl.drop off).take i.size) fun u hu => hcell u (List.mem_of_mem_drop (List.mem_of_mem_take hu))
    · cases h
   | false =>
    simp only [ha] at h; obtain ⟨v', h1, h2⟩ := hvl.get (i := off) (v := v) (by simpa using h); have h1' : x'[off]? = some v' := by simpa using h1
    exact ⟨v', by simp [part, nd hu, ha, h1'], h2⟩
theorem FP : ∀ (d : Nat) (t : TypeId) (x y x' y' : Value) (b : Bool), V f x x' -> V f y y' -> eqE P d t x y = some b -> (Op.equalIn d t x' y').run P w = .ok b w := by
 intro d
 induction d with
 | zero => intro t x y x' y' b _ _ h; simp [eqE] at h
 | succ d ih =>
  intro t x y x' y' b hx hy h; cases hu : P.underlying t with
  | none => simp [eqE, hu] at h
  | some D =>
   cases D <;> cases hx <;> cases hy <;> simp only [eqE, hu] at h <;> try (cases h; done)
   case bool.bool.bool a c => cases h; simp [Op.equalIn, run_underlying hu]
   case int.int.int k a n k' m =>
    split at h
    · rename_i e; cases h; subst e; simp [Op.equalIn, run_underlying hu]
    · cases h
   case struct.agg.agg fs xs xs' hxs hxc hxv ys ys' hys hyc hyv =>
    split at h
    · cases h
    · rename_i hst; have hst' : P.stoodInHeld t = false := by simpa using hst
      have hfo : P.fieldsOf t = fs := by simp [Program.fieldsOf, hu]
      rw [run_equalIn_struct w d t xs' ys' (by rw [hfo]; exact hu) hst', hfo]; generalize fs.toList = l at h
      induction l generalizing b with
      | nil => simp at h; subst h; simp [Op.eqFields]
      | cons fd l ihl =>
       simp only [List.foldr_cons] at h; simp only [Op.eqFields]
       by_cases hn : fd.name ≠ "_"
       · simp only [hn, if_true, ne_eq, not_false_eq_true] at h ⊢; cases h1 : gH P fd.type xs fd.offset with
         | none => simp [h1] at h
         | some a =>
          cases h2 : gH P fd.type ys fd.offset with
          | none => simp [h1, h2] at h
          | some c =>
           simp only [h1, h2] at h; obtain ⟨a', ha', hVa⟩ := fS (w := w) (V.agg xs xs' hxs hxc hxv) h1; obtain ⟨c', hc', hVc⟩ := fS (w := w) (V.agg ys ys' hys hyc hyv) h2; cases h3 : eqE P d fd.type a c with
           | none => simp [h3] at h
           | some r =>
            have h4 := ih fd.type a c a' c' r hVa hVc h3; cases r with
            | true => simp only [h3] at h; simp [ha', hc', h4]; exact ihl b h
            | false => simp only [h3] at h; cases h; simp [ha', hc', h4]
       · simp only [hn, if_false] at h ⊢; exact ihl b h
   case array.agg.agg len elem xs xs' hxs hxc hxv ys ys' hys hyc hyv =>
    cases hi : P.info? elem with
    | none => simp [hi] at h
    | some i =>
     simp only [hi] at h; rw [run_equalIn_array w d xs' ys' hu hi]; have hcs : P.cellsOf elem = i.size := by simp [Program.cellsOf, hi]
     rw [hcs]; generalize List.range len = l at h
     induction l generalizing b with
     | nil => simp at h; subst h; simp [Op.eqItems]
     | cons j l ihl =>
      simp only [List.foldr_cons] at h; simp only [Op.eqItems]; cases h1 : gH P elem xs (j * i.size) with
      | none => simp [h1] at h
      | some a =>
       cases h2 : gH P elem ys (j * i.size) with
       | none => simp [h1, h2] at h
       | some c =>
        simp only [h1, h2] at h; obtain ⟨a', ha', hVa⟩ := fS (w := w) (V.agg xs xs' hxs hxc hxv) h1; obtain ⟨c', hc', hVc⟩ := fS (w := w) (V.agg ys ys' hys hyc hyv) h2; cases h3 : eqE P d elem a c with
        | none => simp [h3] at h
        | some r =>
         have h4 := ih elem a c a' c' r hVa hVc h3; cases r with
         | true => simp only [h3] at h; simp [ha', hc', h4]; exact ihl b h
         | false => simp only [h3] at h; cases h; simp [ha', hc', h4]
theorem sT {x x' : Value} {b : Bool} (hx : V f x x') (h : isNil x = some b) : isNil x' = some b := by
 cases hx <;> simp [isNil] at h ⊢ <;> exact h
theorem gz {op : BinOp} {t : TypeId} {u v : Operand} {x y : Value} (h1 : ∀ a b, ¬ (x = .agg a /\ y = .agg b)) (h2 : ¬ (x = .nilIface /\ y = .nilIface)) :
 (eqGuard op t u v x y).run P w = .ok () w := by
 unfold eqGuard; cases op <;> simp <;> (split <;> simp_all)
theorem vq (t : TypeId) (x y : Value) : Op.equal t x y = Op.equalIn (9999 + 1) t x y := rfl
theorem tM {t : TypeId} (hu : P.underlying t = some .bool) (a b : Bool) : (Op.equal t (.bool a) (.bool b)).run P w = .ok (a == b) w := by
 rw [vq]; generalize 9999 = n; simp only [Op.equalIn]; simp [run_underlying hu]
theorem wH {t : TypeId} {d : TypeDesc} (hu : P.underlying t = some d) {x y : Value} {a c : Bool} (hr : yX d x y = true) (ha : isNil x = some a) (hc : isNil y = some c) :
 (Op.equal t x y).run P w = .ok (a && c) w := by
 rw [vq]; generalize 9999 = n; unfold yX at hr
 split at hr
 · rename_i e p; cases p <;> simp [isNil] at ha hc <;> subst ha <;> subst hc <;> simp only [Op.equalIn] <;> simp [run_underlying hu]
 · rename_i e p _; cases p <;> simp [isNil] at ha hc <;> subst ha <;> subst hc <;> simp only [Op.equalIn] <;> simp [run_underlying hu]
 · rename_i e n1 c1 p n2 c2; cases p <;> simp [isNil] at ha hc <;> subst ha <;> subst hc <;> simp only [Op.equalIn] <;> simp [run_underlying hu]
 · rename_i e p n1 c1 n2 c2 _; cases p <;> simp [isNil] at ha hc <;> subst ha <;> subst hc <;> simp only [Op.equalIn] <;> simp [run_underlying hu]
 · cases hr
theorem rJ {x : Value} {b : Bool} (h : isNil x = some b) : (∃ a, x = .pointer a) \/ ∃ a n c, x = .slice a n c := by
 cases x <;> simp [isNil] at h ⊢
theorem Oo {d : TypeDesc} {x y x' y' : Value} (hx : V f x x') (hy : V f y y') (h : yX d x y = true) : yX d x' y' = true := by
 unfold yX at h
 split at h
 · cases hx; cases hy <;> rfl
 · cases hy; cases hx <;> rfl
 · cases hx; cases hy <;> rfl
 · cases hy; cases hx <;> rfl
 · cases h
theorem oN {t : TypeId} {x y x' y' : Value} {b : Bool} (hx : V f x x') (hy : V f y y') (h : eW P t x y = some b) :
 (Op.equal t x' y').run P w = .ok b w /\ ∀ op u v, (eqGuard op t u v x' y').run P w = .ok () w := by
 unfold eW at h
 split at h
 ·
  split at h
  · cases h
  · rename_i hg; have hg' : P.eqGuardType P.depth t = false := by simpa using hg
    have := FP 10000 t _ _ _ _ b (w := w) hx hy h; refine ⟨this, fun op u v => ?_⟩; cases hx; cases hy; exact run_eqGuard_agg w op t u v _ _ hg'
 ·
  cases hx; cases hy
  split at h
  · rename_i hu; cases h; exact ⟨tM hu _ _, fun op u v => gz (by simp) (by simp)⟩
  · cases h
 ·
  split at h
  · rename_i d a c hu ha hc
    split at h
    · rename_i hr; cases h; have ha' := sT hx ha; have hc' := sT hy hc; refine ⟨wH hu (Oo hx hy hr) ha' hc', fun op u v => gz ?_ ?_⟩
      · intro a1 b1 ⟨e1, e2⟩; subst e1; simp [isNil] at ha'
      · intro ⟨e1, e2⟩; subst e1; simp [isNil] at ha'
    · cases h
  · cases h
theorem yS {op : BinOp} {k : IntKind} {a b : Int} {t : TypeId} {v : Value} (h1 : op ≠ .shl) (h2 : op ≠ .shr) (h : jn op k a b = some v) :
 (binOp op t (.int k a) (.int k b)).run P w = .ok v w /\ V f v v := by
 cases op <;> simp [jn] at h <;> first
  | (exact absurd rfl h1)
  | (exact absurd rfl h2)
  | (subst h; exact ⟨by simp [binOp, Op.intArith, Op.intBits, Op.intCmp], by constructor⟩)
  | (obtain ⟨hb, rfl⟩ := h; exact ⟨by simp [binOp, Op.intDiv, hb], by constructor⟩)
theorem oA {op : BinOp} {k k' : IntKind} {a b : Int} {t : TypeId} {v : Value} (h : lT op k a b = some v) :
 (binOp op t (.int k a) (.int k' b)).run P w = .ok v w /\ V f v v := by
 unfold lT at h
 split at h
 · cases h
 · rename_i hb; cases op <;> simp at h <;> subst h <;> exact ⟨by simp [binOp, Op.shift, hb], by constructor⟩
theorem Cv {op : BinOp} {t : TypeId} {x y x' y' v : Value} (hx : V f x x') (hy : V f y y') (h : gD P op t x y = some v) :
 (∀ u r, (eqGuard op t u r x' y').run P w = .ok () w) /\ (binOp op t x' y').run P w = .ok v w /\ V f v v := by
 unfold gD at h
 split at h
 · cases hx; cases hy; refine ⟨fun u r => gz (by simp) (by simp), ?_⟩
   split at h
   · exact oA h
   · exact oA h
   · rename_i h1 h2
     split at h
     · rename_i e; subst e; exact yS h1 h2 h
     · cases h
 · rename_i hni; have key : ∀ b, eW P t x y = some b -> binOp .eql t x' y' = (do pure (.bool (<- Op.equal t x' y')) : Sem Value) /\ binOp .neq t x' y' = (do pure (.bool (!(<- Op.equal t x' y'))) : Sem Value) := by
    intro b hb; unfold eW at hb
    split at hb
    · cases hx; cases hy; exact ⟨rfl, rfl⟩
    · cases hx; cases hy; exact ⟨rfl, rfl⟩
    · split at hb
      · rename_i d a c hu ha hc; have ha' := sT hx ha; have hc' := sT hy hc; rcases rJ ha' with ⟨p, rfl⟩ | ⟨p, n, m, rfl⟩ <;> rcases rJ hc' with ⟨q, rfl⟩ | ⟨q, n', m', rfl⟩ <;> exact ⟨rfl, rfl⟩
      · cases hb
   split at h
   · simp only [Option.map_eq_some_iff] at h; obtain ⟨b, hb, rfl⟩ := h; obtain ⟨h1, h2⟩ := oN (w := w) hx hy hb; refine ⟨fun u r => h2 _ u r, ?_, .bool b⟩; rw [(key b hb).1]; simp only [Sem.run_bind, h1, Result.andThen_ok, Sem.run_pure]
   · simp only [Option.map_eq_some_iff] at h; obtain ⟨b, hb, rfl⟩ := h; obtain ⟨h1, h2⟩ := oN (w := w) hx hy hb; refine ⟨fun u r => h2 _ u r, ?_, .bool _⟩; rw [(key b hb).2]; simp only [Sem.run_bind, h1, Result.andThen_ok, Sem.run_pure]
   · cases h
end
end
end Go.Proofs.YtdbkoeefnodejaaGreat.Ev
namespace Go.Proofs.YtdbkoeefnodejaaGreat.Ev
noncomputable section
open Go
section
variable {P : Program} {f : Fm} {H : ah} {w : World}
theorem FV {op : UnOp} {x x' v : Value} (hx : V f x x') (h : unE op x = some v) : (Op.unary op x').run P w = .ok v w /\ V f v v := by
 unfold unE at h
 split at h
 · cases hx; cases h; exact ⟨by simp [Op.unary, Op.intArith], .int _ _⟩
 · cases hx; simp [jn] at h; subst h; exact ⟨by simp [Op.unary, Op.intBits], .int _ _⟩
 · cases hx; cases h; exact ⟨by simp [Op.unary], .bool _⟩
 · cases h
theorem Bn {s d : TypeId} {x x' v : Value} (hx : V f x x') (h : AW P s d x = some v) : (convert s d x').run P w = .ok v w /\ V f v v := by
 unfold AW at h
 split at h
 · rename_i D k k' n hs hd; cases hx; cases h; exact ⟨by simp [convert, run_underlying hs, run_underlying hd, Conv.intToInt], .int _ _⟩
 · cases h
theorem qB {s : TypeId} {x x' v : Value} {n : Nat} (hx : V f x x') (h : gQ P s x n = some v) :
 ∃ v', (Instr.fieldAt s x' n).run P w = .ok v' w /\ V f v v' := by
 unfold gQ at h
 split at h
 · rename_i fs hs
   split at h
   · rename_i fd a hf; cases hi : P.info? fd.type with
     | none => simp [hi] at h
     | some i =>
      simp only [hi] at h
      split at h
      · cases h
      · rename_i h0; cases h; cases hx with
        | ptr b off l hl =>
         refine ⟨.pointer (some ⟨l.blk, l.off + (off + fd.offset), none⟩), ?_, ?_⟩
         · simp [Instr.fieldAt, run_underlying hs, hf, Instr.sureAddr, fieldPlace, cQ hi, h0, Addr.add_eq, Nat.add_assoc]
         · rw [Addr.add_eq]; exact .ptr b _ l hl
   · cases h
 · cases h
theorem zk {s : TypeId} {x x' v : Value} {n : Nat} (hx : V f x x') (h : v3 P s x n = some v) :
 ∃ v', (Instr.field s x' n).run P w = .ok v' w /\ V f v v' := by
 unfold v3 at h
 split at h
 · rename_i fs hs
   split at h
   · rename_i fd cs hf; cases hx with
     | agg _ x2 h1 h2 h3 =>
      obtain ⟨v', h4, h5⟩ := fS (w := w) (V.agg _ x2 h1 h2 h3) h; exact ⟨v', by simp [Instr.field, run_underlying hs, hf, asAgg, h4], h5⟩
   · cases h
 · cases h
theorem qO {t : TypeId} {x ix x' ix' v : Value} (hx : V f x x') (hi : V f ix ix') (h : dA P t x ix = some v) :
 ∃ v', (Instr.indexAt t x' ix').run P w = .ok v' w /\ V f v v' := by
 unfold dA at h
 split at h
 · rename_i k i; cases hi
   split at h
   · rename_i len elem a hu; cases hie : P.info? elem with
     | none => simp [hie] at h
     | some ie =>
      simp only [hie] at h
      split at h
      · rename_i hb; cases h; cases hx with
        | ptr b off l hl =>
         refine ⟨.pointer (some ⟨l.blk, l.off + (off + i.toNat * ie.size), none⟩), ?_, ?_⟩
         · simp [Instr.indexAt, asIntOf, run_underlying hu, Instr.sureAddr, hb, cQ hie, Addr.add_eq, Nat.add_assoc]
         · rw [Addr.add_eq]; exact .ptr b _ l hl
      · cases h
   · rename_i elem bb oo sp len cap hu; cases hie : P.info? elem with
     | none => simp [hie] at h
     | some ie =>
      simp only [hie] at h
      split at h
      · rename_i hb; cases h; cases hx with
        | slX b off _ _ l a hl ha =>
         have ha : a = ⟨l.blk, l.off + oo, none⟩ := by rcases ha with h | h; exact h; omega
         subst ha; refine ⟨.pointer (some ⟨l.blk, l.off + (oo + i.toNat * ie.size), none⟩), ?_, .ptr bb _ l hl⟩; simp [Instr.indexAt, asIntOf, run_underlying hu, hb, cQ hie, Addr.add_eq, Nat.add_assoc]
        | slL b off e _ _ off' c' l hl hn hc hr ho =>
         have : off' = l.off + oo := ho (by omega); subst this; refine ⟨.pointer (some ⟨l.blk, l.off + (oo + i.toNat * ie.size), none⟩), ?_, .ptr bb _ l hl⟩; simp [Instr.indexAt, asIntOf, run_underlying hu, hb, cQ hie, Addr.add_eq, Nat.add_assoc]
      · cases h
   · cases h
 · cases h
theorem Ao {t : TypeId} {x ix x' ix' v : Value} (hx : V f x x') (hi : V f ix ix') (h : ma P t x ix = some v) :
 ∃ v', (Instr.index t x' ix').run P w = .ok v' w /\ V f v v' := by
 unfold ma at h
 split at h
 · rename_i k i; cases hi
   split at h
   · rename_i len elem cs hu; cases hie : P.info? elem with
     | none => simp [hie] at h
     | some ie =>
      simp only [hie] at h
      split at h
      · rename_i hb; cases hx with
        | agg _ x2 h1 h2 h3 =>
         obtain ⟨v', h4, h5⟩ := fS (w := w) (V.agg _ x2 h1 h2 h3) h; exact ⟨v', by simp [Instr.index, asIntOf, run_underlying hu, hb, cQ hie, h4], h5⟩
      · cases h
   · rename_i s hu; cases hx
     split at h
     · rename_i h0
       split at h
       · rename_i b hb; cases h; have hb' : s[i.toNat]? = some b := hb; exact ⟨_, by simp [Instr.index, asIntOf, run_underlying hu, h0, hb'], .int _ _⟩
       · cases h
     · cases h
   · cases h
 · cases h
theorem vL {x x' v : Value} {n : Nat} (hx : V f x x') (h : oB x n = some v) :
 ∃ v', (Instr.extract x' n).run P w = .ok v' w /\ V f v v' := by
 unfold oB at h
 split at h
 · rename_i vs; cases hx with
   | tuple _ x2 h1 h3 =>
    have hlt : n < x2.size := by rw [<- h1]; exact (Array.getElem?_eq_some_iff.1 h).1
    exact ⟨x2[n], by simp [Instr.extract, hlt], h3 n _ _ h (Array.getElem?_eq_getElem hlt)⟩
 · cases h
def VO (f : Fm) : Option Value -> Option Value -> Prop
 | none, none => True
 | some a, some b => V f a b
 | _, _ => False
theorem lv {x x' : Option Value} {d hi n : Nat} (hx : VO f x x') (h : lz x d hi = some n) :
 (x' = none /\ n = d) \/ (∃ k i, x' = some (.int k i) /\ 0 <= i /\ i <= (hi : Int) /\ n = i.toNat) := by
 unfold lz at h
 split at h
 · cases x' with
   | none => cases h; exact .inl ⟨rfl, rfl⟩
   | some v => exact hx.elim
 · rename_i k i; cases x' with
   | none => exact hx.elim
   | some v =>
    cases hx
    split at h
    · rename_i hb; cases h; exact .inr ⟨k, i, rfl, hb.1, hb.2, rfl⟩
    · cases h
 · cases h
theorem kO {b : Bool} {len cap hi lo : Nat} {lo' hi' : Option Value}
 (h1 : (hi' = none /\ hi = len) \/ (∃ k i, hi' = some (.int k i) /\ 0 <= i /\ i <= (cap : Int) /\ hi = i.toNat))
 (h2 : (lo' = none /\ lo = 0) \/ (∃ k i, lo' = some (.int k i) /\ 0 <= i /\ i <= (hi : Int) /\ lo = i.toNat)) :
 (Instr.sliceBounds b len cap lo' hi' none).run P w = .ok (lo, hi, cap) w := by
 rcases h1 with ⟨rfl, rfl⟩ | ⟨k, i, rfl, h3, h4, rfl⟩ <;> rcases h2 with ⟨rfl, rfl⟩ | ⟨k', i', rfl, h5, h6, rfl⟩
 · simp [Instr.sliceBounds]
 · simp [Instr.sliceBounds, run_sliceBound w k' i' _ _ h5 h6]
 · simp [Instr.sliceBounds, run_sliceBound w k i _ _ h3 h4]
 · simp [Instr.sliceBounds, run_sliceBound w k i _ _ h3 h4, run_sliceBound w k' i' _ _ h5 h6]
theorem mH {x' : Option Value} {d hi n : Nat} (h : (x' = none /\ n = d) \/ (∃ k i, x' = some (.int k i) /\ 0 <= i /\ i <= (hi : Int) /\ n = i.toNat)) (hd : d <= hi) : n <= hi := by
 rcases h with ⟨_, rfl⟩ | ⟨k, i, _, h1, h2, rfl⟩
 · exact hd
 · omega
theorem C7 {x' : Option Value} {d hi hi' n : Nat} (h : (x' = none /\ n = d) \/ (∃ k i, x' = some (.int k i) /\ 0 <= i /\ i <= (hi : Int) /\ n = i.toNat)) (hh : hi <= hi') :
 (x' = none /\ n = d) \/ (∃ k i, x' = some (.int k i) /\ 0 <= i /\ i <= (hi' : Int) /\ n = i.toNat) := by
 rcases h with h | ⟨k, i, h0, h1, h2, h3⟩
 · exact .inl h
 · exact .inr ⟨k, i, h0, h1, by omega, h3⟩
theorem lU {t elem : TypeId} {i : TypeInfo} (hu : P.underlying t = some (.slice elem)) (hi : P.info? elem = some i) {a : Option Addr} {len cap l h : Nat} {lo' hi' : Option Value}
 (hb : (Instr.sliceBounds true len cap lo' hi' none).run P w = .ok (l, h, cap) w) :
 (Instr.sliceAt t (.slice a len cap) lo' hi' none).run P w = .ok (.slice (if cap = l then a else a.map (·.add (l * i.size))) (h - l) (cap - l)) w := by
 simp [Instr.sliceAt, Instr.slice, run_underlying hu, hb, cQ hi]
theorem zX {t : TypeId} {x x' v : Value} {lo lo' hi hi' : Option Value} (hx : V f x x') (hlo : VO f lo lo') (hhi : VO f hi hi') (h : ov P t x lo hi = some v) :
 ∃ v', (Instr.sliceAt t x' lo' hi' none).run P w = .ok v' w /\ V f v v' := by
 unfold ov at h
 split at h
 · rename_i elem hu
   split at h
   · rename_i a len cap i hie
     split at h
     · rename_i hh hhe
       split at h
       · rename_i ll hle; have b1 := lv hhi hhe; have b2 := lv hlo hle; have hlh : ll <= hh := mH b2 (Nat.zero_le _)
         split at h
         · cases h; cases hx; have : hh <= 0 := mH b1 (Nat.le_refl _); have e1 : hh = 0 := by omega
           have e2 : ll = 0 := by omega
           subst e1; subst e2; exact ⟨_, lU hu hie (kO b1 b2), by simpa using V.dF⟩
         · cases h; cases hx with
           | slX b off _ _ l a hl ha =>
            refine ⟨_, lU hu hie (kO b1 b2), ?_⟩
            by_cases e : cap = ll
            · rw [if_pos e, if_pos e]; refine .slX _ _ _ _ l a hl (ha.imp id fun h => ?_); have hhc := mH b1 (show _ <= cap by omega); exact ⟨by omega, by omega⟩
            · rw [if_neg e, if_neg e]; rcases ha with rfl | h
              rotate_left
              · have hhc := mH b1 (show _ <= cap by omega); omega
              simp only [Option.map_some, Addr.add_eq, Nat.add_assoc]; exact .slX _ _ _ _ l _ hl (.inl rfl)
         · rename_i b off e
           split at h
           · rename_i hes; cases h; cases hx with
             | slL _ _ _ _ _ off' c' l hl hn hc hr ho =>
              have hhc : hh <= cap := mH b1 hn; refine ⟨_, lU hu hie (kO (C7 b1 hc) b2), ?_⟩
              by_cases e1 : c' = ll
              · have e2 : cap = ll := by omega
                rw [if_pos e1, if_pos e2]; refine .slL b off e _ _ off' _ l hl (by omega) (by omega) ?_ (by omega); have : c' - ll = 0 := by omega
                rw [this]; have := Nat.zero_le (c' * e); omega
              · rw [if_neg e1]; have hm : (c' - ll) * e + ll * i.size = c' * e := by
                 rw [<- hes, <- Nat.add_mul]; congr 1; omega
                by_cases e2 : cap = ll
                · rw [if_pos e2]; simp only [Option.map_some, Addr.add_eq]; exact .slL b off e _ _ (off' + ll * i.size) _ l hl (by omega) (by omega) (by omega) (by omega)
                · rw [if_neg e2]; simp only [Option.map_some, Addr.add_eq]; refine .slL b _ e _ _ (off' + ll * i.size) _ l hl (by omega) (by omega) (by omega) (fun h0 => ?_); have := ho (by omega); omega
           · cases h
       · cases h
     · cases h
   · cases h
 · rename_i n elem hu
   split at h
   · rename_i bb oo i hie
     split at h
     · rename_i hh hhe
       split at h
       · rename_i ll hle; have b1 := lv hhi hhe; have b2 := lv hlo hle; cases h; cases hx with
         | ptr _ _ l hl =>
          refine ⟨.slice (some (if n = ll then ⟨l.blk, l.off + oo, none⟩ else (⟨l.blk, l.off + oo, none⟩ : Addr).add (ll * i.size))) (hh - ll) (n - ll), ?_, ?_⟩
          · have := kO (P := P) (w := w) (b := false) b1 b2; simp [Instr.sliceAt, run_underlying hu, Instr.sureAddr, this, cQ hie]
          · by_cases e1 : n = ll
            · rw [if_pos e1, if_pos e1]; exact .slX _ _ _ _ l _ hl (.inl rfl)
            · rw [if_neg e1, if_neg e1, Addr.add_eq, Nat.add_assoc]; exact .slX _ _ _ _ l _ hl (.inl rfl)
       · cases h
     · cases h
   · cases h
 · cases h
end
end
end Go.Proofs.YtdbkoeefnodejaaGreat.Ev
namespace Go.Proofs.YtdbkoeefnodejaaGreat.Ev
noncomputable section
open Go
section
variable {P : Program} {f : Fm} {H : ah} {w : World}
theorem kv (f : Fm) {z : Value} {cs : List Value} (h : fl z = some cs) : z.cells.toList = cs /\ VL f cs cs /\ ∀ u ∈ cs, bf u = true := by
 unfold fl at h; cases hv : bo z with
 | none => simp [hv] at h
 | some c =>
  simp only [hv] at h
  split at h
  · rename_i hall; cases h; have hc : z.cells.toList = cs := by
     cases z <;> simp [bo] at hv <;> subst hv <;> rfl
    refine ⟨hc, ⟨rfl, fun i v v' h1 h2 => ?_⟩, fun u hu => ?_⟩
    · rw [h1] at h2; cases h2; exact V.fw f (List.all_eq_true.1 hall v (List.mem_of_getElem? h1))
    · have := List.all_eq_true.1 hall u hu; cases u <;> simp_all [fw, bf]
  · cases h
theorem V.IB {v v' : Value} (h : V f v v') (hn : lD v = some v) : VL f v.cells.toList v'.cells.toList /\ ∀ u ∈ v.cells.toList, bf u = true := by
 cases hc : Ev.bo v with
 | none => cases v <;> simp [Ev.bo, lD] at hc hn
 | some cs =>
  have := h.bo hc; have e : v.cells.toList = cs := by cases v <;> simp [Ev.bo] at hc <;> subst hc <;> rfl
  rw [e]; exact this
inductive PV (f : Fm) : List (Nat × Value) -> List (Nat × Value) -> Prop where
 | nil : PV f [] []
 | cons (i : Nat) (v v' : Value) (r r' : List (Nat × Value)) (h : V f v v') (hn : lD v = some v) (t : PV f r r') : PV f ((i, v) :: r) ((i, v') :: r')
theorem Hp (off : Nat) : ∀ (xs xs' : List Value) (k : Nat) (c c' : Array Value), VL f xs xs' -> (∀ u ∈ xs, bf u = true) -> VL f c.toList c'.toList -> (∀ u ∈ c.toList, bf u = true) ->
 VL f ((xs.zipIdx k).foldl (fun cs (p : Value × Nat) => cs.setIfInBounds (off + p.2) p.1) c).toList ((xs'.zipIdx k).foldl (fun cs (p : Value × Nat) => cs.setIfInBounds (off + p.2) p.1) c').toList /\
 ∀ u ∈ ((xs.zipIdx k).foldl (fun cs (p : Value × Nat) => cs.setIfInBounds (off + p.2) p.1) c).toList, bf u = true := by
 intro xs
 induction xs with
 | nil =>
  intro xs' k c c' h _ hc hcc; cases xs' with
  | nil => exact ⟨by simpa using hc, by simpa using hcc⟩
  | cons => have := h.1; simp at this
 | cons x xs ih =>
  intro xs' k c c' h hx hc hcc; cases xs' with
  | nil => have := h.1; simp at this
  | cons y ys =>
   have h0 : V f x y := h.2 0 x y (by simp) (by simp); have ht : VL f xs ys := ⟨by have := h.1; simpa using this, fun i v v' a b => h.2 (i + 1) v v' (by simpa using a) (by simpa using b)⟩
   simp only [List.zipIdx_cons, List.foldl_cons]; refine ih ys (k + 1) _ _ ht (fun u hu => hx u (by simp [hu])) ?_ ?_
   · rw [Array.toList_setIfInBounds, Array.toList_setIfInBounds]; exact hc.set _ h0
   · intro u hu; rw [Array.toList_setIfInBounds] at hu; rcases List.mem_or_eq_of_mem_set hu with h1 | rfl
     · exact hcc u h1
     · exact hx u (by simp)
theorem zy {place : Nat -> Option (Nat × Nat)} : ∀ (ps ps' : List (Nat × Value)) (c c' out : Array Value), PV f ps ps' -> VL f c.toList c'.toList -> (∀ u ∈ c.toList, bf u = true) ->
 Instr.fill place c ps = some out -> ∃ out', Instr.fill place c' ps' = some out' /\ VL f out.toList out'.toList /\ ∀ u ∈ out.toList, bf u = true := by
 intro ps
 induction ps with
 | nil =>
  intro ps' c c' out hp hc hcc h; cases hp; simp [Instr.fill] at h; subst h; exact ⟨c', rfl, hc, hcc⟩
 | cons p ps ih =>
  intro ps' c c' out hp hc hcc h; cases hp with
  | cons i v v' r r' hv hn t =>
   obtain ⟨hvl, hvc⟩ := hv.IB hn; have hsz : v'.cells.size = v.cells.size := by have := hvl.1; simpa using this.symm
   have hcs : c'.size = c.size := by have := hc.1; simpa using this.symm
   simp only [Instr.fill] at h ⊢; cases hpl : place i with
   | none => simp [hpl] at h
   | some q =>
    obtain ⟨off, size⟩ := q; simp only [hpl, hsz, hcs] at h ⊢
    split at h
    · cases h
    · rename_i hcond; rw [if_neg hcond]; rw [<- Array.foldl_toList] at h ⊢; rw [Array.toList_zipIdx] at h ⊢; obtain ⟨h1, h2⟩ := Hp off v.cells.toList v'.cells.toList 0 c c' hvl hvc hc hcc; exact ih r' _ _ out t h1 h2 h
theorem zZ {t : TypeId} {ps ps' : List (Nat × Value)} {v : Value} (hp : PV f ps ps') (h : qf P t ps = some v) :
 ∃ v', (Instr.build t ps'.toArray).run P w = .ok v' w /\ V f v v' := by
 unfold qf at h; cases hz : ((P.info? t).bind (·.zero)).bind fl with
 | none => simp [hz] at h
 | some zc =>
  simp only [hz, Option.map_eq_some_iff] at h; obtain ⟨cs, hb, rfl⟩ := h; cases hi : P.info? t with
  | none => simp [hi] at hz
  | some it =>
   cases hzz : it.zero with
   | none => simp [hi, hzz] at hz
   | some z =>
    simp only [hi, hzz, Option.bind_some] at hz; obtain ⟨e1, hvl, hcell⟩ := kv f hz; have key : ∃ cs', P.built t ps' = some cs' /\ VL f cs.toList cs'.toList /\ ∀ u ∈ cs.toList, bf u = true := by
     unfold Program.built at hb ⊢; rw [hi] at hb ⊢
     split at hb
     · rename_i it' n e h1 h2; cases h1; simp only [hzz] at hb ⊢; cases hie : P.info? e with
       | none => simp [hie] at hb
       | some ie =>
        simp only [hie] at hb ⊢; exact zy ps ps' z.cells z.cells cs hp (by rw [e1]; exact hvl) (by rw [e1]; exact hcell) hb
     · rename_i it' fs h1 h2; cases h1; simp only [hzz] at hb ⊢; cases hpl : fs.toList.mapM (fun f => (P.info? f.type).map fun i => (f.offset, i.size)) with
       | none => simp [hpl] at hb
       | some places =>
        simp only [hpl] at hb ⊢; exact zy ps ps' z.cells z.cells cs hp (by rw [e1]; exact hvl) (by rw [e1]; exact hcell) hb
     · cases hb
    obtain ⟨cs', hb', hvl', hc'⟩ := key; exact ⟨.agg cs', run_build w t ps'.toArray cs' (by simpa using hb'), by
     have := V.zh hvl' hc'; simpa using this⟩
theorem R.m9 (hR : R f H w) (hfree : f H.size = none) (cs : List Value) (cs' : Array Value) (e : TypeId) (hv : VL f cs cs'.toList) (hc : ∀ u ∈ cs, bf u = true) :
 ∃ f', f' H.size = some ⟨w.heap.size, 0, 0⟩ /\ Stp f H w f' (aL H cs) (w.alloc (.cells cs' e)) /\ R f' (aL H cs) (w.alloc (.cells cs' e)) :=
 hR.push hfree 0 cs cs' e hc (fun i v hi => by
  obtain ⟨v', h1, h2⟩ := hv.get hi; exact ⟨v', by simpa using h1, h2⟩) (Nat.zero_le _)
theorem Gd (hR : R f H w) (hfree : f H.size = none) (e : TypeId) {x x' : Value} {cs : List Value} (hx : V f x x') (h : bo x = some cs) :
 ∃ f' w', (Instr.box e x').run P w = .ok (.pointer (some ⟨w.heap.size, 0, none⟩)) w' /\ V f' (ptr H.size 0) (.pointer (some ⟨w.heap.size, 0, none⟩)) /\
  Stp f H w f' (aL H cs) w' /\ R f' (aL H cs) w' := by
 obtain ⟨hvl, hc⟩ := hx.bo h; obtain ⟨f', h1, h2, h3⟩ := hR.m9 hfree cs x'.cells e hvl hc; refine ⟨f', _, ?_, by simpa [ptr] using V.ptr (f := f') H.size 0 _ h1, h2, h3⟩; simp [Instr.box, newVar, newRow]
theorem AM (hR : R f H w) (hfree : f H.size = none) (e : TypeId) {z : Value} {cs : List Value} (hz : (P.info? e).bind (·.zero) = some z) (h : fl z = some cs) :
 ∃ f' w', (Instr.alloc e true (.tuple #[])).run P w = .ok (.pointer (some ⟨w.heap.size, 0, none⟩)) w' /\ V f' (ptr H.size 0) (.pointer (some ⟨w.heap.size, 0, none⟩)) /\
  Stp f H w f' (aL H cs) w' /\ R f' (aL H cs) w' := by
 obtain ⟨e1, hvl, hc⟩ := kv f h; obtain ⟨f', h1, h2, h3⟩ := hR.m9 hfree cs z.cells e (by rw [e1]; exact hvl) hc; refine ⟨f', _, ?_, by simpa [ptr] using V.ptr (f := f') H.size 0 _ h1, h2, h3⟩; cases hi : P.info? e with
 | none => simp [hi] at hz
 | some i =>
  simp [hi] at hz; simp [Instr.alloc, zeroValue, typeInfo, hi, hz, newVar, newRow]
theorem gI (zc : List Value) (n i : Nat) (h : i < n * zc.length) : ((List.replicate n zc).flatten)[i]? = zc[i % zc.length]? := by
 induction n generalizing i with
 | zero => omega
 | succ n ih =>
  rw [List.replicate_succ, List.flatten_cons, List.getElem?_append]
  split
  · rename_i hl; rw [Nat.mod_eq_of_lt hl]
  · rename_i hl; rw [ih (i - zc.length) (by rw [Nat.succ_mul] at h; omega)]
    congr 1
    rw [<- Nat.mod_eq_sub_mod (by omega)]
theorem mb (z : Array Value) (n : Nat) (hz : 0 < z.size \/ n = 0) : madeCells z (n * z.size) = (List.replicate n z.toList).flatten.toArray := by
 apply Array.ext
 · simp [madeCells, List.length_flatten]
 · intro i h1 h2; have hi : i < n * z.size := by simpa [madeCells] using h1
   have h0 : 0 < z.size := by
    rcases hz with h | h
    · exact h
    · subst h; omega
   have h3 := gI z.toList n i (by simpa using hi); have hm : i % z.size < z.size := Nat.mod_lt _ h0; simp only [madeCells, Array.getElem_map, Array.getElem_range]; have h4 : ((List.replicate n z.toList).flatten.toArray)[i]? = some (z[i % z.size]'hm) := by
    rw [List.getElem?_toArray, h3]; simp [hm]
   rw [Array.getElem?_eq_getElem h2] at h4; have := Option.some.inj h4; rw [this]; simp [hm]
theorem VL.dx {zc : List Value} (h : VL f zc zc) (n : Nat) : VL f (List.replicate n zc).flatten (List.replicate n zc).flatten := by
 induction n with
 | zero => exact .nil f
 | succ n ih => rw [List.replicate_succ, List.flatten_cons]; exact h.append ih
theorem gf {zc : List Value} (h : ∀ u ∈ zc, bf u = true) (n : Nat) : ∀ u ∈ (List.replicate n zc).flatten, bf u = true := by
 intro u hu; rw [List.mem_flatten] at hu; obtain ⟨l, hl, hul⟩ := hu; rw [List.mem_replicate] at hl; exact h u (by rw [<- hl.2]; exact hul)
theorem BB (hR : R f H w) (hfree : f H.size = none) {t : TypeId} {l l' c c' v : Value} {H' : ah} (hl : V f l l') (hc : V f c c') (h : rB P H t l c = some (v, H')) :
 ∃ f' w' v', (Instr.makeSlice t l' c').run P w = .ok v' w' /\ V f' v v' /\ Stp f H w f' H' w' /\ R f' H' w' := by
 unfold rB at h
 split at h
 · rename_i elem k n k' m hu; cases hl; cases hc; cases hi : P.info? elem with
   | none => simp [hi] at h
   | some i =>
    cases hz : i.zero with
    | none => simp [hi, hz] at h
    | some z =>
     simp only [hi, hz] at h
     split at h
     · rename_i hcond; obtain ⟨h0, h1, h2, h3⟩ := hcond; cases hzc : fl z with
       | none => simp [hzc] at h
       | some zc =>
        simp only [hzc] at h
        split at h
        · rename_i hlen; cases h; obtain ⟨e1, hvl, hcell⟩ := kv f hzc; have hsz : z.cells.size = i.size := by rw [<- hlen, <- e1]; simp
          have hr := run_make (P := P) w t elem i z hu hi hz k k' n m h0 h1 (by omega) h3; have hm : madeCells z.cells (m.toNat * i.size) = (List.replicate m.toNat zc).flatten.toArray := by
           by_cases hs : 0 < z.cells.size
           · rw [<- hsz, mb _ _ (.inl hs), e1]
           · have : zc = [] := by rw [<- e1]; simp; simpa using hs
             have h00 : i.size = 0 := by omega
             rw [h00, this]; simp [madeCells, Array.range_zero']
          rw [hm] at hr; obtain ⟨f', g1, g2, g3⟩ := hR.m9 hfree _ (List.replicate m.toNat zc).flatten.toArray elem (by simpa using hvl.dx m.toNat) (gf hcell m.toNat); exact ⟨f', _, _, hr, by simpa using V.slX (f := f') H.size 0 n.toNat m.toNat _ _ g1 (.inl rfl), g2, g3⟩
        · cases h
     · cases h
 · cases h
theorem pE (hR : R f H w) (hfree : f H.size = none) {t : TypeId} {n : Nat} {ps ps' : List (Nat × Value)} {v : Value} {H' : ah} (hp : PV f ps ps') (h : dS P H t n ps = some (v, H')) :
 ∃ f' w' v', (Instr.buildSlice t n ps'.toArray).run P w = .ok v' w' /\ V f' v v' /\ Stp f H w f' H' w' /\ R f' H' w' := by
 unfold dS at h
 split at h
 · rename_i elem hu; cases hi : P.info? elem with
   | none => simp [hi] at h
   | some i =>
    cases hz : i.zero with
    | none => simp [hi, hz] at h
    | some z =>
     simp only [hi, hz] at h; cases hzc : fl z with
     | none => simp [hzc] at h
     | some zc =>
      simp only [hzc] at h
      split at h
      · rename_i hcond; obtain ⟨hle, hlen⟩ := hcond
        split at h
        · rename_i cs hfill; cases h; obtain ⟨e1, hvl, hcell⟩ := kv f hzc; have hsz : z.cells.size = i.size := by rw [<- hlen, <- e1]; simp
          have hm : (Array.range (n * i.size)).map (fun j => z.cells[j % z.cells.size]!) = (List.replicate n zc).flatten.toArray := by
           by_cases hs : 0 < z.cells.size
           · have := mb z.cells n (.inl hs); rw [<- hsz, <- e1, <- this]; rfl
           · have : zc = [] := by rw [<- e1]; simp; simpa using hs
             have h00 : i.size = 0 := by omega
             rw [h00, this]; simp [Array.range_zero']
          obtain ⟨cs', hf', hvl', hc'⟩ := zy ps ps' _ (List.replicate n zc).flatten.toArray cs hp (by simpa using hvl.dx n) (by simpa using gf hcell n) hfill; obtain ⟨f', g1, g2, g3⟩ := hR.m9 hfree cs.toList cs' elem hvl' hc'; refine ⟨f', _, _, ?_, by simpa using V.slX (f := f') H.size 0 n n _ _ g1 (.inl rfl), g2, g3⟩; have hle' : ¬ (16777216 < n * i.size) := by omega
          by_cases h00 : n * i.size = 0
          · have hn0 : (List.replicate n zc).flatten = [] := by
             have : (List.replicate n zc).flatten.length = 0 := by simp [List.length_flatten, hlen, h00]
             exact List.eq_nil_of_length_eq_zero this
            rw [hn0] at hf'; simp [Instr.buildSlice, run_underlying hu, cQ hi, h00, Array.range_zero', hf', newRow]
          · simp [Instr.buildSlice, run_underlying hu, cQ hi, h00, hle', zeroValue, typeInfo, hi, hz, hm, hf', newRow]
        · cases h
      · cases h
 · cases h
end
end
end Go.Proofs.YtdbkoeefnodejaaGreat.Ev
namespace Go.Proofs.YtdbkoeefnodejaaGreat.Ev
noncomputable section
open Go
section
variable {P : Program} {f : Fm} {H : ah} {w : World}
theorem R.drop (hR : R f H w) {b : Nat} {k : Blk} (hb : H.get b = some k) (hm : H.nW b k = true) : Stp f H w f (H.put b none) w /\ R f (H.put b none) w := by
 have hget : ∀ x c, (H.put b none).get x = some c -> x ≠ b /\ H.get x = some c := by
  intro x c hx
  by_cases e : x = b
  · subst e; rw [ah.gk H x _ hb] at hx; cases hx
  · exact ⟨e, by rwa [ah.eH _ _ _ _ e] at hx⟩
 refine ⟨⟨.refl f, fun _ _ => rfl, Nat.le_refl _, rfl, rfl, ?_, Nat.le_refl _, rfl, rfl, rfl, fun _ _ _ => rfl, ?_⟩, ⟨?_, hR.big, hR.lk, ?_⟩⟩
 · intro x _ hx; rw [ah.cz, if_neg]; intro e; have := aU.1 hm; omega
 · intro cb _ ⟨x, c, m, hx, hxm, hfm, hcb⟩; exact ⟨x, c, m, (hget x c hx).2, by simpa [aU] using hxm, hfm, hcb⟩
 · intro x c hx; obtain ⟨l, C, e, fr, h1, h3, h4, h5⟩ := hR.blk x c (hget x c hx).2; exact ⟨l, C, e, fr, h1, h3, h4, fun hxm => h5 (by simpa [aU] using hxm)⟩
 · intro x y c d l m hx hy hxm hne hl hm'; exact hR.inj x y c d l m (hget x c hx).2 (hget y d hy).2 (by simpa [aU] using hxm) hne hl hm'
theorem R.move (hR : R f H w) (hfree : f H.size = none) {b : Nat} {k : Blk} (hb : H.get b = some k) (hm : H.nW b k = true) {l : Loc} (hl : f b = some l)
 {C : Array Value} {e : TypeId} {fr : Nat × Nat} (hw : w.heap[l.blk]? = some (.cells C e fr)) {vs vs' : List Value} (hv : VL f vs vs') (hc : ∀ u ∈ vs, bf u = true)
 (hfit : l.off + k.cells.length + vs'.length <= C.size) :
 ∃ f', f' H.size = some ⟨l.blk, l.off, l.room⟩ /\
  Stp f H w f' (aL (H.put b none) (k.cells ++ vs)) (w.setRow l.blk (C.toList.take (l.off + k.cells.length) ++ vs' ++ C.toList.drop (l.off + k.cells.length + vs'.length)).toArray) /\
  R f' (aL (H.put b none) (k.cells ++ vs)) (w.setRow l.blk (C.toList.take (l.off + k.cells.length) ++ vs' ++ C.toList.drop (l.off + k.cells.length + vs'.length)).toArray) := by
 obtain ⟨l2, C2, e2, fr2, hf2, hw2, hcs, hmm⟩ := hR.blk b k hb; rw [hl] at hf2; cases hf2; rw [hw] at hw2; cases hw2; obtain ⟨hfr, hroom⟩ := hmm hm; subst hfr
 let L : Loc := ⟨l.blk, l.off, l.room⟩
 let f' : Fm := fun x => if x = H.size then some L else f x
 have hf0 : f' H.size = some L := by simp [f']
 have hle : Le f f' := by
  intro x m hx
  by_cases e : x = H.size
  · subst e; rw [hfree] at hx; cases hx
  · simp [f', e, hx]
 let D : Array Value := (C.toList.take (l.off + k.cells.length) ++ vs' ++ C.toList.drop (l.off + k.cells.length + vs'.length)).toArray
 have hDd : (C.toList.take (l.off + k.cells.length) ++ vs' ++ C.toList.drop (l.off + k.cells.length + vs'.length)).toArray = D := rfl; rw [hDd]; have hDsize : D.size = C.size := by simp [D]; omega
 have hDget : ∀ i, i < k.cells.length + vs'.length -> D[l.off + i]? = if i < k.cells.length then C[l.off + i]? else vs'[i - k.cells.length]? := by
  intro i hi; simp only [D, List.getElem?_toArray, List.getElem?_append, List.length_append, List.length_take, Array.length_toList, List.getElem?_take]; have hmin : min (l.off + k.cells.length) C.size = l.off + k.cells.length := by omega
  rw [hmin]
  by_cases h1 : i < k.cells.length
  · rw [if_pos (by omega), if_pos (by omega), if_pos (by omega), if_pos h1]; simp
  · rw [if_pos (by omega), if_neg (by omega), if_neg h1]; congr 1; omega
 have hold : ∀ x c, (aL (H.put b none) (k.cells ++ vs)).get x = some c -> x ≠ H.size -> x ≠ b /\ H.get x = some c /\ f' x = f x := by
  intro x c hx hne; have hlt : x < (H.put b none).size := by have := ah.bh hx; simp [aL] at this; simp; omega
  rw [aL, ah.eC _ _ _ hlt] at hx
  by_cases e : x = b
  · subst e; rw [ah.gk H x _ hb] at hx; cases hx
  · exact ⟨e, by rwa [ah.eH _ _ _ _ e] at hx, by simp [f', hne]⟩
 have hnew : ∀ c, (aL (H.put b none) (k.cells ++ vs)).get H.size = some c -> c = ⟨k.cells ++ vs⟩ := by
  intro c hx; have := (ah.aQ hx).1; rw [aL, ah.bX] at this; simpa using this.symm
 have hbl : b < H.size := ah.bh hb; refine ⟨f', hf0, ⟨hle, ?_, ?_, rfl, rfl, ?_, by simp, rfl, rfl, rfl, ?_, ?_⟩, ⟨?_, ?_, ?_, ?_⟩⟩
 · intro x hx; simp [aL] at hx
   by_cases e : x = H.size
   · omega
   · simp [f', e]
 · simp [aL]
 · intro x hx hlk; have := aU.1 hm; rw [aL, ah.bX, if_neg (by simp; omega), ah.cz, if_neg (by omega)]
 · intro cb _ hn; exact setRow_other w l.blk cb _ (fun ex => hn ⟨b, k, l, hb, hm, hl, ex.symm⟩)
 · intro cb _ ⟨x, c, m, hx, hxm, hfm, hcb⟩
   by_cases e : x = H.size
   · subst e; rw [hf0] at hfm; cases hfm; exact ⟨b, k, l, hb, hm, hl, hcb⟩
   · obtain ⟨_, h1, h2⟩ := hold x c hx e; exact ⟨x, c, m, h1, by simpa [aU, aL] using hxm, by rw [<- h2]; exact hfm, hcb⟩
 · intro x c hx
   by_cases ex : x = H.size
   · subst ex; have := hnew c hx; subst this; refine ⟨L, D, e, (0, 0), hf0, setRow_heap w l.blk C _ e (0, 0) hw, ?_, ?_⟩
     · intro i v hi; have hil : i < k.cells.length + vs'.length := by
        have h1 := (List.getElem?_eq_some_iff.1 hi).1; have h2 := hv.1; simp at h1; omega
       have hD := hDget i hil; show bf v = true /\ ∃ v', D[l.off + i]? = some v' /\ V f' v v'; rw [hD]; simp only [List.getElem?_append] at hi
       by_cases h1 : i < k.cells.length
       · rw [if_pos h1] at hi ⊢; obtain ⟨a1, v', a2, a3⟩ := hcs i v hi; exact ⟨a1, v', a2, a3.mono hle⟩
       · rw [if_neg h1] at hi ⊢; obtain ⟨v', a2, a3⟩ := hv.get hi; exact ⟨hc v (List.mem_of_getElem? hi), v', a2, a3.mono hle⟩
     · intro _; refine ⟨rfl, ?_⟩; show l.room <= D.size; omega
   · obtain ⟨hxb, h1, h2⟩ := hold x c hx ex; obtain ⟨m, C', e', fr, hfm, hw', hcs', hmm'⟩ := hR.blk x c h1; have hne' : m.blk ≠ l.blk := Ne.symm (hR.inj b x k c l m hb h1 hm (Ne.symm hxb) hl hfm); refine ⟨m, C', e', fr, by rw [h2]; exact hfm, by rw [setRow_other w l.blk m.blk _ hne']; exact hw', ?_, fun hxm => hmm' (by simpa [aU, aL] using hxm)⟩; intro i v hi; obtain ⟨a1, v', a2, a3⟩ := hcs' i v hi; exact ⟨a1, v', a2, a3.mono hle⟩
 · intro x m hx; rw [setRow_size]
   by_cases ex : x = H.size
   · subst ex; rw [hf0] at hx; cases hx; exact hR.big b l hl
   · exact hR.big x m (by simpa [f', ex] using hx)
 · have := hR.lk; simp [aL]; omega
 · intro x y c d m n hx hy hxm hne hfm hfn
   by_cases ex : x = H.size
   · subst ex; rw [hf0] at hfm; cases hfm; obtain ⟨hyb, h3, h4⟩ := hold y d hy (Ne.symm hne); exact hR.inj b y k d l n hb h3 hm (Ne.symm hyb) hl (by rw [<- h4]; exact hfn)
   · obtain ⟨hxb, h1, h2⟩ := hold x c hx ex; have hxm' : H.nW x c = true := by simpa [aU, aL] using hxm
     by_cases ey : y = H.size
     · subst ey; rw [hf0] at hfn; cases hfn; exact hR.inj x b c k m l h1 hb hxm' hxb (by rw [<- h2]; exact hfm) hl
     · obtain ⟨hyb, h3, h4⟩ := hold y d hy ey; exact hR.inj x y c d m n h1 h3 hxm' hne (by rw [<- h2]; exact hfm) (by rw [<- h4]; exact hfn)
theorem eY (hR : R f H w) {size n : Nat} {x x' : Value} {cs : List Value} (hx : V f x x') (hn : ∀ a m c, x = .slice a m c -> n <= m) (h : aX H size n x = some cs) :
 cs.length = n * size /\ ∃ cs', VL f cs cs' /\ (∀ u ∈ cs, bf u = true) /\ (Builtin.firstCells size n x').run P w = .ok cs'.toArray w /\
  (n = 0 \/ ∃ a m c, x' = .slice (some a) m c /\ ∀ (j : Nat) v, cs'[j]? = some v -> w.cell? (a.add j) = some v) := by
 unfold aX at h
 split at h
 · cases hx
   split at h
   · rename_i h0; cases h; subst h0; exact ⟨by simp, [], .nil f, by simp, by simp [Builtin.firstCells], .inl rfl⟩
   · cases h
 · rename_i b off sp m c; obtain ⟨hlen, l, C, e, fr, hl, hw, cs', hvl, hcell, hc⟩ := hR.cells h
   by_cases h0 : n = 0
   · subst h0; have : cs = [] := by simpa using hlen
     subst this; cases hx <;> exact ⟨by simp, [], .nil f, by simp, by simp [Builtin.firstCells, loadCells, loadCellsFrom], .inl rfl⟩
   · cases hx with
     | slX _ _ _ _ l2 a hl2 ha =>
      rw [hl] at hl2; cases hl2; have ha : a = ⟨l.blk, l.off + off, none⟩ := by
       rcases ha with h | h
       · exact h
       · have := hn _ _ _ rfl; omega
      subst ha; have hcc : ∀ (j : Nat) v, cs'[j]? = some v -> w.cell? ((⟨l.blk, l.off + off, none⟩ : Addr).add j) = some v := by
       intro j v hj; rw [Addr.add_eq, yO hw]; exact hc j v hj
      refine ⟨hlen, cs', hvl, hcell, ?_, .inr ⟨_, _, _, rfl, hcc⟩⟩; exact run_firstCells_some w size n _ m c cs' (by rw [<- hvl.1]; exact hlen) hcc
     | slL _ _ _ _ _ off' c' l2 hl2 hnc hcc hr ho =>
      rw [hl] at hl2; cases hl2; have := hn _ _ _ rfl; have : off' = l.off + off := ho (by omega); subst this; have hcc : ∀ (j : Nat) v, cs'[j]? = some v -> w.cell? ((⟨l.blk, l.off + off, none⟩ : Addr).add j) = some v := by
       intro j v hj; rw [Addr.add_eq, yO hw]; exact hc j v hj
      refine ⟨hlen, cs', hvl, hcell, ?_, .inr ⟨_, _, _, rfl, hcc⟩⟩; exact run_firstCells_some w size n _ m c' cs' (by rw [<- hvl.1]; exact hlen) hcc
 · cases h
end
end
end Go.Proofs.YtdbkoeefnodejaaGreat.Ev
namespace Go.Proofs.YtdbkoeefnodejaaGreat.Ev
noncomputable section
open Go
section
variable {P : Program} {f : Fm} {H : ah} {w : World}
theorem gW {t ty e : TypeId} {i : TypeInfo} (ht : P.underlying t = some (.slice e)) (hi : P.info? e = some i)
 {g o sLen sCap : Nat} {cur : Array Value} {e' : TypeId} (hg : w.heap[g]? = some (.cells cur e' (0, 0)))
 {x : Value} {a : Addr} {m c : Nat} (hx : x = .slice (some a) m c) {news : List Value} (hf : (Builtin.firstCells i.size m x).run P w = .ok news.toArray w) (hc : ∀ u ∈ news, bf u = true)
 (hroom : sLen + m <= sCap) (hfit : o + sLen * i.size + news.length <= cur.size) :
 (Builtin.append_ #[t, t] ty #[.slice (some ⟨g, o, none⟩) sLen sCap, x]).run P w =
  .ok (.slice (some ⟨g, o, none⟩) (sLen + m) sCap) (w.setRow g (cur.toList.take (o + sLen * i.size) ++ news ++ cur.toList.drop (o + sLen * i.size + news.length)).toArray) := by
 subst hx; have hst := run_storeCells_at P g (o + sLen * i.size) e' news 0 cur w hg (by simpa using hfit) (fun u hu => nO (hc u hu)); simp only [Nat.add_zero] at hst; simp [Builtin.append_, run_underlying ht, sizeOf, typeInfo, hi, Builtin.lenOf, hroom, hf, Addr.add_eq, hst]
theorem iJ {t ty e : TypeId} {i : TypeInfo} (ht : P.underlying t = some (.slice e)) (hi : P.info? e = some i)
 {a b : Option Addr} {sLen sCap c : Nat} (hroom : sLen <= sCap) :
 (Builtin.append_ #[t, t] ty #[.slice a sLen sCap, .slice b 0 c]).run P w = .ok (.slice a sLen sCap) w := by
 cases a <;> cases b <;> simp [Builtin.append_, run_underlying ht, sizeOf, typeInfo, hi, Builtin.lenOf, hroom, Builtin.firstCells, loadCells, loadCellsFrom, storeCells]
theorem sj (z : Array Value) (n : Nat) : (Builtin.zeroCells z n).size = n * z.size := by simp [Builtin.zeroCells]
theorem vU {olds news : List Value} {z : Array Value} {need cap size : Nat} (hlen : olds.length + news.length = need * size) (hz : z.size = size) (hge : need <= cap) :
 (olds.toArray ++ news.toArray ++ Builtin.zeroCells z (cap - need)).size = cap * size := by
 simp only [Array.size_append, List.size_toArray, sj, hz, hlen, <- Nat.add_mul]
 congr 1; omega
theorem VL.rS {cs cs' : List Value} (h : VL f cs cs') (_hc : ∀ u ∈ cs, bf u = true) (rest : Array Value) :
 ∀ (i : Nat) v, cs[i]? = some v -> ∃ v', (cs'.toArray ++ rest)[i]? = some v' /\ V f v v' := by
 intro i v hi; obtain ⟨v', h1, h2⟩ := h.get hi; have hlt : i < cs'.length := (List.getElem?_eq_some_iff.1 h1).1; refine ⟨v', ?_, h2⟩; rw [Array.getElem?_append, if_pos (by simpa using hlt)]; simpa using h1
theorem pD {s s' : Value} (h : V f s s') {a : Option Addr} {n c : Nat} (hs : s = .slice a n c) : ∃ a' c', s' = .slice a' n c' := by
 subst hs; cases h with
 | dF => exact ⟨_, _, rfl⟩
 | slX => exact ⟨_, _, rfl⟩
 | slL => exact ⟨_, _, rfl⟩
theorem wC (hR : R f H w) {t u ty : TypeId} {s s' x x' v : Value} {H' : ah} (hfree : ∀ j, H.size <= j -> j < H'.size -> f j = none) (hs : V f s s') (hx : V f x x')
 (h : et P H t u s x = some (v, H')) :
 ∃ f' w' v', (Builtin.append_ #[t, u] ty #[s', x']).run P w = .ok v' w' /\ V f' v v' /\ Stp f H w f' H' w' /\ R f' H' w' := by
 unfold et at h
 split at h
 case isFalse => cases h
 rename_i htu; subst htu
 split at h
 case h_2 => cases h
 rename_i elem base sLen sCap xa n xc hu; cases hi : P.info? elem with
 | none => simp [hi] at h
 | some i =>
 cases hz : i.zero with
 | none => simp [hi, hz] at h
 | some z =>
 simp only [hi, hz] at h
 split at h
 case h_2 => cases h
 rename_i zc new hzc hnew
 split at h
 case isFalse => cases h
 rename_i hcond; obtain ⟨hzl, hsz0, hlc, hbig, hbytes⟩ := hcond; obtain ⟨e1, hzvl, hzcell⟩ := kv f hzc; have hzs : z.cells.size = i.size := by rw [<- hzl, <- e1]; simp
 obtain ⟨xa', xc', hx'⟩ := pD hx rfl; obtain ⟨hnlen, new', hnvl, hncell, hnrun, hnaddr⟩ := eY (P := P) hR hx (by intro a m c e; cases e; exact Nat.le_refl _) hnew; have hnl' : new'.length = n * i.size := by rw [<- hnvl.1]; exact hnlen
 have hncell' : ∀ u ∈ new', bf u = true := by
  intro u hu'; obtain ⟨j, hj⟩ := List.getElem?_of_mem hu'; have hjl : j < new.length := by rw [hnvl.1]; exact (List.getElem?_eq_some_iff.1 hj).1
  rw [(hnvl.2 j _ _ (List.getElem?_eq_getElem hjl) hj).cell]; exact hncell _ (List.getElem_mem hjl)
 split at h
 ·
  cases h; subst hx'; cases hs with
  | dF => exact ⟨f, w, _, iJ hu hi (Nat.le_refl _), .dF, .refl f H w, hR⟩
  | slX b off _ _ l a hl ha => exact ⟨f, w, _, iJ hu hi hlc, .slX b off _ _ l a hl ha, .refl f H w, hR⟩
  | slL b off e _ _ off' c' l hl h1 h2 h3 h4 => exact ⟨f, w, _, iJ hu hi (by omega), .slL b off e _ _ off' c' l hl h1 h2 h3 h4, .refl f H w, hR⟩
 rename_i n0 m; have hbytes : (sLen + (m + 1)) * i.bytes < 35184372088832 := hbytes; have hbig : sLen + (m + 1) < 1099511627776 := hbig; have hnl' : new'.length = (m + 1) * i.size := hnl'; rcases hnaddr with h0 | ⟨xad, xm, xcc, hxe, hxc⟩
 · omega
 have hxm : xm = m + 1 := by rw [hx'] at hxe; cases hxe; rfl
 subst hxm; rw [hxe] at hnrun ⊢
 split at h
 ·
  cases h; cases hs; have hr := run_append_nil (P := P) w t ty elem i z hu hi hz xad (m + 1) xcc new' hnl' hxc (by omega) (by omega) (by simp at hbytes; omega); have hge := grownCap_ge w (m + 1) 0 elem; have hroom := vU (olds := []) (news := new') (z := z.cells) (need := m + 1) (cap := grownCap w (m + 1) 0 elem) (size := i.size) (by simpa using hnl') hzs hge; have hroom : (new'.toArray ++ Builtin.zeroCells z.cells (grownCap w (m + 1) 0 elem - (m + 1))).size = grownCap w (m + 1) 0 elem * i.size := by simpa using hroom
  obtain ⟨f', g1, g2, g3⟩ := hR.drew.push (hfree _ (Nat.le_refl _) (by simp [aL])) (grownCap w (m + 1) 0 elem * i.size) new
   (new'.toArray ++ Builtin.zeroCells z.cells (grownCap w (m + 1) 0 elem - (m + 1))) elem hncell (hnvl.rS hncell _) (by rw [hroom]; exact Nat.le_refl _)
  refine ⟨f', _, _, hr, ?_, g2.drew, g3⟩; exact .slL H.size 0 i.size _ _ 0 _ _ g1 (Nat.le_refl _) hge (by simp) (fun _ => rfl)
 · rename_i b off sp
   split at h
   ·
    rename_i hfitE; have hfitE : sLen + (m + 1) <= sCap := by simpa using hfitE
    simp only [Option.map_eq_some_iff] at h; obtain ⟨H2, hset, hv⟩ := h; cases hv; obtain ⟨l, C, e, hl, hw, hfit, hstp, hR'⟩ := hR.store hset hnvl hncell; rw [<- Nat.add_assoc] at hfit hstp hR'; cases hs with
    | slX _ _ _ _ l2 a hl2 ha =>
     rw [hl] at hl2; cases hl2; have ha : a = ⟨l.blk, l.off + off, none⟩ := by rcases ha with h | h; exact h; omega
     subst ha; exact ⟨f, _, _, gW hu hi hw rfl hnrun hncell' hfitE hfit, .slX b off _ _ l _ hl (.inl rfl), hstp, hR'⟩
    | slL _ _ e2 _ _ off' c' l2 hl2 h1 h2 h3 h4 =>
     rw [hl] at hl2; cases hl2; have : off' = l.off + off := h4 (by omega); subst this; exact ⟨f, _, _, gW hu hi hw rfl hnrun hncell' (by omega) hfit, .slL b off e2 _ _ _ c' l hl (by omega) h2 h3 h4, hstp, hR'⟩
   · rename_i hfitE; have hfitE : ¬ (sLen + (m + 1) <= sCap) := by simpa using hfitE
     split at h
     case h_2 => cases h
     rename_i old hold; obtain ⟨holen, old', hovl, hocell, horun, hoaddr⟩ := eY (P := P) hR hs (by intro a m' c e; cases e; exact Nat.le_refl _) hold; have hol' : old'.length = sLen * i.size := by rw [<- hovl.1]; exact holen
     have hall := hovl.append hnvl; have hallc : ∀ u ∈ old ++ new, bf u = true := by
      intro u hu'; rcases List.mem_append.1 hu' with h1 | h1
      · exact hocell u h1
      · exact hncell u h1
     have hsum : old'.length + new'.length = (sLen + (m + 1)) * i.size := by rw [hol', hnl']; exact (Nat.add_mul _ _ _).symm
     have hgrow : ∀ (b' : Addr) (cap : Nat) (H1 : ah), Stp f H w f H1 w -> R f H1 w -> H1.size = H.size -> (f H.size = none) -> sLen <= cap -> cap < sLen + (m + 1) ->
      (sLen = 0 \/ ∀ (j : Nat) u, old'[j]? = some u -> w.cell? (b'.add j) = some u) ->
      ∃ f' w' v', (Builtin.append_ #[t, t] ty #[.slice (some b') sLen cap, .slice (some xad) (m + 1) xcc]).run P w = .ok v' w' /\
       V f' (.slice (some ⟨H.size, 0, some i.size⟩) (sLen + (m + 1)) (sLen + (m + 1))) v' /\ Stp f H w f' (aL H1 (old ++ new)) w' /\ R f' (aL H1 (old ++ new)) w' := by
      intro b' cap H1 hs1 hR1 hsz1 hf0 hlecap hlt haddr; have haddr' : ∀ (j : Nat) u, old'[j]? = some u -> w.cell? (b'.add j) = some u := by
       rcases haddr with h0 | h1
       · intro j u hj; have : old' = [] := by rw [h0] at hol'; simpa using hol'
         rw [this] at hj; simp at hj
       · exact h1
      have hr := run_append_grow (P := P) w t ty elem i z hu hi hz b' sLen cap old' hol' haddr' xad (m + 1) xcc new' hnl' hxc hlt (by omega) (growslice_fits hlt (by omega)); have hge := grownCap_ge w (sLen + (m + 1)) cap elem; have hroom := vU (olds := old') (news := new') (z := z.cells) (need := sLen + (m + 1)) (cap := grownCap w (sLen + (m + 1)) cap elem) (size := i.size) hsum hzs hge; have hcc : old'.toArray ++ new'.toArray = (old' ++ new').toArray := by simp
      rw [hcc] at hr hroom; obtain ⟨f', g1, g2, g3⟩ := hR1.drew.push (by rw [hsz1]; exact hf0) (grownCap w (sLen + (m + 1)) cap elem * i.size) (old ++ new)
       ((old' ++ new').toArray ++ Builtin.zeroCells z.cells (grownCap w (sLen + (m + 1)) cap elem - (sLen + (m + 1)))) elem hallc (hall.rS hallc _) (by rw [hroom]; exact Nat.le_refl _)
      refine ⟨f', _, _, hr, ?_, hs1.trans g2.drew, g3⟩; rw [<- hsz1]; exact .slL H1.size 0 i.size _ _ 0 _ _ g1 (Nat.le_refl _) hge (by simp) (fun _ => rfl)
     split at h
     ·
      rename_i e
      split at h
      case h_2 => cases h
      rename_i k hk
      split at h
      case isFalse => cases h
      rename_i hcond2; simp only [Bool.and_eq_true, beq_iff_eq, decide_eq_true_eq] at hcond2; obtain ⟨⟨⟨⟨hmine, hesz⟩, hoff⟩, hcl⟩, hpos⟩ := hcond2; subst hoff; subst hesz; cases h; have hf0 : f H.size = none := hfree _ (Nat.le_refl _) (by simp [aL]); obtain ⟨hd1, hd2⟩ := hR.drop hk hmine; obtain ⟨l2, C, e, fr, hl2, hw, hcells, hmm⟩ := hR.blk b k hk; obtain ⟨hfr, hrm⟩ := hmm hmine; subst hfr; have hkc : k.cells = old := by
       simp only [aX, ct, hk] at hold
       split at hold
       · have e2 := Option.some.inj hold; rw [<- e2, List.drop_zero, List.take_of_length_le (by omega)]
       · cases hold
      cases hs with
      | slL _ _ _ _ _ off' c' l hl h1 h2 h3 h4 =>
       have e3 : l2 = l := Option.some.inj (hl2.symm.trans hl); rw [e3] at hw hcells hrm; have hoff' : off' = l.off + 0 := h4 (by omega); rw [Nat.add_zero] at hoff'; subst hoff'
       by_cases hroomC : sLen + (m + 1) <= c'
       ·
        have hle : l.off + (sLen + (m + 1)) * i.size <= C.size := by
         have : (sLen + (m + 1)) * i.size <= c' * i.size := Nat.mul_le_mul_right _ hroomC; omega
        have hfit : l.off + k.cells.length + new'.length <= C.size := by
         rw [Nat.add_mul] at hle; omega
        obtain ⟨f', g1, g2, g3⟩ := hR.move hf0 hk hmine hl hw hnvl hncell hfit; rw [hkc] at g2 g3; rw [holen] at g2 g3; refine ⟨f', _, _, gW hu hi hw rfl hnrun hncell' hroomC (by rw [<- hcl]; exact hfit), ?_, g2, g3⟩; exact V.slL H.size 0 i.size _ _ l.off c' ⟨l.blk, l.off, l.room⟩ g1 (Nat.le_refl _) hroomC h3 (fun _ => rfl)
       · have hoa : sLen = 0 \/ ∀ (j : Nat) u, old'[j]? = some u -> w.cell? ((⟨l.blk, l.off, none⟩ : Addr).add j) = some u := by
          rcases hoaddr with h0 | ⟨a, m', c, he, hc⟩
          · exact .inl h0
          · cases he; exact .inr hc
         obtain ⟨f', w', v', r1, r2, r3, r4⟩ := hgrow ⟨l.blk, l.off, none⟩ c' (H.put b none) hd1 hd2 rfl hf0 (by omega) (by omega) hoa; exact ⟨f', w', v', r1, r2, r3, r4⟩
     ·
      cases h; have hf0 : f H.size = none := hfree _ (Nat.le_refl _) (by simp [aL]); cases hs with
      | slX _ _ _ _ l a0 hl ha =>
       have hoa : sLen = 0 \/ ∀ (j : Nat) u, old'[j]? = some u -> w.cell? (a0.add j) = some u := by
        rcases hoaddr with h0 | ⟨a, m', c, he, hc⟩
        · exact .inl h0
        · cases he; exact .inr hc
       obtain ⟨f', w', v', r1, r2, r3, r4⟩ := hgrow a0 sCap H (.refl f H w) hR rfl hf0 hlc (by omega) hoa; exact ⟨f', w', v', r1, r2, r3, r4⟩
end
end
end Go.Proofs.YtdbkoeefnodejaaGreat.Ev
namespace Go.Proofs.YtdbkoeefnodejaaGreat.Ev
noncomputable section
open Go
section
variable {P : Program} {f : Fm} {H : ah} {w : World}
theorem Cq (hR : R f H w) {t u ty : TypeId} {d d' s s' v : Value} {H' : ah} (hd : V f d d') (hs : V f s s') (h : ny P H t u d s = some (v, H')) :
 ∃ w' v', (Builtin.copy_ #[t, u] ty #[d', s']).run P w = .ok v' w' /\ V f v v' /\ Stp f H w f H' w' /\ R f H' w' := by
 unfold ny at h
 split at h
 case h_2 => cases h
 rename_i elem db dLen dCap sb sLen sCap hu; cases hi : P.info? elem with
 | none => simp [hi] at h
 | some i =>
 simp only [hi] at h; obtain ⟨sa, sc, hs'⟩ := pD hs rfl; obtain ⟨da, dc, hd'⟩ := pD hd rfl
 split at h
 ·
  rename_i hcs; cases h; obtain ⟨hlen, cs', hvl, hcell, hrun, _⟩ := eY (P := P) hR hs (by intro a m c e; cases e; exact Nat.min_le_left _ _) hcs; have hnil : cs' = [] := by have := hvl.1; simpa using this.symm
  subst hnil; subst hs'; subst hd'; refine ⟨w, _, ?_, .int .i64 _, .refl f H w, hR⟩; have hrun' : (Builtin.firstCells i.size (Nat.min sLen dLen) (.slice sa sLen sc)).run P w = .ok #[] w := hrun; cases da <;> simp [Builtin.copy_, run_underlying hu, Builtin.lenOf, sizeOf, typeInfo, hi, hrun', storeCells, goInt]
 · rename_i cs hne hcs; obtain ⟨hlen, cs', hvl, hcell, hrun, _⟩ := eY (P := P) hR hs (by intro a m c e; cases e; exact Nat.min_le_left _ _) hcs
   split at h
   · cases h
   · rename_i b off sp; simp only [Option.map_eq_some_iff] at h; obtain ⟨H2, hset, hv⟩ := h; cases hv; obtain ⟨l, C, e, hl, hw, hfit, hstp, hR'⟩ := hR.store hset hvl hcell; have hcell' : ∀ u ∈ cs', bf u = true := by
      intro u hu'; obtain ⟨j, hj⟩ := List.getElem?_of_mem hu'; have hjl : j < cs.length := by rw [hvl.1]; exact (List.getElem?_eq_some_iff.1 hj).1
      rw [(hvl.2 j _ _ (List.getElem?_eq_getElem hjl) hj).cell]; exact hcell _ (List.getElem_mem hjl)
     have hst := run_storeCells_at P l.blk (l.off + off) e cs' 0 C w hw (by simpa using hfit) (fun u hu => nO (hcell' u hu)); simp only [Nat.add_zero] at hst; have hrun' : (Builtin.firstCells i.size (Nat.min sLen dLen) (.slice sa sLen sc)).run P w = .ok cs'.toArray w := by subst hs'; exact hrun
     have haddr : da = some ⟨l.blk, l.off + off, none⟩ := by
      subst hd'; cases hd with
      | slX _ _ _ _ l2 a hl2 ha =>
       rw [hl] at hl2; cases hl2; rcases ha with h | ⟨h, _⟩
       · rw [h]
       · have : cs.length = 0 := by rw [hlen, h]; simp
         exact absurd (List.eq_nil_of_length_eq_zero this) (fun e => hne e)
      | slL _ _ _ _ _ off' c' l2 hl2 h1 h2 h3 h4 =>
       rw [hl] at hl2; cases hl2; have hpos : 0 < dLen := by
        rcases Nat.eq_zero_or_pos dLen with h0 | h0
        · have : cs.length = 0 := by rw [hlen, h0]; simp
          exact absurd (List.eq_nil_of_length_eq_zero this) (fun e => hne e)
        · exact h0
       rw [h4 (by omega)]
     subst hs'; subst hd'; subst haddr; refine ⟨_, _, ?_, .int .i64 _, hstp, hR'⟩; simp [Builtin.copy_, run_underlying hu, Builtin.lenOf, sizeOf, typeInfo, hi, hrun', hst, goInt]
 · cases h
theorem VL.cons_inv {x : Value} {xs ys : List Value} (h : VL f (x :: xs) ys) : ∃ y r, ys = y :: r /\ V f x y /\ VL f xs r := by
 cases ys with
 | nil => have := h.1; simp at this
 | cons y r => exact ⟨y, r, rfl, h.2 0 _ _ (by simp) (by simp), by have := h.1; simpa using this, fun i v v' a b => h.2 (i + 1) v v' (by simpa using a) (by simpa using b)⟩
theorem VL.m5 {ys : List Value} (h : VL f [] ys) : ys = [] := by have := h.1; simpa using this.symm
theorem VL.one {x : Value} {ys : List Value} (h : VL f [x] ys) : ∃ y, ys = [y] /\ V f x y := by
 obtain ⟨y, r, rfl, h0, h1⟩ := h.cons_inv; rw [h1.m5]; exact ⟨y, rfl, h0⟩
theorem VL.two {x u : Value} {ys : List Value} (h : VL f [x, u] ys) : ∃ y z, ys = [y, z] /\ V f x y /\ V f u z := by
 obtain ⟨y, r, rfl, h0, h1⟩ := h.cons_inv; obtain ⟨z, rfl, h2⟩ := h1.one; exact ⟨y, z, rfl, h0, h2⟩
theorem xk : ∀ l : List Value, l.foldl Cj none = none
 | [] => rfl
 | _ :: l => xk l
theorem HU : ∀ (rest rest' : List Value) (k : IntKind) (x : Int), VL f rest rest' -> ∀ v, rest.foldl Cj (some (.int k x)) = some v ->
 (rest'.foldlM Builtin.min2 (.int k x)).run P w = .ok v w /\ V f v v := by
 intro rest
 induction rest with
 | nil =>
  intro rest' k x hr v hv; have : rest' = [] := by have := hr.1; simpa using this.symm
  subst this; simp at hv; subst hv; exact ⟨by simp, .int _ _⟩
 | cons y rest ih =>
  intro rest' k x hr v hv; obtain ⟨y', r', rfl, h0, ht⟩ := hr.cons_inv; rw [List.foldl_cons] at hv; cases h0
  case int k2 n =>
   obtain ⟨h1, h2⟩ := ih r' k _ ht v hv; exact ⟨by simp only [List.foldlM_cons, Sem.run_bind, Builtin.min2, Sem.run_pure, Result.andThen_ok]; exact h1, h2⟩
  all_goals (have hv' : List.foldl Cj none rest = some v := hv; rw [xk] at hv'; cases hv')
theorem CE {ts : Array TypeId} {t : TypeId} {xs xs' : List Value} {v : Value} (hx : VL f xs xs') (h : JC xs = some v) :
 (Builtin.min_ ts t xs'.toArray).run P w = .ok v w /\ V f v v := by
 unfold JC at h
 split at h
 · rename_i k x rest; obtain ⟨y', r', rfl, h0, ht⟩ := hx.cons_inv; cases h0; exact HU rest r' k x ht v h
 · cases h
theorem wZ : ∀ l : List Value, l.foldl AQ none = none
 | [] => rfl
 | _ :: l => wZ l
theorem I2 : ∀ (rest rest' : List Value) (k : IntKind) (x : Int), VL f rest rest' -> ∀ v, rest.foldl AQ (some (.int k x)) = some v ->
 (rest'.foldlM Builtin.max2 (.int k x)).run P w = .ok v w /\ V f v v := by
 intro rest
 induction rest with
 | nil =>
  intro rest' k x hr v hv; have : rest' = [] := by have := hr.1; simpa using this.symm
  subst this; simp at hv; subst hv; exact ⟨by simp, .int _ _⟩
 | cons y rest ih =>
  intro rest' k x hr v hv; obtain ⟨y', r', rfl, h0, ht⟩ := hr.cons_inv; rw [List.foldl_cons] at hv; cases h0
  case int k2 n =>
   obtain ⟨h1, h2⟩ := ih r' k _ ht v hv; exact ⟨by simp only [List.foldlM_cons, Sem.run_bind, Builtin.max2, Sem.run_pure, Result.andThen_ok]; exact h1, h2⟩
  all_goals (have hv' : List.foldl AQ none rest = some v := hv; rw [wZ] at hv'; cases hv')
theorem CH {ts : Array TypeId} {t : TypeId} {xs xs' : List Value} {v : Value} (hx : VL f xs xs') (h : Lp xs = some v) :
 (Builtin.max_ ts t xs'.toArray).run P w = .ok v w /\ V f v v := by
 unfold Lp at h
 split at h
 · rename_i k x rest; obtain ⟨y', r', rfl, h0, ht⟩ := hx.cons_inv; cases h0; exact I2 rest r' k x ht v h
 · cases h
theorem vT (hR : R f H w) {b : Builtin} {ts : Array TypeId} {ty : TypeId} {cs : Array Bool} {xs xs' : List Value} {v : Value} {H' : ah}
 (hfree : ∀ j, H.size <= j -> j < H'.size -> f j = none) (hx : VL f xs xs') (h : gm P H b ts xs = some (v, H')) :
 ∃ f' w' v', (Go.builtin b ts ty cs xs'.toArray).run P w = .ok (.value v') w' /\ V f' v v' /\ Stp f H w f' H' w' /\ R f' H' w' := by
 obtain ⟨tl⟩ := ts; unfold gm at h
 split at h
 · split at h
   · rename_i t u s x hts; simp at hts; subst hts; obtain ⟨s', x', rfl, h1, h2⟩ := hx.two; obtain ⟨f', w', v', h1, h2⟩ := wC (ty := ty) hR hfree h1 h2 h; exact ⟨f', w', v', by simp [Go.builtin, h1], h2⟩
   · cases h
 · split at h
   · rename_i t u s x hts; simp at hts; subst hts; obtain ⟨s', x', rfl, h1, h2⟩ := hx.two; obtain ⟨w', v', h1, h2⟩ := Cq (u := u) (ty := ty) hR h1 h2 h; exact ⟨f, w', v', by simp [Go.builtin, h1], h2⟩
   · cases h
 · split at h
   · rename_i t x hts; simp at hts; subst hts; obtain ⟨x', rfl, hv⟩ := hx.one
     split at h
     · rename_i e a n c hu; cases h; obtain ⟨a', c', rfl⟩ := pD hv rfl; exact ⟨f, w, _, by simp [Go.builtin, Builtin.len_, run_underlying hu, goInt], .int _ _, .refl f H w, hR⟩
     · rename_i n e y hu; cases h; exact ⟨f, w, _, by simp [Go.builtin, Builtin.len_, run_underlying hu, goInt], .int _ _, .refl f H w, hR⟩
     · rename_i s hu; cases h; cases hv; exact ⟨f, w, _, by simp [Go.builtin, Builtin.len_, run_underlying hu, goInt], .int _ _, .refl f H w, hR⟩
     · cases h
   · cases h
 · split at h
   · rename_i t hts; simp at hts; subst hts; obtain ⟨x', rfl, hv⟩ := hx.one
     split at h
     · rename_i e hu; cases h; cases hv; exact ⟨f, w, _, by simp [Go.builtin, Builtin.cap_, run_underlying hu, goInt], .int _ _, .refl f H w, hR⟩
     · cases h
   · rename_i t b off n c hts; simp at hts; subst hts; obtain ⟨x', rfl, hv⟩ := hx.one
     split at h
     · rename_i e hu; cases h; cases hv with
       | slX b off _ _ l a hl ha => exact ⟨f, w, _, by simp [Go.builtin, Builtin.cap_, run_underlying hu, goInt], .int _ _, .refl f H w, hR⟩
     · cases h
   · cases h
 · simp only [Option.map_eq_some_iff] at h; obtain ⟨u, hu, hv⟩ := h; cases hv; obtain ⟨h1, h2⟩ := CE (P := P) (w := w) (ts := ⟨tl⟩) (t := ty) hx hu; exact ⟨f, w, _, by simp [Go.builtin, h1], h2, .refl f H w, hR⟩
 · simp only [Option.map_eq_some_iff] at h; obtain ⟨u, hu, hv⟩ := h; cases hv; obtain ⟨h1, h2⟩ := CH (P := P) (w := w) (ts := ⟨tl⟩) (t := ty) hx hu; exact ⟨f, w, _, by simp [Go.builtin, h1], h2, .refl f H w, hR⟩
 · cases h
end
end
end Go.Proofs.YtdbkoeefnodejaaGreat.Ev
namespace Go.Proofs.YtdbkoeefnodejaaGreat.Ev
noncomputable section
open Go
def Oa (P : Program) (g : FuncId) (args : List Value) (H : ah) (v : Value) (H' : ah) : Prop :=
 (∃ fn c, P.funcs[g]? = some fn /\ fn.body = some c /\ fn.name ≠ "runtime.NumGoroutine") /\
 ∀ (f : Fm) (w : World) (args' : List Value), R f H w -> (∀ j, H.size <= j -> j < H'.size -> f j = none) -> VL f args args' ->
  Calls P g args'.toArray w fun e w' => ∃ f' v', e = .returned v' /\ V f' v v' /\ Stp f H w f' H' w' /\ R f' H' w'
def yL (P : Program) (cl : FuncId -> List Value -> ah -> Option (Value × ah)) : Prop :=
 ∀ g args H v H', cl g args H = some (v, H') -> Oa P g args H v H'
section
variable {P : Program} {f : Fm} {H : ah} {w : World} {cl : FuncId -> List Value -> ah -> Option (Value × ah)}
theorem pA {ρ : Operand -> Option Value} {ρ' : Operand -> Value} : ∀ (ps : List (Nat × Operand)) (vs : List (Nat × Value)), (∀ x ∈ ps.map (·.2), ∀ v, ρ x = some v -> V f v (ρ' x)) ->
 mB ρ ps = some vs -> PV f vs (ps.map fun (i, x) => (i, ρ' x)) := by
 intro ps
 induction ps with
 | nil => intro vs _ h; simp [mB] at h; subst h; exact .nil
 | cons p ps ih =>
  intro vs hr h; obtain ⟨i, x⟩ := p; simp only [mB] at h
  split at h
  · rename_i v vs' hv hvs; cases h; cases hx : ρ x with
    | none => simp [hx] at hv
    | some u =>
     simp only [hx, Option.bind_some] at hv; have huv : u = v := by cases u <;> simp [lD] at hv <;> exact hv
     subst huv; exact .cons i u _ vs' _ (hr x (by simp) u hx) hv (ih vs' (fun y hy => hr y (by simp at hy ⊢; exact .inr hy)) hvs)
  · cases h
theorem jP {ρ : Operand -> Option Value} {ρ' : Operand -> Value} : ∀ (xs : List Operand) (vs : List Value), (∀ x ∈ xs, ∀ v, ρ x = some v -> V f v (ρ' x)) ->
 nD ρ xs = some vs -> VL f vs (xs.map ρ') := by
 intro xs
 induction xs with
 | nil => intro vs _ h; simp [nD] at h; subst h; exact .nil f
 | cons x xs ih =>
  intro vs hr h; simp only [nD] at h
  split at h
  · rename_i v vs' hv hvs; cases h; exact .cons (hr x (by simp) v hv) (ih vs' (fun y hy => hr y (by simp [hy])) hvs)
  · cases h
theorem vr {ρ : Operand -> Option Value} {ρ' : Operand -> Value} {x : Option Operand} {v : Option Value} (hr : ∀ y ∈ x.toArray, ∀ v, ρ y = some v -> V f v (ρ' y)) (h : DN ρ x = some v) :
 VO f v (x.map ρ') := by
 cases x with
 | none => simp [DN] at h; subst h; trivial
 | some y =>
  simp [DN] at h; obtain ⟨u, hu, rfl⟩ := h; exact hr y (by simp) u hu
def Did (P : Program) (o : Oper) (ρ' : Operand -> Value) (f : Fm) (H : ah) (w : World) (v : Value) (H' : ah) : Prop :=
 ∃ f' w' v', ((execOp ρ' o).run P w = .ok (.value v') w' \/ ((execOp ρ' o).run P w = .ok .skip w' /\ v' = undef)) /\ V f' v v' /\ Stp f H w f' H' w' /\ R f' H' w'
theorem Did.pure (hR : R f H w) {o : Oper} {ρ' : Operand -> Value} {v v' : Value} (h : (execOp ρ' o).run P w = .ok (.value v') w) (hv : V f v v') : Did P o ρ' f H w v H :=
 ⟨f, w, v', .inl h, hv, .refl f H w, hR⟩
theorem Qd (hR : R f H w) {o : Oper} {ρ : Operand -> Option Value} {ρ' : Operand -> Value} (hρ : ∀ x ∈ o.op.operands, ∀ v, ρ x = some v -> V f v (ρ' x)) {v : Value} {H' : ah}
 (hfree : ∀ j, H.size <= j -> j < H'.size -> f j = none) (hnc : ∀ c g, o.op = .call c -> c.callee ≠ .value g) (h : opE P cl ρ o H = some (v, H')) : Did P o ρ' f H w v H' := by
 obtain ⟨dst, op, type, pos, after, guard⟩ := o; simp only at hρ hnc; unfold opE at h; cases op <;> simp only at h <;> try (cases h; done)
 case move x =>
  simp only [Option.map_eq_some_iff] at h; obtain ⟨u, hu, e⟩ := h; cases e; exact .pure hR (by simp [execOp]) (hρ x (by simp [Op.operands]) _ hu)
 case assign x =>
  simp only [Option.map_eq_some_iff] at h; obtain ⟨u, hu, e⟩ := h; cases e; exact .pure hR (by simp [execOp]) (hρ x (by simp [Op.operands]) _ hu)
 case pick c a b =>
  split at h
  · rename_i t hc; simp only [Option.map_eq_some_iff] at h; obtain ⟨u, hu, e⟩ := h; cases e; have hc' := hρ c (by simp [Op.operands]) _ hc; cases hcc : ρ' c <;> rw [hcc] at hc' <;> try (cases hc'; done)
    cases hc'; cases t with
    | true => exact .pure hR (by simp [execOp, hcc, asBool]) (hρ a (by simp [Op.operands]) _ hu)
    | false => exact .pure hR (by simp [execOp, hcc, asBool]) (hρ b (by simp [Op.operands]) _ hu)
  · cases h
 case alloc e =>
  split at h
  · rename_i z hz; simp only [Option.map_eq_some_iff] at h; obtain ⟨cs, hcs, he⟩ := h; cases he; obtain ⟨f', w', h1, h2, h3, h4⟩ := AM hR (hfree _ (Nat.le_refl _) (by simp [aL])) e hz hcs; exact ⟨f', w', _, .inl (by simp [execOp, h1]), h2, h3, h4⟩
  · cases h
 case box e x =>
  simp only [Option.map_eq_some_iff, Option.bind_eq_some_iff] at h; obtain ⟨cs, ⟨u, hu, hcs⟩, he⟩ := h; cases he; obtain ⟨f', w', h1, h2, h3, h4⟩ := Gd (P := P) hR (hfree _ (Nat.le_refl _) (by simp [aL])) e (hρ x (by simp [Op.operands]) _ hu) hcs; exact ⟨f', w', _, .inl (by simp [execOp, h1]), h2, h3, h4⟩
 case build t ps =>
  simp only [Option.map_eq_some_iff, Option.bind_eq_some_iff] at h; obtain ⟨u, ⟨vs, hvs, hb⟩, he⟩ := h; cases he; have hp := pA (f := f) (ρ' := ρ') ps.toList vs (fun x hx => hρ x (by simpa [Op.operands] using hx)) hvs; obtain ⟨v', h1, h2⟩ := zZ (P := P) (w := w) hp hb; refine .pure hR ?_ h2; have e : (ps.toList.map fun (i, x) => (i, ρ' x)).toArray = ps.map fun (i, x) => (i, ρ' x) := by
   apply Array.ext'; simp only [Array.toList_map]
  rw [e] at h1; simp [execOp, h1]
 case buildSlice t n ps =>
  simp only [Option.bind_eq_some_iff] at h; obtain ⟨vs, hvs, hb⟩ := h; have hp := pA (f := f) (ρ' := ρ') ps.toList vs (fun x hx => hρ x (by simpa [Op.operands] using hx)) hvs; have hsz : H'.size = H.size + 1 := by
   unfold dS at hb
   repeat' split at hb
   all_goals first | (cases hb; done) | (cases hb; simp [aL])
  obtain ⟨f', w', v', h1, h2, h3, h4⟩ := pE (P := P) hR (hfree _ (Nat.le_refl _) (by omega)) hp hb; have e : (ps.toList.map fun (i, x) => (i, ρ' x)).toArray = ps.map fun (i, x) => (i, ρ' x) := by
   apply Array.ext'; simp only [Array.toList_map]
  rw [e] at h1; exact ⟨f', w', v', .inl (by simp [execOp, h1]), h2, h3, h4⟩
 case load t a =>
  simp only [Option.map_eq_some_iff, Option.bind_eq_some_iff] at h; obtain ⟨u, ⟨p, hp, hl⟩, he⟩ := h; cases he; obtain ⟨v', h1, h2⟩ := mo hR (hρ a (by simp [Op.operands]) _ hp) hl; exact .pure hR (by simp [execOp, h1]) h2
 case store t a x =>
  split at h
  · rename_i p u hp hu; simp only [Option.map_eq_some_iff] at h; obtain ⟨H2, hs, he⟩ := h; cases he; obtain ⟨w', h1, h2, h3⟩ := yw hR (hρ a (by simp [Op.operands]) _ hp) (hρ x (by simp [Op.operands]) _ hu) hs; exact ⟨f, w', undef, .inr ⟨by simp [execOp, h1], rfl⟩, V.undef f, h2, h3⟩
  · cases h
 case nilCheck x =>
  split at h
  · rename_i a ha; cases h; have hv := hρ x (by simp [Op.operands]) _ ha; cases hx : ρ' x <;> rw [hx] at hv <;> try (cases hv; done)
    rename_i a'; cases a' with
    | none => cases hv
    | some a' => exact .pure hR (by simp [execOp, hx]) hv
  · rename_i a n c ha; cases h; have hv := hρ x (by simp [Op.operands]) _ ha; cases hx : ρ' x <;> rw [hx] at hv <;> try (cases hv; done)
    exact .pure hR (by simp [execOp, hx]) hv
  · rename_i g y z ha; cases h; have hv := hρ x (by simp [Op.operands]) _ ha; cases hx : ρ' x <;> rw [hx] at hv <;> try (cases hv; done)
    rename_i fn y' z'; cases fn with
    | func g' => exact .pure hR (by simp [execOp, hx]) hv
    | _ => cases hv
  · cases h
 case binOp op t x y ty =>
  split at h
  · rename_i a b ha hb; simp only [Option.map_eq_some_iff] at h; obtain ⟨u, hu, he⟩ := h; cases he; obtain ⟨h1, h2, h3⟩ := Cv (w := w) (hρ x (by simp [Op.operands]) _ ha) (hρ y (by simp [Op.operands]) _ hb) hu; exact .pure hR (by simp [execOp, h1, h2]) h3
  · cases h
 case unOp op t x =>
  simp only [Option.map_eq_some_iff, Option.bind_eq_some_iff] at h; obtain ⟨u, ⟨p, hp, hl⟩, he⟩ := h; cases he; obtain ⟨h1, h2⟩ := FV (P := P) (w := w) (hρ x (by simp [Op.operands]) _ hp) hl; exact .pure hR (by simp [execOp, h1]) h2
 case convert s d x =>
  simp only [Option.map_eq_some_iff, Option.bind_eq_some_iff] at h; obtain ⟨u, ⟨p, hp, hl⟩, he⟩ := h; cases he; obtain ⟨h1, h2⟩ := Bn (P := P) (w := w) (hρ x (by simp [Op.operands]) _ hp) hl; exact .pure hR (by simp [execOp, h1]) h2
 case makeFunc fn a b =>
  split at h
  · rename_i g xs ys hxs hys; cases h; have v1 := jP (f := f) (ρ' := ρ') a.toList xs (fun x hx => hρ x (by simp [Op.operands]; exact .inl (by simpa using hx))) hxs; have v2 := jP (f := f) (ρ' := ρ') b.toList ys (fun x hx => hρ x (by simp [Op.operands]; exact .inr (by simpa using hx))) hys; refine .pure hR (v' := .func (.func g) (a.map ρ') (b.map ρ')) (by simp [execOp, Instr.makeFunc]) ?_
    refine .func g _ _ _ _ (by simpa using v1.1) (by simpa using v2.1) ?_ ?_
    · intro i u u' h1 h2; exact v1.2 i u u' (by simpa using h1) (by simpa using h2)
    · intro i u u' h1 h2; exact v2.2 i u u' (by simpa using h1) (by simpa using h2)
  · cases h
 case makeSlice t l c =>
  split at h
  · rename_i a b ha hb; have hsz : H'.size = H.size + 1 := by
     unfold rB at h
     repeat' split at h
     all_goals first | (cases h; done) | (cases h; simp [aL])
    obtain ⟨f', w', v', h1, h2, h3, h4⟩ := BB (P := P) hR (hfree _ (Nat.le_refl _) (by omega)) (hρ l (by simp [Op.operands]) _ ha) (hρ c (by simp [Op.operands]) _ hb) h; exact ⟨f', w', v', .inl (by simp [execOp, h1]), h2, h3, h4⟩
  · cases h
 case slice t x lo hi mx =>
  cases mx with
  | some m => cases h
  | none =>
   simp only at h
   split at h
   · rename_i a l u ha hl hu; simp only [Option.map_eq_some_iff] at h; obtain ⟨r, hr, he⟩ := h; cases he; have e1 := vr (f := f) (ρ' := ρ') (fun y hy => hρ y (by simp [Op.operands] at hy ⊢; simp [hy])) hl; have e2 := vr (f := f) (ρ' := ρ') (fun y hy => hρ y (by simp [Op.operands] at hy ⊢; simp [hy])) hu; obtain ⟨v', h1, h2⟩ := zX (P := P) (w := w) (hρ x (by simp [Op.operands]) _ ha) e1 e2 hr; exact .pure hR (by simp [execOp, h1]) h2
   · cases h
 case fieldAddr s x n =>
  simp only [Option.map_eq_some_iff, Option.bind_eq_some_iff] at h; obtain ⟨u, ⟨p, hp, hl⟩, he⟩ := h; cases he; obtain ⟨v', h1, h2⟩ := qB (P := P) (w := w) (hρ x (by simp [Op.operands]) _ hp) hl; exact .pure hR (by simp [execOp, h1]) h2
 case field s x n =>
  simp only [Option.map_eq_some_iff, Option.bind_eq_some_iff] at h; obtain ⟨u, ⟨p, hp, hl⟩, he⟩ := h; cases he; obtain ⟨v', h1, h2⟩ := zk (P := P) (w := w) (hρ x (by simp [Op.operands]) _ hp) hl; exact .pure hR (by simp [execOp, h1]) h2
 case indexAddr t x i =>
  split at h
  · rename_i a b ha hb; simp only [Option.map_eq_some_iff] at h; obtain ⟨u, hu, he⟩ := h; cases he; obtain ⟨v', h1, h2⟩ := qO (P := P) (w := w) (hρ x (by simp [Op.operands]) _ ha) (hρ i (by simp [Op.operands]) _ hb) hu; exact .pure hR (by simp [execOp, h1]) h2
  · cases h
 case index t x i =>
  split at h
  · rename_i a b ha hb; simp only [Option.map_eq_some_iff] at h; obtain ⟨u, hu, he⟩ := h; cases he; obtain ⟨v', h1, h2⟩ := Ao (P := P) (w := w) (hρ x (by simp [Op.operands]) _ ha) (hρ i (by simp [Op.operands]) _ hb) hu; exact .pure hR (by simp [execOp, h1]) h2
  · cases h
 case extract x n =>
  simp only [Option.map_eq_some_iff, Option.bind_eq_some_iff] at h; obtain ⟨u, ⟨p, hp, hl⟩, he⟩ := h; cases he; obtain ⟨v', h1, h2⟩ := vL (P := P) (w := w) (hρ x (by simp [Op.operands]) _ hp) hl; exact .pure hR (by simp [execOp, h1]) h2
 case call c =>
  split at h
  · rename_i args hargs; have va := jP (f := f) (ρ' := ρ') c.args.toList args (fun x hx => hρ x (by simp [Op.operands, Call.operands]; exact .inr (by simpa using hx))) hargs
    split at h
    · rename_i b hb; obtain ⟨f', w', v', h1, h2⟩ := vT (ty := type) (cs := c.args.map fun | .const _ => true | _ => false) hR hfree va h; have e : (c.args.toList.map ρ').toArray = c.args.map ρ' := by
       apply Array.ext'; simp only [Array.toList_map]
      rw [e] at h1; exact ⟨f', w', v', .inl (by simp only [execOp, resolve, hb, invoke, Sem.run_bind, Sem.run_pure, Result.andThen_ok]; exact h1), h2⟩
    · rename_i g hg; exact absurd hg (hnc c g rfl)
    · cases h
  · cases h
end
end
end Go.Proofs.YtdbkoeefnodejaaGreat.Ev
namespace Go.Proofs.YtdbkoeefnodejaaGreat.Ev
noncomputable section
open Go
inductive Kd where
 | pure
 | load
 | quiet
 | cT
def fb (L : List FuncId) (o : Oper) : Kd :=
 match o.op with
 | .load .. => .load
 | .store .. => .cT
 | .alloc _ => .quiet
 | .box .. => .quiet
 | .buildSlice .. => .quiet
 | .makeSlice .. => .quiet
 | .call c =>
  match c.callee with
  | .builtin .append => .quiet
  | .builtin .copy => .cT
  | .builtin _ => .pure
  | .value (.func g) => if L.contains g then .cT else .quiet
  | .value _ => .quiet
  | .invoke .. => .cT
 | _ => .pure
def iA (o : Oper) : Bool :=
 match o.op with
 | .call c => (match c.callee with | .builtin .append => true | _ => false)
 | _ => false
structure Rec where
 kind : Kd
 v : Value
 h0 : ah
 h1 : ah
 ld : Option (TypeId × Value)
def dr (p : Nat -> Bool) : List Rec -> Nat -> List (Nat × Nat)
 | [], _ => []
 | r :: rs, k => if p k then dr p rs (k + 1) else (r.h0.size, r.h1.size) :: dr p rs (k + 1)
def cH (H : ah) (p : Nat -> Bool) (rs : List Rec) : ah := { H with lock := H.size, hid := dr p rs 0 ++ H.hid }
def cE (H H' : ah) : ah := { H' with lock := H.lock, hid := H.hid }
def eqc : Value -> Value -> Bool
 | .int k n, .int k' m => k == k' && n == m
 | .bool a, .bool b => a == b
 | .pointer a, .pointer b => a == b
 | .slice a n c, .slice b m d => a == b && n == m && c == d
 | .nilFunc, .nilFunc => true
 | _, _ => false
def wE : List Value -> List Value -> Bool
 | [], [] => true
 | a :: r, b :: s => eqc a b && wE r s
 | _, _ => false
def eqv : Value -> Value -> Bool
 | .agg xs, .agg ys => wE xs.toList ys.toList
 | a, b => eqc a b
def aZ (A : Array Nat) (i k : Nat) : Bool := (A.getD i 0).testBit k
section
variable (P : Program) (L : List FuncId) (cl : FuncId -> List Value -> ah -> Option (Value × ah))
def dR (ops : Array Oper) (A : Array Nat) (i : Nat) (o : Oper) (s : St) (rs : List Rec) : Option Rec :=
 match dy ops s.fr o with
 | false => some ⟨.pure, undef, s.hp, s.hp, none⟩
 | true =>
  match fb L o with
  | .pure =>
   match opE P cl (dj s.fr) o s.hp with
   | some (v, _) => some ⟨.pure, v, s.hp, s.hp, none⟩
   | none => none
  | .load =>
   match o.op with
   | .load t a =>
    match dj s.fr a with
    | some p =>
     match cd P (cH s.hp (aZ A i) rs) t p with
     | some v => some ⟨.load, v, s.hp, s.hp, some (t, p)⟩
     | none => none
    | none => none
   | _ => none
  | .quiet =>
   match opE P cl (dj s.fr) o (cH s.hp (aZ A i) rs) with
   | some (v, H') => some ⟨.quiet, v, s.hp, cE s.hp H', none⟩
   | none =>
    if iA o then
     match opE P cl (dj s.fr) o s.hp with
     | some (v, H') => some ⟨.cT, v, s.hp, H', none⟩
     | none => none
    else none
  | .cT =>
   match opE P cl (dj s.fr) o s.hp with
   | some (v, H') => some ⟨.cT, v, s.hp, H', none⟩
   | none => none
def eK (ops : Array Oper) (A : Array Nat) : List Oper -> Nat -> St -> List Rec -> Option (St × List Rec)
 | [], _, s, rs => some (s, rs)
 | o :: l, i, s, rs =>
  match dR P L cl ops A i o s rs with
  | some r => eK ops A l (i + 1) ⟨gp s.fr o.dst r.v, r.h1⟩ (rs ++ [r])
  | none => none
def vE (A : Array Nat) (rs : List Rec) (i : Nat) (a : Rec) (j : Nat) (b : Rec) : Bool :=
 match b.kind with
 | .cT =>
  match a.kind with
  | .pure => true
  | .load =>
   aZ A i j || aZ A j i ||
   (match a.ld with
    | some (t, p) =>
     match cd P (if j < i then cH b.h0 (aZ A i) (rs.take j) else b.h1) t p with
     | some v => eqv a.v v
     | none => false
    | none => false)
  | _ => i == j || aZ A i j || aZ A j i
 | _ => true
def ni (A : Array Nat) (rs : List Rec) : Bool := rs.zipIdx.all fun (a, i) => rs.zipIdx.all fun (b, j) => vE P A rs i a j b
end
def fY (ops : Array Oper) (A : Array Nat) (nt : Nat) : Bool :=
 ops.toList.zipIdx.all (fun (o, i) =>
  o.after.toList.all (fun e => !Region.binds .any e || decide (e.on < i)) &&
  (List.range ops.size).all (fun k => !aZ A i k || (decide (k < i) && o.after.toList.any fun e => Region.binds .any e && (e.on == k || aZ A e.on k))) &&
  (match o.dst with | some d => decide (d < nt) | none => true) &&
  ops.toList.zipIdx.all (fun (q, k) =>
   match q.dst with
   | some d => i == k || (o.dst != some d && (!(o.looksAt ops).contains d || aZ A i k || aZ A k i))
   | none => true) &&
  (match o.op with | .select .. => false | _ => true))
section
variable (P : Program) (L : List FuncId) (cl : FuncId -> List Value -> ah -> Option (Value × ah))
def jv (ops : Array Oper) (s : St) : Option St :=
 match fY ops (Region.before ops) s.fr.length with
 | false => none
 | true =>
  match eK P L cl ops (Region.before ops) ops.toList 0 s [] with
  | some (s', rs) => if ni P (Region.before ops) rs then some s' else none
  | none => none
def ig : Nat -> (St -> Option (Ex × St)) -> St -> Option (Ex × St)
 | 0, _, _ => none
 | n + 1, body, s =>
  match body s with
  | some (.normal, s') => ig n body s'
  | r => r
def aY (N : Nat) : Code -> St -> Option (Ex × St)
 | .skip, s => some (.normal, s)
 | .region _ ops d, s =>
  match d with
  | false => (iR P cl ops ops.toList s).map (Ex.normal, ·)
  | true => (jv P L cl ops s).map (Ex.normal, ·)
 | .seq a b, s =>
  match aY N a s with
  | some (.normal, s') => aY N b s'
  | r => r
 | .cond c a b, s =>
  match dj s.fr c with
  | some (.bool true) => aY N a s
  | some (.bool false) => aY N b s
  | _ => none
 | .block id body, s =>
  match aY N body s with
  | some (.exit k, s') => if k = id then some (.normal, s') else some (.exit k, s')
  | r => r
 | .loop body, s => ig N (aY N body) s
 | .exit id, s => some (.exit id, s)
 | .label _, s => some (.normal, s)
 | .ret, s => some (.ret, s)
 | .scope _, _ => none
 | .rangeFunc .., _ => none
 | .goto _, _ => none
 | .refuse _, _ => none
def dW (H : ah) (fr : List Value) : List ResultVar -> Option (List Value)
 | [] => some []
 | .tmp t :: r =>
  match dW H fr r with
  | some vs => some (fr.getD t undef :: vs)
  | none => none
 | .cell a t :: r =>
  match cd P H t (fr.getD a undef), dW H fr r with
  | some v, some vs => some (v :: vs)
  | _, _ => none
def j5 : List Value -> Value
 | [v] => v
 | vs => .tuple vs.toArray
end
def kZ (P : Program) (L : List FuncId) (self : FuncId -> List Value -> ah -> Option (Value × ah)) (n : Nat) (g : FuncId) (args : List Value) (H : ah) : Option (Value × ah) :=
 match P.funcs[g]? with
 | some fn =>
  match fn.body with
  | some c =>
   match aY P L self n c ⟨args ++ List.replicate (fn.ntmps - args.length) undef, H⟩ with
   | some (.normal, s) => (dW P s.hp s.fr fn.results.toList).map fun vs => (j5 vs, s.hp)
   | some (.ret, s) => (dW P s.hp s.fr fn.results.toList).map fun vs => (j5 vs, s.hp)
   | _ => none
  | none => none
 | none => none
abbrev bt := FuncId -> List Value -> Option Value
def bu (P : Program) (L : List FuncId) (O : bt) : Nat -> FuncId -> List Value -> ah -> Option (Value × ah)
 | 0, _, _, _ => none
 | n + 1, g, args, H =>
  match O g args with
  | some v => some (v, H)
  | none => kZ P L (bu P L O n) n g args H
theorem la {P : Program} {L : List FuncId} {O : bt} {n : Nat} {g : FuncId} {args : List Value} {v : Value} {H : ah} (h : O g args = some v) : bu P L O (n + 1) g args H = some (v, H) := by
 simp [bu, h]
theorem mM {P : Program} {L : List FuncId} {O : bt} {n : Nat} {g : FuncId} {args : List Value} {H : ah} (h : O g args = none) :
 bu P L O (n + 1) g args H = kZ P L (bu P L O n) n g args H := by
 simp [bu, h]
end
end Go.Proofs.YtdbkoeefnodejaaGreat.Ev
namespace Go.Proofs.YtdbkoeefnodejaaGreat.Ev
noncomputable section
open Go
structure Fr (H H' : ah) : Prop where
 size : H.size <= H'.size
 lock : H'.lock = H.lock
 hid : H'.hid = H.hid
 root : ∀ x, x < H.size -> x < H.lock -> H'.root.get x = H.root.get x
theorem Fr.refl (H : ah) : Fr H H := ⟨Nat.le_refl _, rfl, rfl, fun _ _ _ => rfl⟩
theorem Fr.trans {A B C : ah} (a : Fr A B) (b : Fr B C) : Fr A C :=
 ⟨Nat.le_trans a.size b.size, b.lock.trans a.lock, b.hid.trans a.hid, fun x h1 h2 => (b.root x (Nat.lt_of_lt_of_le h1 a.size) (by rw [a.lock]; exact h2)).trans (a.root x h1 h2)⟩
theorem Fr.push (H : ah) (b : Blk) : Fr H (H.push b) := ⟨by simp, rfl, rfl, fun x h1 _ => by rw [ah.bX, if_neg (by omega)]⟩
theorem Fr.put (H : ah) (j : Nat) (b : Option Blk) (h : H.lock <= j) : Fr H (H.put j b) := ⟨by simp, rfl, rfl, fun x _ h2 => by rw [ah.cz, if_neg (by omega)]⟩
theorem mg {H H' : ah} {b off : Nat} {vs : List Value} (h : dv H b off vs = some H') : Fr H H' := by
 unfold dv at h
 split at h
 · split at h
   · rename_i hc; cases h; simp only [Bool.and_eq_true] at hc; exact .put H b _ (aU.1 hc.1.1)
   · cases h
 · cases h
section
variable {P : Program}
theorem Gs {H H' : ah} {t : TypeId} {p v : Value} (h : mE P H t p v = some H') : Fr H H' := by
 unfold mE at h
 repeat' split at h
 all_goals first | (cases h; done) | exact mg h
theorem GF {H H' : ah} {t : TypeId} {a b v : Value} (h : rB P H t a b = some (v, H')) : Fr H H' := by
 unfold rB at h
 repeat' split at h
 all_goals first | (cases h; done) | (cases h; exact .push H _)
theorem uY {H H' : ah} {t : TypeId} {n : Nat} {ps : List (Nat × Value)} {v : Value} (h : dS P H t n ps = some (v, H')) : Fr H H' := by
 unfold dS at h
 repeat' split at h
 all_goals first | (cases h; done) | (cases h; exact .push H _)
theorem CW {H H' : ah} {t u : TypeId} {a b v : Value} (h : et P H t u a b = some (v, H')) : Fr H H' := by
 unfold et at h
 repeat' split at h
 all_goals first
  | (cases h; done)
  | (cases h; exact .refl H)
  | (cases h; exact .push H _)
  | (simp only [Option.map_eq_some_iff] at h; obtain ⟨H2, h1, h2⟩ := h; cases h2; exact mg h1)
  | (rename_i hc; cases h; simp only [Bool.and_eq_true] at hc; exact (Fr.put H _ none (aU.1 hc.1.1.1.1)).trans (.push _ _))
theorem GK {H H' : ah} {t u : TypeId} {a b v : Value} (h : ny P H t u a b = some (v, H')) : Fr H H' := by
 unfold ny at h
 repeat' split at h
 all_goals first
  | (cases h; done)
  | (cases h; exact .refl H)
  | (simp only [Option.map_eq_some_iff] at h; obtain ⟨H2, h1, h2⟩ := h; cases h2; exact mg h1)
theorem AT {H H' : ah} {b : Builtin} {ts : Array TypeId} {xs : List Value} {v : Value} (h : gm P H b ts xs = some (v, H')) : Fr H H' := by
 unfold gm at h
 repeat' split at h
 all_goals first
  | (cases h; done)
  | (cases h; exact .refl H)
  | exact CW h
  | exact GK h
  | (simp only [Option.map_eq_some_iff] at h; obtain ⟨u, h1, h2⟩ := h; cases h2; exact .refl H)
def jx (cl : FuncId -> List Value -> ah -> Option (Value × ah)) : Prop := ∀ g args H v H', cl g args H = some (v, H') -> Fr H H'
theorem mF {cl : FuncId -> List Value -> ah -> Option (Value × ah)} (hcl : jx cl) {ρ : Operand -> Option Value} {o : Oper} {H H' : ah} {v : Value} (h : opE P cl ρ o H = some (v, H')) : Fr H H' := by
 unfold opE at h
 split at h
 all_goals first
  | (cases h; done)
  | (simp only [Option.map_eq_some_iff] at h; obtain ⟨u, h1, h2⟩ := h; cases h2; first | exact .refl H | exact .push H _)
  | skip
 all_goals (repeat' split at h)
 all_goals first
  | (cases h; done)
  | (cases h; exact .refl H)
  | (simp only [Option.map_eq_some_iff] at h; obtain ⟨u, h1, h2⟩ := h; cases h2; first | exact .refl H | exact .push H _ | exact Gs h1)
  | (simp only [Option.bind_eq_some_iff] at h; obtain ⟨u, _, h1⟩ := h; exact uY h1)
  | exact GF h
  | exact AT h
  | exact hcl _ _ _ _ _ h
end
end
end Go.Proofs.YtdbkoeefnodejaaGreat.Ev
namespace Go.Proofs.YtdbkoeefnodejaaGreat.Ev
noncomputable section
open Go
structure FR (f : Fm) (fr : List Value) (a : Act) : Prop where
 size : a.tmps.size = fr.length
 val : ∀ t, V f (fr.getD t undef) (a.tmps.getD t undef)
theorem FR.mono {f g : Fm} (hle : Le f g) {fr : List Value} {a : Act} (h : FR f fr a) : FR g fr a := ⟨h.size, fun t => (h.val t).mono hle⟩
theorem FR.put {f : Fm} {fr : List Value} {a : Act} (h : FR f fr a) (d : Option Tmp) {v v' : Value} (hv : V f v v') : FR f (gp fr d v) (a.put d v') := by
 cases d with
 | none => exact h
 | some d =>
  refine ⟨by simp [gp, Act.put, h.size], fun t => ?_⟩; have := h.val t; simp only [gp, Act.put, Array.getD_eq_getD_getElem?, List.getD_eq_getElem?_getD] at *
  rw [List.getElem?_set, Array.getElem?_setIfInBounds, h.size]
  by_cases e : d = t
  · subst e; simp only [if_true]
    by_cases hl : d < fr.length
    · simp [hl]; exact hv
    · simp [hl]; exact V.undef f
  · simp only [e, if_false]; exact this
theorem FR.dj {f : Fm} {fr : List Value} {a : Act} (h : FR f fr a) {x : Operand} {v : Value} (hx : Ev.dj fr x = some v) : V f v (a.eval x) := by
 cases x with
 | tmp t => simp only [Ev.dj, Option.some.injEq] at hx; subst hx; exact h.val t
 | const c =>
  simp only [Ev.dj] at hx
  split at hx
  · rename_i hc; cases hx; exact V.fw f hc
  · cases hx
 | global g => simp [Ev.dj] at hx
 | func g => simp only [Ev.dj, Option.some.injEq] at hx; subst hx; exact .func g _ _ _ _ rfl rfl (fun i v v' h _ => by simp at h) (fun i v v' h _ => by simp at h)
theorem FR.wanted {f : Fm} {fr : List Value} {a : Act} (h : FR f fr a) (ops : Array Oper) (o : Oper) : Region.wanted o (yielded ops a.tmps) = dy ops fr o := by
 unfold Region.wanted dy; cases o.guard with
 | none => rfl
 | some gw =>
  obtain ⟨j, want⟩ := gw; simp only [yielded]; cases hd : (ops[j]?).bind (·.dst) with
  | none => simp
  | some t =>
   simp only [Option.bind_some]; have hv := h.val t; simp only [Array.getD_eq_getD_getElem?, List.getD_eq_getElem?_getD] at hv
   by_cases hl : t < fr.length
   · have hl' : t < a.tmps.size := by rw [h.size]; exact hl
     rw [List.getElem?_eq_getElem hl, Array.getElem?_eq_getElem hl'] at hv; rw [List.getElem?_eq_getElem hl, Array.getElem?_eq_getElem hl']; simp only [Option.getD_some] at hv; generalize fr[t] = u at hv; generalize a.tmps[t] = u' at hv; cases hv <;> simp
   · have hl' : ¬ t < a.tmps.size := by rw [h.size]; exact hl
     have e1 : fr[t]? = none := List.getElem?_eq_none (Nat.le_of_not_lt hl); have e2 : a.tmps[t]? = none := Array.getElem?_eq_none (Nat.le_of_not_lt hl'); rw [e1, e2]; simp
section
variable {P : Program} {cl : FuncId -> List Value -> ah -> Option (Value × ah)} {f : Fm} {H : ah} {w : World}
theorem EZ (hcl : yL P cl) (hR : R f H w) {o : Oper} {ρ : Operand -> Option Value} {a : Act} (hρ : ∀ x ∈ o.op.operands, ∀ v, ρ x = some v -> V f v (a.eval x)) {v : Value} {H' : ah}
 (hfree : ∀ j, H.size <= j -> j < H'.size -> f j = none) (h : opE P cl ρ o H = some (v, H')) {K : Act -> World -> Prop} {Q : Exit -> Act -> World -> Prop}
 (hK : ∀ f' w' v', V f' v v' -> Stp f H w f' H' w' -> R f' H' w' -> K (a.put o.dst v') w') : o.wp P a w K Q := by
 by_cases hnc : ∀ c g, o.op = .call c -> c.callee ≠ .value g
 · obtain ⟨f', w', v', h1, h2, h3, h4⟩ := Qd hR hρ hfree hnc h; unfold Oper.wp; rcases h1 with h1 | ⟨h1, rfl⟩
   · rw [h1]; exact hK f' w' v' h2 h3 h4
   · rw [h1]; exact hK f' w' undef h2 h3 h4
 · have : ∃ c g, o.op = .call c /\ c.callee = .value g := by
    apply Classical.byContradiction; intro hn; exact hnc fun c g h1 h2 => hn ⟨c, g, h1, h2⟩
   obtain ⟨c, g, hop, hg⟩ := this; unfold opE at h; rw [hop] at h hρ; simp only [hg] at h
   split at h
   · rename_i args hargs; have va := jP (f := f) (ρ' := a.eval) c.args.toList args (fun x hx => hρ x (by simp [Op.operands, Call.operands]; exact .inr (by simpa using hx))) hargs
     split at h
     · rename_i n x y hfun; have vf := hρ g (by simp [Op.operands, Call.operands, hg]) _ hfun; cases hg' : a.eval g <;> rw [hg'] at vf <;> try (cases vf; done)
       rename_i fn x' y'; cases vf with
       | func _ _ _ _ _ hx hy vx vy =>
        obtain ⟨⟨fnn, code, hfn, hbody, hname⟩, hcall⟩ := hcl _ _ _ _ _ h; have vargs : VL f (x.toList ++ args ++ y.toList) (x'.toList ++ c.args.toList.map a.eval ++ y'.toList) := by
         refine (VL.append ⟨by simpa using hx, fun i u u' h1 h2 => vx i u u' (by simpa using h1) (by simpa using h2)⟩ va).append ⟨by simpa using hy, fun i u u' h1 h2 => vy i u u' (by simpa using h1) (by simpa using h2)⟩
        have hc := hcall f w _ hR hfree vargs; have hrun : (execOp a.eval o).run P w = .ok (.enter n (x' ++ c.args.map a.eval ++ y')) w := by
         simp [execOp, hop, resolve, hg, hg', Deferred.ofValue, invoke, callFunc, hfn, hbody, hname]
        have e : (x'.toList ++ c.args.toList.map a.eval ++ y'.toList).toArray = x' ++ c.args.map a.eval ++ y' := by
         apply Array.ext'; simp only [Array.toList_append, Array.toList_map]
        rw [e] at hc; unfold Oper.wp; rw [hrun]; refine Calls.mono hc ?_
        rintro e w' ⟨f', v', rfl, h2, h3, h4⟩
        exact hK f' w' v' h2 h3 h4
     · cases h
   · cases h
theorem Dv (hcl : yL P cl) (hfr : jx cl) {ops : Array Oper} {Q : Exit -> Act -> World -> Prop} : ∀ (l : List Oper) (k : Nat) (fr : List Value) (H : ah) (f : Fm) (w : World) (a : Act) (s' : St),
 (∀ j, l[j]? = ops[k + j]?) -> R f H w -> FR f fr a -> (∀ j, H.size <= j -> j < s'.hp.size -> f j = none) -> iR P cl ops l ⟨fr, H⟩ = some s' ->
 (∀ f' w' a', Stp f H w f' s'.hp w' -> R f' s'.hp w' -> FR f' s'.fr a' -> a'.defers = a.defers -> Q .normal a' w') ->
 wpOps P ops Q ((List.range l.length).map (k + ·)) a w := by
 intro l
 induction l with
 | nil =>
  intro k fr H f w a s' _ hR hF _ h hQ; simp only [iR, Option.some.injEq] at h; subst h; exact hQ f w a (.refl f H w) hR hF rfl
 | cons o l ih =>
  intro k fr H f w a s' hl hR hF hfree h hQ; have h0 : ops[k]? = some o := by simpa using (hl 0).symm
  have hl' : ∀ j, l[j]? = ops[k + 1 + j]? := fun j => by
   have := hl (j + 1); simpa [Nat.add_assoc, Nat.add_comm 1 j] using this
  have hrange : ((List.range (o :: l).length).map (k + ·)) = k :: ((List.range l.length).map (k + 1 + ·)) := by
   rw [List.length_cons, List.range_succ_eq_map, List.map_cons, List.map_map]; simp only [Nat.add_zero]
   congr 1
   apply List.map_congr_left; intro j _; simp only [Function.comp]; omega
  rw [hrange]; simp only [iR] at h; simp only [wpOps, h0]; rw [hF.wanted ops o]; cases hw : dy ops fr o with
  | true =>
   simp only [hw] at h; simp only [if_true]
   split at h
   · rename_i v H1 hop
     left
     have f1 := mF hfr hop; have f2 : H1.size <= s'.hp.size := by
      have key : ∀ (l : List Oper) (s s' : St), iR P cl ops l s = some s' -> s.hp.size <= s'.hp.size := by
       intro l
       induction l with
       | nil => intro s s' h; simp [iR] at h; subst h; exact Nat.le_refl _
       | cons q l ihk =>
        intro s s' h; simp only [iR] at h
        split at h
        · split at h
          · rename_i hq; exact Nat.le_trans (mF hfr hq).size (ihk _ _ h)
          · cases h
        · have := ihk _ _ h; exact this
      exact key l _ _ h
     refine EZ hcl hR (fun x _ u hu => hF.dj hu) (fun j h1 h2 => hfree j h1 (by omega)) hop ?_
     intro f' w' v' hV hS hR'; refine ih (k + 1) _ H1 f' w' _ s' hl' hR' ((hF.mono hS.le).put o.dst hV) ?_ h ?_
     · intro j h1 h2; rw [hS.out j (by omega)]; exact hfree j (Nat.le_trans f1.size h1) h2
     · intro f2 w2 a2 s2 r2 fr2 d2; refine hQ f2 w2 a2 (hS.trans s2) r2 fr2 ?_
       rw [d2]; cases o.dst <;> rfl
   · cases h
  | false =>
   simp only [hw] at h; simp only [Bool.false_eq_true, if_false]; refine ih (k + 1) _ H f w _ s' hl' hR (hF.put o.dst (V.undef f)) hfree h ?_
   intro f2 w2 a2 s2 r2 fr2 d2; refine hQ f2 w2 a2 s2 r2 fr2 ?_
   rw [d2]; cases o.dst <;> rfl
end
end
end Go.Proofs.YtdbkoeefnodejaaGreat.Ev
namespace Go.Proofs.YtdbkoeefnodejaaGreat.Ev
noncomputable section
open Go
theorem fo (a b : List (Nat × Nat)) (x : Nat) : hidden (a ++ b) x = (hidden a x || hidden b x) := by
 induction a with
 | nil => simp [hidden]
 | cons p a ih => obtain ⟨u, v⟩ := p; simp [hidden, ih, Bool.or_assoc]
theorem eI (p : Nat -> Bool) : ∀ (rs : List Rec) (k x : Nat), hidden (dr p rs k) x = true ↔ ∃ j r, rs[j]? = some r /\ p (k + j) = false /\ r.h0.size <= x /\ x < r.h1.size := by
 intro rs
 induction rs with
 | nil => intro k x; simp [dr, hidden]
 | cons r rs ih =>
  intro k x; simp only [dr]
  by_cases hp : p k = true
  · rw [if_pos hp, ih]; constructor
    · rintro ⟨j, q, h1, h2, h3⟩
      exact ⟨j + 1, q, by simpa using h1, by rw [<- h2]; congr 1; omega, h3⟩
    · rintro ⟨j, q, h1, h2, h3⟩
      cases j with
      | zero => simp at h2; rw [hp] at h2; cases h2
      | succ j => exact ⟨j, q, by simpa using h1, by rw [<- h2]; congr 1; omega, h3⟩
  · rw [if_neg hp]; simp only [hidden, Bool.or_eq_true, Bool.and_eq_true, decide_eq_true_eq]; rw [ih]; constructor
    · rintro (⟨h1, h2⟩ | ⟨j, q, h1, h2, h3⟩)
      · exact ⟨0, r, by simp, by simpa using hp, h1, h2⟩
      · exact ⟨j + 1, q, by simpa using h1, by rw [<- h2]; congr 1; omega, h3⟩
    · rintro ⟨j, q, h1, h2, h3, h4⟩
      cases j with
      | zero => simp at h1; subst h1; exact .inl ⟨h3, h4⟩
      | succ j => exact .inr ⟨j, q, by simpa using h1, by rw [<- h2]; congr 1; omega, h3, h4⟩
theorem R.view {f : Fm} {M X : ah} {w : World} (h : R f M w) (hg : ∀ x b, X.get x = some b -> M.get x = some b) (hl : X.lock = X.size) : R f X w := by
 have hm : ∀ x b, X.get x = some b -> X.nW x b = false := by
  intro x b hx; have := ah.bh hx; simp [ah.nW]; omega
 refine ⟨fun x b hx => ?_, h.big, by omega, fun x y b c l m hx hy hmm => ?_⟩
 · obtain ⟨l, C, e, fr, h1, h2, h3, _⟩ := h.blk x b (hg x b hx); exact ⟨l, C, e, fr, h1, h2, h3, fun hmm => by rw [hm x b hx] at hmm; cases hmm⟩
 · rw [hm x b hx] at hmm; cases hmm
section
variable {P : Program} {L : List FuncId} {cl : FuncId -> List Value -> ah -> Option (Value × ah)}
theorem vi {X Y : ah} (h : ∀ x, X.get x = Y.get x) (b off n : Nat) : ct X b off n = ct Y b off n := by
 unfold ct; rw [h b]
theorem A0 {X Y : ah} (h : ∀ x, X.get x = Y.get x) (t : TypeId) (p : Value) : cd P X t p = cd P Y t p := by
 unfold cd
 split
 · simp only [vi h]
 · rfl
theorem CD {a b : Value} (h : eqc a b = true) : a = b := by
 unfold eqc at h
 split at h <;> simp_all
theorem Et : ∀ {a b : List Value}, wE a b = true -> a = b
 | [], [], _ => rfl
 | a :: r, b :: s, h => by
  simp only [wE, Bool.and_eq_true] at h; rw [CD h.1, Et h.2]
 | [], _ :: _, h => by simp [wE] at h
 | _ :: _, [], h => by simp [wE] at h
theorem O6 {a b : Value} (h : eqv a b = true) : a = b := by
 unfold eqv at h
 split at h
 · have := Et h
   congr 1
   exact Array.ext' this
 · exact CD h
theorem GW {o : Oper} (hk : fb L o = .pure) {ρ : Operand -> Option Value} {H H2 : ah} {v : Value} (h : opE P cl ρ o H = some (v, H2)) :
 ∀ H3, opE P cl ρ o H3 = some (v, H3) := by
 intro H3; obtain ⟨dst, op, type, pos, after, guard⟩ := o; unfold fb at hk; unfold opE at h ⊢; cases op <;> simp only at hk h ⊢ <;> try (cases hk; done)
 all_goals try (cases h; done)
 all_goals try (simp only [Option.map_eq_some_iff] at h ⊢; obtain ⟨u, h1, h2⟩ := h; cases h2; exact ⟨_, h1, rfl⟩)
 case pick c a b =>
  split at h
  · rename_i t hc; simp only [Option.map_eq_some_iff] at h ⊢; obtain ⟨u, h1, h2⟩ := h; cases h2; exact ⟨_, h1, rfl⟩
  · cases h
 case nilCheck x =>
  split at h
  · cases h; rfl
  · cases h; rfl
  · cases h; rfl
  · cases h
 case binOp op t x y ty =>
  split at h
  · simp only [Option.map_eq_some_iff] at h ⊢; obtain ⟨u, h1, h2⟩ := h; cases h2; exact ⟨_, h1, rfl⟩
  · cases h
 case makeFunc fn a b =>
  split at h
  · cases h; rfl
  · cases h
 case slice t x lo hi mx =>
  cases mx with
  | some m => cases h
  | none =>
   simp only at h ⊢
   split at h
   · simp only [Option.map_eq_some_iff] at h ⊢; obtain ⟨u, h1, h2⟩ := h; cases h2; exact ⟨_, h1, rfl⟩
   · cases h
 case indexAddr t x i =>
  split at h
  · simp only [Option.map_eq_some_iff] at h ⊢; obtain ⟨u, h1, h2⟩ := h; cases h2; exact ⟨_, h1, rfl⟩
  · cases h
 case index t x i =>
  split at h
  · simp only [Option.map_eq_some_iff] at h ⊢; obtain ⟨u, h1, h2⟩ := h; cases h2; exact ⟨_, h1, rfl⟩
  · cases h
 case call c =>
  split at h
  · rename_i args hargs; cases hc : c.callee with
    | builtin b =>
     simp only [hc] at h ⊢; cases b <;> simp only [hc] at hk <;> try (cases hk; done)
     all_goals (simp only [gm] at h ⊢)
     all_goals try (cases h; done)
     case cap =>
      split at h
      · split at h
        · cases h; rfl
        · cases h
      · split at h
        · cases h; rfl
        · cases h
      · cases h
     case len =>
      split at h
      · split at h
        · cases h; rfl
        · cases h; rfl
        · cases h; rfl
        · cases h
      · cases h
     case max => simp only [Option.map_eq_some_iff] at h ⊢; obtain ⟨u, h1, h2⟩ := h; cases h2; exact ⟨_, h1, rfl⟩
     case min => simp only [Option.map_eq_some_iff] at h ⊢; obtain ⟨u, h1, h2⟩ := h; cases h2; exact ⟨_, h1, rfl⟩
    | value g =>
     simp only [hc] at hk; cases g with
     | func n => simp only at hk; split at hk <;> cases hk
     | _ => cases hk
    | invoke r m => simp [hc] at h
  · cases h
theorem fT {ops : Array Oper} {A : Array Nat} {i : Nat} {o : Oper} {s : St} {rs : List Rec} {r : Rec} (h : dR P L cl ops A i o s rs = some r) :
 (dy ops s.fr o = false /\ r = ⟨.pure, undef, s.hp, s.hp, none⟩) \/
 (dy ops s.fr o = true /\
  ((∃ v, (∀ H3, opE P cl (dj s.fr) o H3 = some (v, H3)) /\ r = ⟨.pure, v, s.hp, s.hp, none⟩) \/
   (∃ t a p v, o.op = .load t a /\ dj s.fr a = some p /\ cd P (cH s.hp (aZ A i) rs) t p = some v /\ r = ⟨.load, v, s.hp, s.hp, some (t, p)⟩) \/
   (∃ v H', opE P cl (dj s.fr) o (cH s.hp (aZ A i) rs) = some (v, H') /\ r = ⟨.quiet, v, s.hp, cE s.hp H', none⟩) \/
   (∃ v H', opE P cl (dj s.fr) o s.hp = some (v, H') /\ r = ⟨.cT, v, s.hp, H', none⟩))) := by
 unfold dR at h
 split at h
 · rename_i hw; cases h; exact .inl ⟨hw, rfl⟩
 · rename_i hw; refine .inr ⟨hw, ?_⟩
   split at h
   · rename_i hk
     split at h
     · rename_i v H2 hop; cases h; exact .inl ⟨v, GW hk hop, rfl⟩
     · cases h
   · split at h
     · rename_i t a hop
       split at h
       · rename_i p hp
         split at h
         · rename_i v hv; cases h; exact .inr (.inl ⟨t, a, p, v, hop, hp, hv, rfl⟩)
         · cases h
       · cases h
     · cases h
   · split at h
     · rename_i v H' hop; cases h; exact .inr (.inr (.inl ⟨v, H', hop, rfl⟩))
     · split at h
       · split at h
         · rename_i v H' hop; cases h; exact .inr (.inr (.inr ⟨v, H', hop, rfl⟩))
         · cases h
       · cases h
   · split at h
     · rename_i v H' hop; cases h; exact .inr (.inr (.inr ⟨v, H', hop, rfl⟩))
     · cases h
theorem jU {ops : Array Oper} {A : Array Nat} : ∀ (l : List Oper) (i : Nat) (s : St) (rs0 : List Rec) (s' : St) (rs : List Rec), rs0.length = i ->
 eK P L cl ops A l i s rs0 = some (s', rs) ->
 rs.length = i + l.length /\ rs.take i = rs0 /\ ∃ S : Nat -> St, S i = s /\ S (i + l.length) = s' /\
  ∀ j o, l[j]? = some o -> ∃ r, rs[i + j]? = some r /\ dR P L cl ops A (i + j) o (S (i + j)) (rs.take (i + j)) = some r /\ S (i + j + 1) = ⟨gp (S (i + j)).fr o.dst r.v, r.h1⟩ := by
 intro l
 induction l with
 | nil =>
  intro i s rs0 s' rs hlen h; simp only [eK, Option.some.injEq, Prod.mk.injEq] at h; obtain ⟨rfl, rfl⟩ := h; exact ⟨by simpa using hlen, List.take_of_length_le (by omega), fun _ => s, rfl, rfl, fun j o h => by simp at h⟩
 | cons q l ih =>
  intro i s rs0 s' rs hlen h; simp only [eK] at h
  split at h
  · rename_i r hr; obtain ⟨h1, h2, S, h3, h4, h5⟩ := ih (i + 1) _ (rs0 ++ [r]) s' rs (by simp [hlen]) h; have htake : rs.take i = rs0 := by
     have : rs.take i = (rs.take (i + 1)).take i := by rw [List.take_take]; congr 1; omega
     rw [this, h2, List.take_append_of_le_length (by omega), List.take_of_length_le (by omega)]
    have hri : rs[i]? = some r := by
     have : rs[i]? = (rs.take (i + 1))[i]? := by rw [List.getElem?_take, if_pos (by omega)]
     rw [this, h2, List.getElem?_append, if_neg (by omega), hlen]; simp
    refine ⟨by simp; omega, htake, fun k => if k = i then s else S k, by simp, ?_, ?_⟩
    · simp only [List.length_cons]; rw [if_neg (by omega), <- h4]; congr 1; omega
    · intro j o hj; cases j with
      | zero =>
       simp at hj; subst hj; refine ⟨r, hri, ?_, ?_⟩
       · simp only [Nat.add_zero, if_true]; rw [htake]; exact hr
       · simp only [Nat.add_zero, if_true]; rw [if_neg (by omega)]; exact h3
      | succ j =>
       obtain ⟨r2, g1, g2, g3⟩ := h5 j o (by simpa using hj); have e : i + 1 + j = i + (j + 1) := by omega
       rw [e] at g1 g2 g3; refine ⟨r2, g1, ?_, ?_⟩
       · simp only; rw [if_neg (by omega)]; exact g2
       · simp only; rw [if_neg (by omega), if_neg (by omega)]; exact g3
  · cases h
end
end
end Go.Proofs.YtdbkoeefnodejaaGreat.Ev
namespace Go.Proofs.YtdbkoeefnodejaaGreat.Ev
noncomputable section
open Go
section
variable (P : Program) (L : List FuncId) (cl : FuncId -> List Value -> ah -> Option (Value × ah))
structure Can (ops : Array Oper) (A : Array Nat) (s0 s' : St) (rs : List Rec) (S : Nat -> St) : Prop where
 len : rs.length = ops.size
 ini : S 0 = s0
 fin : S ops.size = s'
 step : ∀ i o, ops[i]? = some o -> ∃ r, rs[i]? = some r /\ dR P L cl ops A i o (S i) (rs.take i) = some r /\ S (i + 1) = ⟨gp (S i).fr o.dst r.v, r.h1⟩
 stat : fY ops A s0.fr.length = true
 fM : ni P A rs = true
end
section
variable {P : Program} {L : List FuncId} {cl : FuncId -> List Value -> ah -> Option (Value × ah)}
variable {nt : Nat} {ops : Array Oper} {A : Array Nat} {s0 s' : St} {rs : List Rec} {S : Nat -> St}
theorem cw (h : fY ops A nt = true) {i : Nat} {o : Oper} (ho : ops[i]? = some o) :
 (∀ e ∈ o.after, Region.binds .any e = true -> e.on < i) /\
 (∀ k, k < ops.size -> aZ A i k = true -> k < i /\ ∃ e ∈ o.after, Region.binds .any e = true /\ (e.on = k \/ aZ A e.on k = true)) /\
 (∀ d, o.dst = some d -> d < nt) /\
 (∀ k q d, ops[k]? = some q -> q.dst = some d -> i = k \/ (o.dst ≠ some d /\ (d ∈ o.looksAt ops -> aZ A i k = true \/ aZ A k i = true))) /\
 (∀ cs b, o.op ≠ .select cs b) := by
 unfold fY at h; have hm : (o, i) ∈ ops.toList.zipIdx := by rw [List.mem_zipIdx_iff_getElem?]; simpa using ho
 have h1 := List.all_eq_true.1 h (o, i) hm; simp only [Bool.and_eq_true] at h1; obtain ⟨⟨⟨⟨a1, a2⟩, a3⟩, a4⟩, a5⟩ := h1; refine ⟨?_, ?_, ?_, ?_, ?_⟩
 · intro e he hb; have := List.all_eq_true.1 a1 e (by simpa using he); simpa [hb] using this
 · intro k hk hg; have := List.all_eq_true.1 a2 k (by simpa using hk); simp only [hg, Bool.not_true, Bool.false_or, Bool.and_eq_true, decide_eq_true_eq, List.any_eq_true, Bool.or_eq_true, beq_iff_eq] at this; obtain ⟨h1, e, he, hb, h2⟩ := this; exact ⟨h1, e, by simpa using he, hb, h2⟩
 · intro d hd; rw [hd] at a3; simpa using a3
 · intro k q d hq hd; have hm2 : (q, k) ∈ ops.toList.zipIdx := by rw [List.mem_zipIdx_iff_getElem?]; simpa using hq
   have := List.all_eq_true.1 a4 (q, k) hm2; simp only [hd, Bool.or_eq_true, beq_iff_eq, Bool.and_eq_true, bne_iff_ne, Bool.not_eq_true'] at this; rcases this with h1 | ⟨h1, h2⟩
   · exact .inl h1
   · refine .inr ⟨h1, fun hmem => ?_⟩; rcases h2 with (h2 | h2) | h2
     · rw [List.contains_eq_mem] at h2; simp [hmem] at h2
     · exact .inl h2
     · exact .inr h2
 · intro cs b hop; rw [hop] at a5; cases a5
def uR (ops : Array Oper) (p : Nat -> Bool) : Prop := ∀ i o, ops[i]? = some o -> p i = true -> ∀ e ∈ o.after, Region.binds .any e = true -> p e.on = true
theorem gY (hst : fY ops A nt = true) {p : Nat -> Bool} (hp : uR ops p) : ∀ (i k : Nat), i < ops.size -> k < ops.size -> p i = true -> aZ A i k = true -> p k = true := by
 intro i
 induction i using Nat.strongRecOn with
 | _ i ih =>
  intro k hi hk hpi hg; have ho : ops[i]? = some ops[i] := Array.getElem?_eq_getElem hi; obtain ⟨h1, h2, _⟩ := cw hst ho; obtain ⟨hki, e, he, hb, h3⟩ := h2 k hk hg; have hlt := h1 e he hb; have hpe := hp i _ ho hpi e he hb; rcases h3 with h3 | h3
  · rw [<- h3]; exact hpe
  · exact ih e.on hlt k (by omega) hk hpe h3
theorem j7 (hst : fY ops A nt = true) {p : Nat -> Bool} (hp : uR ops p) {i : Nat} {o : Oper} (ho : ops[i]? = some o)
 (hr : ∀ e ∈ o.after, Region.binds .any e = true -> p e.on = true) {k : Nat} (hk : k < ops.size) (hg : aZ A i k = true) : p k = true := by
 obtain ⟨h1, h2, _⟩ := cw hst ho; obtain ⟨hki, e, he, hb, h3⟩ := h2 k hk hg; have hlt := h1 e he hb; have hi : i < ops.size := (Array.getElem?_eq_some_iff.1 ho).1; rcases h3 with h3 | h3
 · rw [<- h3]; exact hr e he hb
 · exact gY hst hp e.on k (by omega) hk (hr e he hb) h3
theorem Can.fk (h : Can P L cl ops A s0 s' rs S) {i : Nat} (hi : i < ops.size) :
 ∃ r, rs[i]? = some r /\ dR P L cl ops A i ops[i] (S i) (rs.take i) = some r /\ S (i + 1) = ⟨gp (S i).fr ops[i].dst r.v, r.h1⟩ /\ r.h0 = (S i).hp /\ r.h1 = (S (i + 1)).hp := by
 obtain ⟨r, h1, h2, h3⟩ := h.step i ops[i] (Array.getElem?_eq_getElem hi); refine ⟨r, h1, h2, h3, ?_, by rw [h3]⟩; rcases fT h2 with ⟨_, rfl⟩ | ⟨_, ⟨v, _, rfl⟩ | ⟨t, a, p, v, _, _, _, rfl⟩ | ⟨v, H', _, rfl⟩ | ⟨v, H', _, rfl⟩⟩ <;> rfl
theorem Can.RL (h : Can P L cl ops A s0 s' rs S) (hfr : jx cl) {i : Nat} (hi : i < ops.size) : Fr (S i).hp (S (i + 1)).hp := by
 obtain ⟨r, h1, h2, h3, h4, h5⟩ := h.fk hi; rw [<- h5]; rcases fT h2 with ⟨_, rfl⟩ | ⟨_, ⟨v, _, rfl⟩ | ⟨t, a, p, v, _, _, _, rfl⟩ | ⟨v, H', hop, rfl⟩ | ⟨v, H', hop, rfl⟩⟩
 · exact .refl _
 · exact .refl _
 · exact .refl _
 · have := mF hfr hop; exact ⟨this.size, rfl, rfl, fun x h1 _ => this.root x h1 h1⟩
 · exact mF hfr hop
theorem Can.gh (h : Can P L cl ops A s0 s' rs S) (hfr : jx cl) : ∀ (j i : Nat), i <= j -> j <= ops.size -> Fr (S i).hp (S j).hp := by
 intro j
 induction j with
 | zero =>
  intro i hi _; have : i = 0 := by omega
  subst this; exact .refl _
 | succ j ih =>
  intro i hi hj
  by_cases e : i = j + 1
  · subst e; exact .refl _
  · exact (ih i (by omega) (by omega)).trans (h.RL hfr (by omega))
def jy (rs : List Rec) (i : Nat) : Prop := ∃ r, rs[i]? = some r /\ r.kind = .cT
theorem Can.jc (h : Can P L cl ops A s0 s' rs S) (hfr : jx cl) : ∀ (j i : Nat), i <= j -> j <= ops.size -> (∀ k, i <= k -> k < j -> ¬ jy rs k) ->
 ∀ x, x < (S i).hp.size -> (S j).hp.root.get x = (S i).hp.root.get x := by
 intro j
 induction j with
 | zero =>
  intro i hi _ _ x _; have : i = 0 := by omega
  subst this; rfl
 | succ j ih =>
  intro i hi hj hn x hx
  by_cases e : i = j + 1
  · subst e; rfl
  · rw [<- ih i (by omega) (by omega) (fun k h1 h2 => hn k h1 (by omega)) x hx]; have hsz : (S i).hp.size <= (S j).hp.size := (h.gh hfr j i (by omega) (by omega)).size; obtain ⟨r, h1, h2, h3, h4, h5⟩ := h.fk (i := j) (by omega); rw [<- h5]; rcases fT h2 with ⟨_, rfl⟩ | ⟨_, ⟨v, _, rfl⟩ | ⟨t, a, p, v, _, _, _, rfl⟩ | ⟨v, H', hop, rfl⟩ | ⟨v, H', hop, rfl⟩⟩
    · rfl
    · rfl
    · rfl
    · have := mF hfr hop; exact this.root x (by show x < (S j).hp.size; omega) (by show x < (S j).hp.size; omega)
    · exact absurd ⟨_, h1, rfl⟩ (hn j (by omega) (by omega))
theorem Can.frame (h : Can P L cl ops A s0 s' rs S) : ∀ i, i <= ops.size -> (S i).fr.length = s0.fr.length /\ ∀ t,
 (∀ k q r, k < i -> ops[k]? = some q -> rs[k]? = some r -> q.dst = some t -> (S i).fr.getD t undef = r.v) /\
 ((∀ k q, k < i -> ops[k]? = some q -> q.dst ≠ some t) -> (S i).fr.getD t undef = s0.fr.getD t undef) := by
 intro i
 induction i with
 | zero => intro _; rw [h.ini]; exact ⟨rfl, fun t => ⟨fun k q r hk => by omega, fun _ => rfl⟩⟩
 | succ i ih =>
  intro hi; obtain ⟨hlen, hf⟩ := ih (by omega); have hio : ops[i]? = some ops[i] := Array.getElem?_eq_getElem (by omega); obtain ⟨r, h1, h2, h3, h4, h5⟩ := h.fk (i := i) (by omega); obtain ⟨_, _, s3, s4, _⟩ := cw h.stat hio; rw [h3]; refine ⟨by cases ops[i].dst <;> simp [gp, hlen], fun t => ⟨?_, ?_⟩⟩
  · intro k q rk hk hq hrk hd
    by_cases e : k = i
    · subst e; rw [hio] at hq; cases hq; rw [h1] at hrk; cases hrk; rw [hd]; have hlt := s3 t hd; simp only [gp, List.getD_eq_getElem?_getD, List.getElem?_set, if_true]; rw [if_pos (by rw [hlen]; exact hlt)]; rfl
    · have hne : ops[i].dst ≠ some t := by
       rcases s4 k q t hq hd with h6 | ⟨h6, _⟩
       · exact absurd h6.symm e
       · exact h6
      have : (gp (S i).fr ops[i].dst r.v).getD t undef = (S i).fr.getD t undef := by
       cases hdd : ops[i].dst with
       | none => rfl
       | some d =>
        rw [hdd] at hne; simp only [gp, List.getD_eq_getElem?_getD, List.getElem?_set]; rw [if_neg (fun e2 => hne (by rw [e2]))]
      rw [this]; exact (hf t).1 k q rk (by omega) hq hrk hd
  · intro hn; have hne : ops[i].dst ≠ some t := hn i _ (by omega) hio; have : (gp (S i).fr ops[i].dst r.v).getD t undef = (S i).fr.getD t undef := by
     cases hdd : ops[i].dst with
     | none => rfl
     | some d =>
      rw [hdd] at hne; simp only [gp, List.getD_eq_getElem?_getD, List.getElem?_set]; rw [if_neg (fun e2 => hne (by rw [e2]))]
    rw [this]; exact (hf t).2 (fun k q hk hq => hn k q (by omega) hq)
theorem Can.comparable (h : Can P L cl ops A s0 s' rs S) {i j : Nat} {a b : Rec} (ha : rs[i]? = some a) (hb : rs[j]? = some b) (hl : b.kind = .cT)
 (hk : a.kind = .quiet \/ a.kind = .cT) (hne : i ≠ j) : aZ A i j = true \/ aZ A j i = true := by
 have h1 := List.all_eq_true.1 h.fM (a, i) (by rw [List.mem_zipIdx_iff_getElem?]; exact ha); have h2 := List.all_eq_true.1 h1 (b, j) (by rw [List.mem_zipIdx_iff_getElem?]; exact hb); simp only [vE, hl] at h2; rcases hk with hk | hk <;> simp only [hk, Bool.or_eq_true, beq_iff_eq] at h2 <;> rcases h2 with (h2 | h2) | h2
 · exact absurd h2 hne
 · exact .inl h2
 · exact .inr h2
 · exact absurd h2 hne
 · exact .inl h2
 · exact .inr h2
theorem Can.xj (h : Can P L cl ops A s0 s' rs S) {i j : Nat} {a b : Rec} (ha : rs[i]? = some a) (hb : rs[j]? = some b) (hl : b.kind = .cT)
 (hk : a.kind = .load) (h1 : aZ A i j = false) (h2 : aZ A j i = false) : ∃ t p, a.ld = some (t, p) /\ cd P (if j < i then cH b.h0 (aZ A i) (rs.take j) else b.h1) t p = some a.v := by
 have h3 := List.all_eq_true.1 h.fM (a, i) (by rw [List.mem_zipIdx_iff_getElem?]; exact ha); have h4 := List.all_eq_true.1 h3 (b, j) (by rw [List.mem_zipIdx_iff_getElem?]; exact hb); simp only [vE, hl, hk, h1, h2, Bool.false_or] at h4
 split at h4
 · rename_i t p hld
   split at h4
   · rename_i v hv; exact ⟨t, p, hld, by rw [hv, O6 h4]⟩
   · cases h4
 · cases h4
end
end
end Go.Proofs.YtdbkoeefnodejaaGreat.Ev
namespace Go.Proofs.YtdbkoeefnodejaaGreat.Ev
noncomputable section
open Go
section
variable {P : Program} {L : List FuncId} {cl : FuncId -> List Value -> ah -> Option (Value × ah)}
variable {ops : Array Oper} {A : Array Nat} {s0 s' : St} {rs : List Rec} {S : Nat -> St}
def sz (S : Nat -> St) (i : Nat) : Nat := (S i).hp.size
def Mh (S : Nat -> St) (rs : List Rec) (p : Nat -> Bool) (m : Nat) : ah := { (S m).hp with hid := dr p (rs.take m) 0 ++ (S 0).hp.hid }
theorem Can.mY (h : Can P L cl ops A s0 s' rs S) (hfr : jx cl) {i j : Nat} (hij : i <= j) (hj : j <= ops.size) : sz S i <= sz S j := (h.gh hfr j i hij hj).size
theorem Can.AU (h : Can P L cl ops A s0 s' rs S) {p : Nat -> Bool} {m : Nat} (hm : m <= ops.size) {X : ah} (h1 : X.size = sz S m) (h2 : X.root = (S m).hp.root)
 (h3 : X.hid = dr p (rs.take m) 0 ++ (S 0).hp.hid) (x : Nat) (b : Blk) :
 X.get x = some b ↔ x < sz S m /\ (S m).hp.root.get x = some b /\ hidden (S 0).hp.hid x = false /\ ∀ k, k < m -> p k = false -> ¬ (sz S k <= x /\ x < sz S (k + 1)) := by
 have hh : hidden X.hid x = false ↔ hidden (S 0).hp.hid x = false /\ ∀ k, k < m -> p k = false -> ¬ (sz S k <= x /\ x < sz S (k + 1)) := by
  rw [h3, fo, Bool.or_eq_false_iff, and_comm]; refine and_congr_right fun _ => ?_
  rw [<- Bool.not_eq_true, eI]; constructor
  · intro hn k hk hp ⟨ha, hb⟩; obtain ⟨r, g1, _, _, g4, g5⟩ := h.fk (i := k) (by omega); exact hn ⟨k, r, by rw [List.getElem?_take, if_pos hk]; exact g1, by rw [Nat.zero_add]; exact hp, by rw [g4]; exact ha, by rw [g5]; exact hb⟩
  · rintro hn ⟨k, r, g1, g2, g3, g4⟩
    rw [List.getElem?_take] at g1
    split at g1
    · rename_i hk; obtain ⟨r2, e1, _, _, e4, e5⟩ := h.fk (i := k) (by omega); rw [g1] at e1; cases e1; exact hn k hk (by rw [Nat.zero_add] at g2; exact g2) ⟨by rw [e4] at g3; exact g3, by rw [e5] at g4; exact g4⟩
    · cases g1
 unfold ah.get; rw [h1, h2]; constructor
 · intro hx
   split at hx
   · rename_i hlt
     split at hx
     · cases hx
     · rename_i hhid; have := hh.1 (by simpa using hhid); exact ⟨hlt, hx, this⟩
   · cases hx
 · rintro ⟨a1, a2, a3⟩
   rw [if_pos a1, if_neg (by rw [hh.2 a3]; simp)]; exact a2
structure Inv (ops : Array Oper) (s0 : St) (rs : List Rec) (S : Nat -> St) (f0 : Fm) (w0 : World) (a0 : Act) (p : Nat -> Bool) (f : Fm) (m : Nat) (a : Act) (w : World) : Prop where
 mle : m <= ops.size
 vZ : m < ops.size -> jy rs m /\ p m = false
 u9 : ∀ j, j < m -> jy rs j -> p j = true
 wm : uR ops p
 r : R f (Mh S rs p m) w
 AY : a.tmps.size = s0.fr.length
 defers : a.defers = a0.defers
 fr1 : ∀ t k q r, ops[k]? = some q -> rs[k]? = some r -> q.dst = some t -> p k = true -> V f r.v (a.tmps.getD t undef)
 fr2 : ∀ t, (∀ k q, ops[k]? = some q -> q.dst = some t -> p k = false) -> V f (s0.fr.getD t undef) (a.tmps.getD t undef)
 le : Le f0 f
 out : ∀ x, ¬ (sz S 0 <= x /\ x < sz S ops.size) -> f x = f0 x
 free : ∀ k, k < ops.size -> p k = false -> ∀ x, sz S k <= x -> x < sz S (k + 1) -> f x = none
 fK : w0.heap.size <= w.heap.size
 os : w.os = w0.os
 tape : w.tape = w0.tape
 output : w.output = w0.output
 fX : ∀ cb, cb < w0.heap.size -> ¬ ft f0 (S 0).hp cb -> w.heap[cb]? = w0.heap[cb]?
 own : ∀ cb, cb < w0.heap.size -> ft f (Mh S rs p m) cb -> ft f0 (S 0).hp cb
def upd (p : Nat -> Bool) (i : Nat) (j : Nat) : Bool := if j = i then true else p j
variable {f0 f : Fm} {w0 w : World} {a0 a : Act} {p : Nat -> Bool} {m i : Nat} {o : Oper}
theorem Inv.M0 (hC : Can P L cl ops A s0 s' rs S) (hI : Inv ops s0 rs S f0 w0 a0 p f m a w) (ho : ops[i]? = some o) (hpi : p i = false)
 (hr : ∀ e ∈ o.after, Region.binds .any e = true -> p e.on = true) (t : Tmp) (ht : t ∈ o.looksAt ops) : V f ((S i).fr.getD t undef) (a.tmps.getD t undef) := by
 have hi : i < ops.size := (Array.getElem?_eq_some_iff.1 ho).1; obtain ⟨_, hframe⟩ := hC.frame i (by omega); obtain ⟨c1, c2⟩ := hframe t
 by_cases hex : ∃ k q, ops[k]? = some q /\ q.dst = some t /\ i ≠ k
 · obtain ⟨k, q, hq, hd, hne⟩ := hex; have hk : k < ops.size := (Array.getElem?_eq_some_iff.1 hq).1; obtain ⟨_, _, _, s4, _⟩ := cw hC.stat ho; obtain ⟨rk, hrk, _⟩ := hC.fk hk; rcases s4 k q t hq hd with e | ⟨hnd, hlook⟩
   · exact absurd e hne
   · rcases hlook ht with hg | hg
     ·
      have hpk := j7 hC.stat hI.wm ho hr hk hg; have hki : k < i := ((cw hC.stat ho).2.1 k hk hg).1; rw [c1 k q rk hki hq hrk hd]; exact hI.fr1 t k q rk hq hrk hd hpk
     ·
      have hik : i < k := ((cw hC.stat hq).2.1 i hi hg).1; have hpk : p k = false := by
       cases hp : p k with
       | false => rfl
       | true => rw [gY hC.stat hI.wm k i hk hi hp hg] at hpi; cases hpi
      have huniq : ∀ k' q', ops[k']? = some q' -> q'.dst = some t -> k' = k := by
       intro k' q' hq' hd'; obtain ⟨_, _, _, s4', _⟩ := cw hC.stat hq'; rcases s4' k q t hq hd with e | ⟨e, _⟩
       · exact e
       · exact absurd hd' e
      rw [c2 (fun k' q' hk' hq' hd' => by have := huniq k' q' hq' hd'; omega)]; exact hI.fr2 t (fun k' q' hq' hd' => by rw [huniq k' q' hq' hd']; exact hpk)
 · have hno : ∀ k q, ops[k]? = some q -> q.dst = some t -> k = i := by
    intro k q hq hd; apply Classical.byContradiction; intro hne; exact hex ⟨k, q, hq, hd, fun e => hne e.symm⟩
   rw [c2 (fun k q hk hq hd => by have := hno k q hq hd; omega)]; exact hI.fr2 t (fun k q hq hd => by rw [hno k q hq hd]; exact hpi)
theorem Inv.dj (hC : Can P L cl ops A s0 s' rs S) (hI : Inv ops s0 rs S f0 w0 a0 p f m a w) (ho : ops[i]? = some o) (hpi : p i = false)
 (hr : ∀ e ∈ o.after, Region.binds .any e = true -> p e.on = true) (x : Operand) (hx : x ∈ o.op.operands) (v : Value) (hv : Ev.dj (S i).fr x = some v) : V f v (a.eval x) := by
 cases x with
 | tmp t =>
  simp only [Ev.dj, Option.some.injEq] at hv; subst hv; exact hI.M0 hC ho hpi hr t (List.mem_append_left _ (List.mem_filterMap.2 ⟨.tmp t, by simpa using hx, rfl⟩))
 | const c =>
  simp only [Ev.dj] at hv
  split at hv
  · rename_i hc; cases hv; exact V.fw f hc
  · cases hv
 | global g => simp [Ev.dj] at hv
 | func g => simp only [Ev.dj, Option.some.injEq] at hv; subst hv; exact .func g _ _ _ _ rfl rfl (fun i v v' h _ => by simp at h) (fun i v v' h _ => by simp at h)
theorem Inv.wanted (hC : Can P L cl ops A s0 s' rs S) (hI : Inv ops s0 rs S f0 w0 a0 p f m a w) (ho : ops[i]? = some o) (hpi : p i = false)
 (hr : ∀ e ∈ o.after, Region.binds .any e = true -> p e.on = true) : Region.wanted o (yielded ops a.tmps) = dy ops (S i).fr o := by
 have hi : i < ops.size := (Array.getElem?_eq_some_iff.1 ho).1; obtain ⟨hlen, _⟩ := hC.frame i (by omega); unfold Region.wanted dy; cases hg : o.guard with
 | none => rfl
 | some gw =>
  obtain ⟨j, want⟩ := gw; simp only [yielded]; cases hd : (ops[j]?).bind (·.dst) with
  | none => simp
  | some t =>
   simp only [Option.bind_some]; have hv := hI.M0 hC ho hpi hr t (by unfold Oper.looksAt; rw [hg]; simp [hd]); simp only [Array.getD_eq_getD_getElem?, List.getD_eq_getElem?_getD] at hv
   by_cases hl : t < (S i).fr.length
   · have hl' : t < a.tmps.size := by rw [hI.AY, <- hlen]; exact hl
     rw [List.getElem?_eq_getElem hl, Array.getElem?_eq_getElem hl'] at hv; rw [List.getElem?_eq_getElem hl, Array.getElem?_eq_getElem hl']; simp only [Option.getD_some] at hv; generalize (S i).fr[t] = u at hv; generalize a.tmps[t] = u' at hv; cases hv <;> simp
   · have hl' : ¬ t < a.tmps.size := by rw [hI.AY, <- hlen]; exact hl
     have e1 : (S i).fr[t]? = none := List.getElem?_eq_none (Nat.le_of_not_lt hl); have e2 : a.tmps[t]? = none := Array.getElem?_eq_none (Nat.le_of_not_lt hl'); rw [e1, e2]; simp
theorem AL {a : Act} {d t : Tmp} {v : Value} : ((a.put (some d) v).tmps.getD t undef) = if d = t /\ d < a.tmps.size then v else a.tmps.getD t undef := by
 simp only [Act.put, Array.getD_eq_getD_getElem?, Array.getElem?_setIfInBounds]
 by_cases e : d = t
 · subst e
   by_cases hl : d < a.tmps.size
   · simp [hl]
   · simp [hl]
 · simp [e]
theorem CL {p : Nat -> Bool} (hp : uR ops p) (ho : ops[i]? = some o) (hr : ∀ e ∈ o.after, Region.binds .any e = true -> p e.on = true) : uR ops (upd p i) := by
 intro j q hq hpj e he hb; unfold upd at hpj ⊢
 split
 · rfl
 · by_cases ej : j = i
   · subst ej; rw [ho] at hq; cases hq; exact hr e he hb
   · rw [if_neg ej] at hpj; exact hp j q hq hpj e he hb
theorem Inv.after (hC : Can P L cl ops A s0 s' rs S) (hI : Inv ops s0 rs S f0 w0 a0 p f m a w) (ho : ops[i]? = some o) (hpi : p i = false)
 (hr : ∀ e ∈ o.after, Region.binds .any e = true -> p e.on = true) {r : Rec} (hri : rs[i]? = some r) {f' : Fm} {w' : World} {v' : Value} {m' : Nat} (hV : V f' r.v v') (hle : Le f f')
 (hout : ∀ x, ¬ (sz S i <= x /\ x < sz S (i + 1)) -> f' x = f x) (hws : w.heap.size <= w'.heap.size) (hos : w'.os = w.os) (htp : w'.tape = w.tape) (hou : w'.output = w.output)
 (hkeep : ∀ cb, cb < w0.heap.size -> ¬ ft f0 (S 0).hp cb -> w'.heap[cb]? = w.heap[cb]?)
 (hown : ∀ cb, cb < w0.heap.size -> ft f' (Mh S rs (upd p i) m') cb -> ft f0 (S 0).hp cb)
 (hm1 : m' <= ops.size) (hm2 : m' < ops.size -> jy rs m' /\ upd p i m' = false) (hm3 : ∀ j, j < m' -> jy rs j -> upd p i j = true)
 (hR : R f' (Mh S rs (upd p i) m') w') (hsz : ∀ a b, a <= b -> b <= ops.size -> sz S a <= sz S b) : Inv ops s0 rs S f0 w0 a0 (upd p i) f' m' (a.put o.dst v') w' := by
 have hi : i < ops.size := (Array.getElem?_eq_some_iff.1 ho).1; obtain ⟨_, _, s3, s4, _⟩ := cw hC.stat ho; refine ⟨hm1, hm2, hm3, CL hI.wm ho hr, hR, ?_, ?_, ?_, ?_, hI.le.trans hle, ?_, ?_, Nat.le_trans hI.fK hws, hos.trans hI.os, htp.trans hI.tape, hou.trans hI.output, ?_, hown⟩
 · have : (a.put o.dst v').tmps.size = a.tmps.size := by cases o.dst <;> simp [Act.put]
   rw [this]; exact hI.AY
 · rw [<- hI.defers]; cases o.dst <;> rfl
 · intro t k q rk hq hrk hd hpk
   by_cases e : k = i
   · subst e; rw [ho] at hq; cases hq; rw [hri] at hrk; cases hrk; rw [hd, AL, if_pos ⟨rfl, by rw [hI.AY]; exact s3 t hd⟩]; exact hV
   · have hpk' : p k = true := by simpa [upd, e] using hpk
     have hne : o.dst ≠ some t := by
      rcases s4 k q t hq hd with h1 | ⟨h1, _⟩
      · exact absurd h1.symm e
      · exact h1
     have : (a.put o.dst v').tmps.getD t undef = a.tmps.getD t undef := by
      cases hdd : o.dst with
      | none => rfl
      | some d =>
       rw [hdd] at hne; rw [AL, if_neg (fun ⟨e2, _⟩ => hne (by rw [e2]))]
     rw [this]; exact (hI.fr1 t k q rk hq hrk hd hpk').mono hle
 · intro t hn; have hne : o.dst ≠ some t := by
    intro hd; have := hn i o ho hd; simp [upd] at this
   have : (a.put o.dst v').tmps.getD t undef = a.tmps.getD t undef := by
    cases hdd : o.dst with
    | none => rfl
    | some d =>
     rw [hdd] at hne; rw [AL, if_neg (fun ⟨e2, _⟩ => hne (by rw [e2]))]
   rw [this]; refine (hI.fr2 t (fun k q hq hd => ?_)).mono hle; have := hn k q hq hd; unfold upd at this
   split at this
   · cases this
   · exact this
 · intro x hx; have h1 := hsz 0 i (by omega) (by omega); have h2 := hsz (i + 1) ops.size (by omega) (by omega); rw [hout x (by omega)]; exact hI.out x hx
 · intro k hk hpk x hx1 hx2; unfold upd at hpk
   split at hpk
   · cases hpk
   · rename_i hki; rw [hout x ?_]
     · exact hI.free k hk hpk x hx1 hx2
     · rintro ⟨h1, h2⟩
       rcases Nat.lt_or_gt_of_ne hki with h3 | h3
       · have := hsz (k + 1) i (by omega) (by omega); omega
       · have := hsz (i + 1) k (by omega) (by omega); omega
 · intro cb h1 h2; rw [hkeep cb h1 h2]; exact hI.fX cb h1 h2
end
end
end Go.Proofs.YtdbkoeefnodejaaGreat.Ev
namespace Go.Proofs.YtdbkoeefnodejaaGreat.Ev
noncomputable section
open Go
section
variable {P : Program} {L : List FuncId} {cl : FuncId -> List Value -> ah -> Option (Value × ah)}
variable {ops : Array Oper} {A : Array Nat} {s0 s' : St} {rs : List Rec} {S : Nat -> St}
variable {f0 f : Fm} {w0 w : World} {a0 a : Act} {p : Nat -> Bool} {m i : Nat} {o : Oper}
theorem R.sub {X Y : ah} (h : R f X w) (hg : ∀ x b, Y.get x = some b -> X.get x = some b) (hl : Y.lock = X.lock) (hs : Y.lock <= Y.size) : R f Y w := by
 refine ⟨fun x b hx => ?_, h.big, hs, fun x y b c l m hx hy hmm => ?_⟩
 · obtain ⟨l, C, e, fr, h1, h2, h3, h4⟩ := h.blk x b (hg x b hx); exact ⟨l, C, e, fr, h1, h2, h3, fun hmm => h4 (by rw [aU] at hmm ⊢; rw [<- hl]; exact hmm)⟩
 · exact h.inj x y b c l m (hg x b hx) (hg y c hy) (by rw [aU] at hmm ⊢; rw [<- hl]; exact hmm)
theorem iY {X Y : ah} (hg : ∀ x b, Y.get x = some b -> X.get x = some b) (hl : Y.lock = X.lock) {cb : Nat} (h : ft f Y cb) : ft f X cb := by
 obtain ⟨x, b, l, h1, h2, h3, h4⟩ := h; exact ⟨x, b, l, hg x b h1, by rw [aU] at h2 ⊢; rw [<- hl]; exact h2, h3, h4⟩
theorem sw (hC : Can P L cl ops A s0 s' rs S) (hfr : jx cl) (hm : m <= ops.size) : (Mh S rs p m).lock = (S 0).hp.lock := (hC.gh hfr m 0 (by omega) hm).lock
theorem Can.jV (hC : Can P L cl ops A s0 s' rs S) (hm : m <= ops.size) (x : Nat) (b : Blk) :
 (Mh S rs p m).get x = some b ↔ x < sz S m /\ (S m).hp.root.get x = some b /\ hidden (S 0).hp.hid x = false /\ ∀ k, k < m -> p k = false -> ¬ (sz S k <= x /\ x < sz S (k + 1)) :=
 hC.AU (X := Mh S rs p m) hm rfl rfl rfl x b
theorem Inv.still (hC : Can P L cl ops A s0 s' rs S) (hfr : jx cl) (hI : Inv ops s0 rs S f0 w0 a0 p f m a w) (ho : ops[i]? = some o) (hpi : p i = false)
 (hr : ∀ e ∈ o.after, Region.binds .any e = true -> p e.on = true) {r : Rec} (hri : rs[i]? = some r) (hk : r.kind ≠ .cT) (hsame : r.h0 = r.h1) {f' : Fm} {w' : World} {v' : Value} (hV : V f' r.v v')
 (hS : Stp f (Mh S rs p m) w f' (Mh S rs p m) w') (hR : R f' (Mh S rs p m) w') : Inv ops s0 rs S f0 w0 a0 (upd p i) f' m (a.put o.dst v') w' := by
 have hi : i < ops.size := (Array.getElem?_eq_some_iff.1 ho).1; obtain ⟨r2, e1, _, _, e4, e5⟩ := hC.fk hi; rw [hri] at e1; cases e1; have hsz : sz S i = sz S (i + 1) := by unfold sz; rw [<- e4, <- e5, hsame]
 have hg : ∀ x b, (Mh S rs (upd p i) m).get x = some b -> (Mh S rs p m).get x = some b := by
  intro x b hx; rw [hC.jV hI.mle] at hx ⊢; refine ⟨hx.1, hx.2.1, hx.2.2.1, fun k hkm hpk => ?_⟩
  by_cases e : k = i
  · subst e; omega
  · exact hx.2.2.2 k hkm (by simp [upd, e, hpk])
 have hl : (Mh S rs (upd p i) m).lock = (Mh S rs p m).lock := rfl; refine hI.after hC ho hpi hr hri hV hS.le ?_ hS.fK hS.os hS.tape hS.output ?_ ?_ hI.mle ?_ ?_ (hR.sub hg hl hR.lk) (fun a b h1 h2 => hC.mY hfr h1 h2)
 · intro x _; exact hS.out x (by omega)
 · intro cb h1 h2; exact hS.fX cb (Nat.lt_of_lt_of_le h1 hI.fK) (fun h3 => h2 (hI.own cb h1 h3))
 · intro cb h1 h2; exact hI.own cb h1 (hS.own cb (Nat.lt_of_lt_of_le h1 hI.fK) (iY hg hl h2))
 · intro hm; obtain ⟨h1, h2⟩ := hI.vZ hm; refine ⟨h1, ?_⟩; have : m ≠ i := by
    rintro rfl
    obtain ⟨q, hq, hql⟩ := h1; rw [hri] at hq; cases hq; exact hk hql
   simp [upd, this, h2]
 · intro j hj hlj; have := hI.u9 j hj hlj; unfold upd; split <;> simp [this]
theorem Inv.Gg (hC : Can P L cl ops A s0 s' rs S) (hI : Inv ops s0 rs S f0 w0 a0 p f m a w) (ho : ops[i]? = some o) (hpi : p i = false)
 (hr : ∀ e ∈ o.after, Region.binds .any e = true -> p e.on = true) {r : Rec} (hri : rs[i]? = some r) (hk : r.kind = .quiet) : i < m /\ ∀ k, i <= k -> k < m -> ¬ jy rs k := by
 have hi : i < ops.size := (Array.getElem?_eq_some_iff.1 ho).1; have hnot : ∀ k, jy rs k -> k ≠ i := by
  rintro k ⟨q, hq, hql⟩ rfl
  rw [hri] at hq; cases hq; rw [hk] at hql; cases hql
 have hbefore : ∀ k, k < i -> jy rs k -> p k = true := by
  rintro k hki hkl
  obtain ⟨q, hq, hql⟩ := hkl; rcases hC.comparable hri hq hql (.inl hk) (by omega) with h1 | h1
  · exact j7 hC.stat hI.wm ho hr (by omega) h1
  · have hko : ops[k]? = some (ops[k]'(by omega)) := Array.getElem?_eq_getElem _; have := ((cw hC.stat hko).2.1 i hi h1).1; omega
 have him : i < m := by
  rcases Nat.lt_trichotomy i m with h1 | h1 | h1
  · exact h1
  · exact absurd h1.symm (hnot m (hI.vZ (by omega)).1)
  · have h2 := hI.vZ (by omega); rw [hbefore m h1 h2.1] at h2; cases h2.2
 refine ⟨him, fun k h1 h2 hkl => ?_⟩; have hki : i < k := Nat.lt_of_le_of_ne h1 (fun e => hnot k hkl e.symm); have hpk := hI.u9 k h2 hkl; obtain ⟨q, hq, hql⟩ := hkl; have hkn : k < ops.size := by have := hI.mle; omega
 rcases hC.comparable hri hq hql (.inl hk) (by omega) with h3 | h3
 · have := ((cw hC.stat ho).2.1 k hkn h3).1; omega
 · rw [gY hC.stat hI.wm k i hkn hi hpk h3] at hpi; cases hpi
theorem Can.mv (hC : Can P L cl ops A s0 s' rs S) (hfr : jx cl) {j : Nat} (hj : j <= ops.size) (q : Nat -> Bool) (x : Nat) (b : Blk) :
 (cH (S j).hp q (rs.take j)).get x = some b ↔ x < sz S j /\ (S j).hp.root.get x = some b /\ hidden (S 0).hp.hid x = false /\ ∀ k, k < j -> q k = false -> ¬ (sz S k <= x /\ x < sz S (k + 1)) :=
 hC.AU (X := cH (S j).hp q (rs.take j)) hj rfl rfl (by show dr q (rs.take j) 0 ++ (S j).hp.hid = _; rw [(hC.gh hfr j 0 (by omega) hj).hid]) x b
theorem Inv.quiet (hlk0 : (S 0).hp.lock <= sz S 0) (hcl : yL P cl) (hC : Can P L cl ops A s0 s' rs S) (hfr : jx cl) (hI : Inv ops s0 rs S f0 w0 a0 p f m a w) (ho : ops[i]? = some o) (hpi : p i = false)
 (hr : ∀ e ∈ o.after, Region.binds .any e = true -> p e.on = true) {v : Value} {H' : ah} (hri : rs[i]? = some ⟨.quiet, v, (S i).hp, cE (S i).hp H', none⟩)
 (hop : opE P cl (Ev.dj (S i).fr) o (cH (S i).hp (aZ A i) (rs.take i)) = some (v, H')) {Q : Exit -> Act -> World -> Prop} :
 o.wp P a w (fun a' w' => ∃ f' m', Inv ops s0 rs S f0 w0 a0 (upd p i) f' m' a' w') Q := by
 have hi : i < ops.size := (Array.getElem?_eq_some_iff.1 ho).1; obtain ⟨him, hnl⟩ := hI.Gg hC ho hpi hr hri rfl; have hmle := hI.mle; obtain ⟨r2, e1, _, _, e4, e5⟩ := hC.fk hi; rw [hri] at e1; cases e1; have hH1 : (S (i + 1)).hp = cE (S i).hp H' := e5.symm; have hsz1 : sz S (i + 1) = H'.size := by unfold sz; rw [hH1]; rfl
 have hroot : ∀ x, x < sz S i -> (S m).hp.root.get x = (S i).hp.root.get x := fun x hx => hC.jc hfr m i (by omega) hmle hnl x hx
 have hroot1 : ∀ x, x < sz S (i + 1) -> (S m).hp.root.get x = H'.root.get x := by
  intro x hx; have := hC.jc hfr m (i + 1) (by omega) hmle (fun k h1 h2 => hnl k (by omega) h2) x hx; rw [this, hH1]; rfl
 have hmono : ∀ a b, a <= b -> b <= ops.size -> sz S a <= sz S b := fun a b h1 h2 => hC.mY hfr h1 h2
 have hview : R f (cH (S i).hp (aZ A i) (rs.take i)) w := by
  refine hI.r.view ?_ rfl; intro x b hx; rw [hC.mv hfr (by omega)] at hx; rw [hC.jV hmle]; obtain ⟨h1, h2, h3, h4⟩ := hx; refine ⟨Nat.lt_of_lt_of_le h1 (hmono i m (by omega) hmle), by rw [hroot x h1]; exact h2, h3, fun k hk hpk hx => ?_⟩
  by_cases hki : k < i
  · refine h4 k hki ?_ hx; cases hg : aZ A i k with
    | false => rfl
    | true => rw [j7 hC.stat hI.wm ho hr (by omega) hg] at hpk; cases hpk
  · have := hmono i k (by omega) (by omega); omega
 have hfree : ∀ j, (cH (S i).hp (aZ A i) (rs.take i)).size <= j -> j < H'.size -> f j = none := fun j h1 h2 => hI.free i hi hpi j h1 (by rw [hsz1]; exact h2)
 refine EZ hcl hview (fun x hx u hu => hI.dj hC ho hpi hr x hx u hu) hfree hop ?_
 intro f' w' v' hV hS hR'; have hnoown : ∀ cb, ¬ ft f (cH (S i).hp (aZ A i) (rs.take i)) cb := by
  rintro cb ⟨x, b, l, h1, h2, _⟩
  have := ah.bh h1; rw [aU] at h2; have e : (cH (S i).hp (aZ A i) (rs.take i)).lock = (cH (S i).hp (aZ A i) (rs.take i)).size := rfl; omega
 have hlockH : H'.lock = sz S i := hS.lock; have hhidH : H'.hid = (cH (S i).hp (aZ A i) (rs.take i)).hid := hS.hid; have hsee : ∀ x b, (Mh S rs (upd p i) m).get x = some b -> (sz S i <= x /\ x < sz S (i + 1) /\ H'.get x = some b) \/ (¬ (sz S i <= x /\ x < sz S (i + 1)) /\ (Mh S rs p m).get x = some b) := by
  intro x b hx; rw [hC.jV hmle] at hx; obtain ⟨h1, h2, h3, h4⟩ := hx
  by_cases hin : sz S i <= x /\ x < sz S (i + 1)
  · refine .inl ⟨hin.1, hin.2, ?_⟩; have hnh : hidden H'.hid x = false := by
     rw [hhidH]; show hidden (dr (aZ A i) (rs.take i) 0 ++ (S i).hp.hid) x = false; rw [(hC.gh hfr i 0 (by omega) (by omega)).hid, fo, h3, Bool.or_false, <- Bool.not_eq_true, eI]
     rintro ⟨k, q, g1, _, g3, g4⟩
     rw [List.getElem?_take] at g1
     split at g1
     · rename_i hk; obtain ⟨q2, d1, _, _, d4, d5⟩ := hC.fk (i := k) (by omega); rw [g1] at d1; cases d1; rw [d5] at g4; have := hmono (k + 1) i (by omega) (by omega); have h5 : x < sz S (k + 1) := g4; omega
     · cases g1
    unfold ah.get; rw [if_pos (by rw [<- hsz1]; exact hin.2), hnh, if_neg (by simp), <- hroot1 x hin.2]; exact h2
  · refine .inr ⟨hin, ?_⟩; rw [hC.jV hmle]; refine ⟨h1, h2, h3, fun k hk hpk hx => ?_⟩
    by_cases e : k = i
    · subst e; exact hin hx
    · exact h4 k hk (by simp [upd, e, hpk]) hx
 have hlockM : (Mh S rs (upd p i) m).lock = (S 0).hp.lock := sw hC hfr hmle; have hlockM0 : (Mh S rs p m).lock = (S 0).hp.lock := sw hC hfr hmle; have hnew : ∀ x b l, (Mh S rs (upd p i) m).get x = some b -> sz S i <= x /\ x < sz S (i + 1) /\ H'.get x = some b -> f' x = some l -> w.heap.size <= l.blk := by
  rintro x b l _ ⟨h1, h2, h3⟩ h4
  apply Classical.byContradiction; intro hlt; exact hnoown l.blk (hS.own l.blk (by omega) ⟨x, b, l, h3, by rw [aU, hlockH]; exact h1, h4, rfl⟩)
 have hold : ∀ x b l, (Mh S rs p m).get x = some b -> f' x = some l -> f x = some l /\ l.blk < w.heap.size := by
  intro x b l h1 h2; obtain ⟨l2, C, e, fr, g1, _⟩ := hI.r.blk x b h1; have := hS.le x l2 g1; rw [h2] at this; cases this; exact ⟨g1, hI.r.big x l g1⟩
 have hRM : R f' (Mh S rs (upd p i) m) w' := by
  refine ⟨?_, hR'.big, ?_, ?_⟩
  · intro x b hx; rcases hsee x b hx with ⟨h1, h2, h3⟩ | ⟨h1, h2⟩
    · obtain ⟨l, C, e, fr, g1, g2, g3, g4⟩ := hR'.blk x b h3; exact ⟨l, C, e, fr, g1, g2, g3, fun _ => g4 (by rw [aU, hlockH]; exact h1)⟩
    · obtain ⟨l, C, e, fr, g1, g2, g3, g4⟩ := hI.r.blk x b h2; refine ⟨l, C, e, fr, hS.le x l g1, ?_, ?_, fun hm => g4 (by rw [aU, hlockM0]; rw [aU, hlockM] at hm; exact hm)⟩
      · rw [hS.fX l.blk (hI.r.big x l g1) (hnoown _)]; exact g2
      · intro j u hj; obtain ⟨d1, u', d2, d3⟩ := g3 j u hj; exact ⟨d1, u', d2, d3.mono hS.le⟩
  · rw [hlockM]; exact Nat.le_trans hlk0 (hmono 0 m (by omega) hmle)
  · intro x y b c l n hx hy hm hne hl hn; rcases hsee x b hx with hxn | ⟨_, hxo⟩
    · have h1 := hnew x b l hx hxn hl; rcases hsee y c hy with hyn | ⟨_, hyo⟩
      · exact hR'.inj x y b c l n hxn.2.2 hyn.2.2 (by rw [aU, hlockH]; exact hxn.1) hne hl hn
      · have := (hold y c n hyo hn).2; omega
    · obtain ⟨h1, h2⟩ := hold x b l hxo hl; rcases hsee y c hy with hyn | ⟨_, hyo⟩
      · have := hnew y c n hy hyn hn; omega
      · obtain ⟨h3, _⟩ := hold y c n hyo hn; exact hI.r.inj x y b c l n hxo hyo (by rw [aU, hlockM0]; rw [aU, hlockM] at hm; exact hm) hne h1 h3
 refine ⟨f', m, hI.after hC ho hpi hr hri hV hS.le ?_ hS.fK hS.os hS.tape hS.output ?_ ?_ hmle ?_ ?_ hRM hmono⟩
 · intro x hx; refine hS.out x ?_
   show ¬ (sz S i <= x /\ x < H'.size); rw [<- hsz1]; exact hx
 · intro cb h1 _; exact hS.fX cb (Nat.lt_of_lt_of_le h1 hI.fK) (hnoown cb)
 · rintro cb h1 ⟨x, b, l, hx, hm, hl, hcb⟩
   rcases hsee x b hx with hxn | ⟨_, hxo⟩
   · have := hnew x b l hx hxn hl; have := hI.fK; omega
   · obtain ⟨h2, _⟩ := hold x b l hxo hl; exact hI.own cb h1 ⟨x, b, l, hxo, by rw [aU, hlockM0]; rw [aU, hlockM] at hm; exact hm, h2, hcb⟩
 · intro hm; obtain ⟨h1, h2⟩ := hI.vZ hm; have : m ≠ i := by omega
   exact ⟨h1, by simp [upd, this, h2]⟩
 · intro j hj hlj; have := hI.u9 j hj hlj; unfold upd; split <;> simp [this]
theorem Inv.load (hC : Can P L cl ops A s0 s' rs S) (hfr : jx cl) (hI : Inv ops s0 rs S f0 w0 a0 p f m a w) (ho : ops[i]? = some o) (hpi : p i = false)
 (hr : ∀ e ∈ o.after, Region.binds .any e = true -> p e.on = true) {t : TypeId} {ad : Operand} {q v : Value} (hri : rs[i]? = some ⟨.load, v, (S i).hp, (S i).hp, some (t, q)⟩)
 (hop : o.op = .load t ad) (had : Ev.dj (S i).fr ad = some q) (hld : cd P (cH (S i).hp (aZ A i) (rs.take i)) t q = some v) {Q : Exit -> Act -> World -> Prop} :
 o.wp P a w (fun a' w' => ∃ f' m', Inv ops s0 rs S f0 w0 a0 (upd p i) f' m' a' w') Q := by
 have hi : i < ops.size := (Array.getElem?_eq_some_iff.1 ho).1; have hmle := hI.mle; have hmono : ∀ a b, a <= b -> b <= ops.size -> sz S a <= sz S b := fun a b h1 h2 => hC.mY hfr h1 h2
 have hVq : V f q (a.eval ad) := hI.dj hC ho hpi hr ad (by rw [hop]; simp [Op.operands]) q had; have key : ∃ X, R f X w /\ cd P X t q = some v := by
  have hcase : ∀ j, (j = i \/ jy rs j) -> j <= m -> (∀ k, j <= k -> k < m -> ¬ jy rs k) -> cd P (cH (S j).hp (aZ A i) (rs.take j)) t q = some v ->
   (∀ k, k < j -> aZ A i k = true -> p k = true) -> ∃ X, R f X w /\ cd P X t q = some v := by
   intro j _ hjm hnl hl hanc; refine ⟨_, hI.r.view (X := cH (S j).hp (aZ A i) (rs.take j)) ?_ rfl, hl⟩; intro x b hx; rw [hC.mv hfr (by omega)] at hx; rw [hC.jV hmle]; obtain ⟨h1, h2, h3, h4⟩ := hx; refine ⟨Nat.lt_of_lt_of_le h1 (hmono j m hjm hmle), by rw [hC.jc hfr m j hjm hmle hnl x h1]; exact h2, h3, fun k hk hpk hx => ?_⟩
   by_cases hkj : k < j
   · refine h4 k hkj ?_ hx; cases hg : aZ A i k with
     | false => rfl
     | true => rw [hanc k hkj hg] at hpk; cases hpk
   · have := hmono j k (by omega) (by omega); omega
  have hancr : ∀ k, k < ops.size -> aZ A i k = true -> p k = true := fun k hk hg => j7 hC.stat hI.wm ho hr hk hg
  have hloudpair : ∀ j, jy rs j -> p j = false -> j < i -> cd P (cH (S j).hp (aZ A i) (rs.take j)) t q = some v := by
   rintro j ⟨b, hb, hbl⟩ hpj hji
   have g1 : aZ A i j = false := by
    cases hg : aZ A i j with
    | false => rfl
    | true => rw [hancr j (by omega) hg] at hpj; cases hpj
   have g2 : aZ A j i = false := by
    cases hg : aZ A j i with
    | false => rfl
    | true =>
     have hjo : ops[j]? = some (ops[j]'(by omega)) := Array.getElem?_eq_getElem _; have := ((cw hC.stat hjo).2.1 i hi hg).1; omega
   obtain ⟨t2, q2, e1, e2⟩ := hC.xj hri hb hbl rfl g1 g2; cases e1; rw [if_pos hji] at e2; obtain ⟨r2, d1, _, _, d4, _⟩ := hC.fk (i := j) (by omega); rw [hb] at d1; cases d1; rw [d4] at e2; exact e2
  rcases Nat.lt_or_ge m i with hmi | him
  ·
   obtain ⟨h1, h2⟩ := hI.vZ (by omega); exact hcase m (.inr h1) (Nat.le_refl _) (fun k h3 h4 => by omega) (hloudpair m h1 h2 hmi) (fun k hk hg => hancr k (by omega) hg)
  · have hni : ¬ jy rs i := by
     rintro ⟨b, hb, hbl⟩
     rw [hri] at hb; cases hb; cases hbl
    by_cases hex : ∃ j, i < j /\ j < m /\ jy rs j
    ·
     have hlast : ∀ n, (∃ j, i < j /\ j < m /\ m - j <= n /\ jy rs j) -> ∃ j, i < j /\ j < m /\ jy rs j /\ ∀ k, j < k -> k < m -> ¬ jy rs k := by
      intro n
      induction n with
      | zero => rintro ⟨j, h1, h2, h3, h4⟩; omega
      | succ n ih =>
       rintro ⟨j, h1, h2, h3, h4⟩
       by_cases hk : ∃ k, j < k /\ k < m /\ jy rs k
       · obtain ⟨k, k1, k2, k3⟩ := hk; exact ih ⟨k, by omega, k2, by omega, k3⟩
       · exact ⟨j, h1, h2, h4, fun k k1 k2 k3 => hk ⟨k, k1, k2, k3⟩⟩
     obtain ⟨j0, j1, j2, j3⟩ := hex; obtain ⟨j, h1, h2, h3, h4⟩ := hlast m ⟨j0, j1, j2, by omega, j3⟩; have hpj := hI.u9 j h2 h3; obtain ⟨b, hb, hbl⟩ := h3; have hjn : j < ops.size := by omega
     have hjo : ops[j]? = some (ops[j]'hjn) := Array.getElem?_eq_getElem _; have g1 : aZ A i j = false := by
      cases hg : aZ A i j with
      | false => rfl
      | true => have := ((cw hC.stat ho).2.1 j hjn hg).1; omega
     have g2 : aZ A j i = false := by
      cases hg : aZ A j i with
      | false => rfl
      | true => rw [gY hC.stat hI.wm j i hjn hi hpj hg] at hpi; cases hpi
     obtain ⟨t2, q2, e1, e2⟩ := hC.xj hri hb hbl rfl g1 g2; cases e1; rw [if_neg (by omega)] at e2; obtain ⟨r2, d1, _, _, d4, d5⟩ := hC.fk (i := j) hjn; rw [hb] at d1; cases d1; rw [d5] at e2; refine ⟨_, hI.r.view (X := { (S (j + 1)).hp with lock := (S (j + 1)).hp.size }) ?_ rfl, ?_⟩
     · intro x c hx; rw [hC.jV hmle]; have hx' : (S (j + 1)).hp.get x = some c := hx; have hlt : x < sz S (j + 1) := ah.bh hx'; obtain ⟨u1, u2⟩ := ah.aQ hx'; refine ⟨Nat.lt_of_lt_of_le hlt (hmono (j + 1) m (by omega) hmle), ?_, ?_, ?_⟩
       · rw [hC.jc hfr m (j + 1) (by omega) hmle (fun k k1 k2 => h4 k (by omega) k2) x hlt]; exact u1
       · rw [<- (hC.gh hfr (j + 1) 0 (by omega) (by omega)).hid]; exact u2
       · rintro k hk hpk ⟨hx1, hx2⟩
         have hkj : k <= j := by
          rcases Nat.lt_or_ge j k with h5 | h5
          · have := hmono (j + 1) k (by omega) (by omega); omega
          · exact h5
         by_cases ekj : k = j
         · rw [ekj, hpj] at hpk; cases hpk
         ·
          obtain ⟨rk, r1, r2, _, r4, r5⟩ := hC.fk (i := k) (by omega); have hkk : rk.kind = .quiet \/ rk.kind = .cT := by
           have hszk : (S k).hp.size < (S (k + 1)).hp.size := by
            have : sz S k < sz S (k + 1) := by omega
            exact this
           rcases fT r2 with ⟨_, rfl⟩ | ⟨_, ⟨v, _, rfl⟩ | ⟨t, a, p, v, _, _, _, rfl⟩ | ⟨v, H', _, rfl⟩ | ⟨v, H', _, rfl⟩⟩
           · simp only at r4 r5; rw [<- r5] at hszk; exact absurd hszk (Nat.lt_irrefl _)
           · simp only at r4 r5; rw [<- r5] at hszk; exact absurd hszk (Nat.lt_irrefl _)
           · simp only at r4 r5; rw [<- r5] at hszk; exact absurd hszk (Nat.lt_irrefl _)
           · exact .inl rfl
           · exact .inr rfl
          rcases hC.comparable r1 hb hbl hkk ekj with g | g
          · have hko : ops[k]? = some (ops[k]'(by omega)) := Array.getElem?_eq_getElem _; have := ((cw hC.stat hko).2.1 j hjn g).1; omega
          · rw [gY hC.stat hI.wm j k hjn (by omega) hpj g] at hpk; cases hpk
     · exact (A0 (fun x => rfl) t q).trans e2
    · refine hcase i (.inl rfl) him (fun k k1 k2 k3 => ?_) hld (fun k hk hg => hancr k (by omega) hg); rcases Nat.lt_or_eq_of_le k1 with h5 | h5
      · exact hex ⟨k, h5, k2, k3⟩
      · subst h5; exact hni k3
 obtain ⟨X, hX, hXl⟩ := key; obtain ⟨v', h1, h2⟩ := mo hX hVq hXl; unfold Oper.wp; have hrun : (execOp a.eval o).run P w = .ok (.value v') w := by simp [execOp, hop, h1]
 rw [hrun]; exact ⟨f, m, hI.still hC hfr ho hpi hr hri (by simp) rfl h2 (.refl f _ w) hI.r⟩
theorem Ew (g : Nat -> Nat) (x : Nat) : ∀ (b a : Nat), a <= b -> g a <= x -> x < g b -> ∃ k, a <= k /\ k < b /\ g k <= x /\ x < g (k + 1) := by
 intro b
 induction b with
 | zero =>
  intro a h1 h2 h3; have : a = 0 := by omega
  subst this; omega
 | succ b ih =>
  intro a h1 h2 h3
  by_cases e : a = b + 1
  · subst e; omega
  · by_cases hx : x < g b
    · obtain ⟨k, k1, k2, k3⟩ := ih a (by omega) h2 hx; exact ⟨k, k1, by omega, k3⟩
    · exact ⟨b, by omega, by omega, by omega, h3⟩
theorem A5 (rs : List Rec) (n : Nat) : ∀ (d i : Nat), i + d = n -> ∃ m, i <= m /\ m <= n /\ (m < n -> jy rs m) /\ ∀ j, i <= j -> j < m -> ¬ jy rs j := by
 intro d
 induction d with
 | zero => intro i h; exact ⟨n, by omega, Nat.le_refl _, fun h => by omega, fun j h1 h2 => by omega⟩
 | succ d ih =>
  intro i h
  by_cases hl : jy rs i
  · exact ⟨i, Nat.le_refl _, by omega, fun _ => hl, fun j h1 h2 => by omega⟩
  · obtain ⟨m, m1, m2, m3, m4⟩ := ih (i + 1) (by omega); refine ⟨m, by omega, m2, m3, fun j h1 h2 => ?_⟩
    by_cases e : j = i
    · subst e; exact hl
    · exact m4 j (by omega) h2
theorem Can.makes (hC : Can P L cl ops A s0 s' rs S) {k : Nat} (hk : k < ops.size) (hlt : sz S k < sz S (k + 1)) : ∃ r, rs[k]? = some r /\ (r.kind = .quiet \/ r.kind = .cT) := by
 obtain ⟨rk, r1, r2, _, r4, r5⟩ := hC.fk hk; refine ⟨rk, r1, ?_⟩; have hszk : (S k).hp.size < (S (k + 1)).hp.size := hlt; rcases fT r2 with ⟨_, rfl⟩ | ⟨_, ⟨v, _, rfl⟩ | ⟨t, a, p, v, _, _, _, rfl⟩ | ⟨v, H', _, rfl⟩ | ⟨v, H', _, rfl⟩⟩
 · simp only at r4 r5; rw [<- r5] at hszk; exact absurd hszk (Nat.lt_irrefl _)
 · simp only at r4 r5; rw [<- r5] at hszk; exact absurd hszk (Nat.lt_irrefl _)
 · simp only at r4 r5; rw [<- r5] at hszk; exact absurd hszk (Nat.lt_irrefl _)
 · exact .inl rfl
 · exact .inr rfl
theorem Inv.cT (hlk0 : (S 0).hp.lock <= sz S 0) (hcl : yL P cl) (hC : Can P L cl ops A s0 s' rs S) (hfr : jx cl) (hI : Inv ops s0 rs S f0 w0 a0 p f m a w) (ho : ops[i]? = some o) (hpi : p i = false)
 (hr : ∀ e ∈ o.after, Region.binds .any e = true -> p e.on = true) {v : Value} {H' : ah} (hri : rs[i]? = some ⟨.cT, v, (S i).hp, H', none⟩)
 (hop : opE P cl (Ev.dj (S i).fr) o (S i).hp = some (v, H')) {Q : Exit -> Act -> World -> Prop} :
 o.wp P a w (fun a' w' => ∃ f' m', Inv ops s0 rs S f0 w0 a0 (upd p i) f' m' a' w') Q := by
 have hi : i < ops.size := (Array.getElem?_eq_some_iff.1 ho).1; obtain ⟨r2, e1, _, _, e4, e5⟩ := hC.fk hi; rw [hri] at e1; cases e1; have hH1 : (S (i + 1)).hp = H' := e5.symm; have hmono : ∀ a b, a <= b -> b <= ops.size -> sz S a <= sz S b := fun a b h1 h2 => hC.mY hfr h1 h2
 have hli : jy rs i := ⟨_, hri, rfl⟩
 have hmle := hI.mle; have hcmp : ∀ k, k < ops.size -> k ≠ i -> (∃ r, rs[k]? = some r /\ (r.kind = .quiet \/ r.kind = .cT)) -> (k < i -> p k = true) /\ (i < k -> p k = false) := by
  rintro k hk hne ⟨r, hrk, hkk⟩
  have hko : ops[k]? = some (ops[k]'hk) := Array.getElem?_eq_getElem _; rcases hC.comparable hrk hri rfl hkk hne with g | g
  · have h1 := ((cw hC.stat hko).2.1 i hi g).1; refine ⟨fun h => by omega, fun _ => ?_⟩; cases hp : p k with
    | false => rfl
    | true => rw [gY hC.stat hI.wm k i hk hi hp g] at hpi; cases hpi
  · have h1 := ((cw hC.stat ho).2.1 k hk g).1; exact ⟨fun _ => j7 hC.stat hI.wm ho hr hk g, fun h => by omega⟩
 have hloudk : ∀ k, jy rs k -> ∃ r, rs[k]? = some r /\ (r.kind = .quiet \/ r.kind = .cT) := fun k ⟨r, h1, h2⟩ => ⟨r, h1, .inr h2⟩
 have hmi : m = i := by
  rcases Nat.lt_trichotomy m i with h1 | h1 | h1
  · obtain ⟨h2, h3⟩ := hI.vZ (by omega); rw [(hcmp m (by omega) (by omega) (hloudk m h2)).1 h1] at h3; cases h3
  · exact h1
  · rw [hI.u9 i h1 hli] at hpi; cases hpi
 subst hmi; have hhid : (S m).hp.hid = (S 0).hp.hid := (hC.gh hfr m 0 (by omega) hmle).hid; have hlock : (S m).hp.lock = (S 0).hp.lock := (hC.gh hfr m 0 (by omega) hmle).lock; have hsub : ∀ x b, (S m).hp.get x = some b -> (Mh S rs p m).get x = some b := by
  intro x b hx; rw [hC.jV hmle]; obtain ⟨u1, u2⟩ := ah.aQ hx; refine ⟨ah.bh hx, u1, by rw [<- hhid]; exact u2, fun k hk hpk hx => ?_⟩; rw [(hcmp k (by omega) (by omega) (hC.makes (by omega) (by omega))).1 hk] at hpk; cases hpk
 have hR0 : R f (S m).hp w := hI.r.sub hsub rfl (by rw [hlock]; exact Nat.le_trans hlk0 (hmono 0 m (by omega) hmle)); have hfree : ∀ j, (S m).hp.size <= j -> j < H'.size -> f j = none := fun j h1 h2 => hI.free m hi hpi j h1 (by show j < (S (m + 1)).hp.size; rw [hH1]; exact h2)
 refine EZ hcl hR0 (fun x hx u hu => hI.dj hC ho hpi hr x hx u hu) hfree hop ?_
 intro f' w' v' hV hS hR'; obtain ⟨m', n1, n2, n3, n4⟩ := A5 rs ops.size (ops.size - (m + 1)) (m + 1) (by omega); have hhid' : H'.hid = (S 0).hp.hid := by rw [<- hhid]; exact hS.hid
 have hlock' : H'.lock = (S 0).hp.lock := by rw [<- hlock]; exact hS.lock
 have hsub' : ∀ x b, (Mh S rs (upd p m) m').get x = some b -> H'.get x = some b := by
  intro x b hx; rw [hC.jV n2] at hx; obtain ⟨h1, h2, h3, h4⟩ := hx
  by_cases hlt : x < sz S (m + 1)
  · have := hC.jc hfr m' (m + 1) n1 n2 n4 x hlt; rw [hH1] at this; have hlt' : x < H'.size := by
     have h5 : x < (S (m + 1)).hp.size := hlt; rw [hH1] at h5; exact h5
    unfold ah.get; rw [if_pos hlt', hhid', h3, if_neg (by simp), <- this]; exact h2
  · exfalso; obtain ⟨k, k1, k2, k3, k4⟩ := Ew (sz S) x m' (m + 1) n1 (by omega) h1; have hpk := (hcmp k (by omega) (by omega) (hC.makes (by omega) (by omega))).2 (by omega); have hne : k ≠ m := by omega
    exact h4 k k2 (by simp [upd, hne, hpk]) ⟨k3, k4⟩
 have hlockM : (Mh S rs (upd p m) m').lock = (S 0).hp.lock := sw hC hfr n2; refine ⟨f', m', hI.after hC ho hpi hr hri hV hS.le ?_ hS.fK hS.os hS.tape hS.output ?_ ?_ n2 ?_ ?_ (hR'.sub hsub' (by rw [hlockM, hlock']) (by rw [hlockM]; exact Nat.le_trans hlk0 (hmono 0 m' (by omega) n2))) hmono⟩
 · intro x hx; refine hS.out x ?_
   rintro ⟨h1, h2⟩
   exact hx ⟨h1, by show x < (S (m + 1)).hp.size; rw [hH1]; exact h2⟩
 · intro cb h1 h2; exact hS.fX cb (Nat.lt_of_lt_of_le h1 hI.fK) (fun h3 => h2 (hI.own cb h1 (iY hsub rfl h3)))
 · intro cb h1 h2; exact hI.own cb h1 (iY hsub rfl (hS.own cb (Nat.lt_of_lt_of_le h1 hI.fK) (iY hsub' (by rw [hlockM, hlock']) h2)))
 · intro hm; have hl := n3 hm; have hne : m' ≠ m := by omega
   exact ⟨hl, by simp only [upd, hne, if_false]; exact (hcmp m' hm hne (hloudk m' hl)).2 (by omega)⟩
 · intro j hj hlj; unfold upd
   split
   · rfl
   · rename_i hne; rcases Nat.lt_or_ge j m with h1 | h1
     · exact (hcmp j (by omega) hne (hloudk j hlj)).1 h1
     · exact absurd hlj (n4 j (by omega) hj)
theorem Inv.step (hlk0 : (S 0).hp.lock <= sz S 0) (hcl : yL P cl) (hC : Can P L cl ops A s0 s' rs S) (hfr : jx cl) (hI : Inv ops s0 rs S f0 w0 a0 p f m a w) (ho : ops[i]? = some o) (hpi : p i = false)
 (hr : ∀ e ∈ o.after, Region.binds .any e = true -> p e.on = true) {Q : Exit -> Act -> World -> Prop} :
 wpOp P ops Q i (fun a' w' => ∃ f' m', Inv ops s0 rs S f0 w0 a0 (upd p i) f' m' a' w') a w := by
 have hi : i < ops.size := (Array.getElem?_eq_some_iff.1 ho).1; obtain ⟨r, hri, hrec, _, e4, e5⟩ := hC.fk hi; have hoi : ops[i] = o := (Array.getElem?_eq_some_iff.1 ho).2; rw [hoi] at hrec; unfold wpOp; simp only [ho]; rw [hI.wanted hC ho hpi hr]; rcases fT hrec with ⟨hw, rfl⟩ | ⟨hw, ⟨v, hop, rfl⟩ | ⟨t, ad, q, v, hop, had, hld, rfl⟩ | ⟨v, H', hop, rfl⟩ | ⟨v, H', hop, rfl⟩⟩
 · rw [hw]; simp only [Bool.false_eq_true, if_false]; exact ⟨f, m, hI.still hC hfr ho hpi hr hri (by simp) rfl (V.undef f) (.refl f _ w) hI.r⟩
 · rw [hw]; simp only [if_true]
   left
   refine EZ hcl hI.r (fun x hx u hu => hI.dj hC ho hpi hr x hx u hu) (fun j h1 h2 => by omega) (hop _) ?_
   intro f' w' v' hV hS hR'; exact ⟨f', m, hI.still hC hfr ho hpi hr hri (by simp) rfl hV hS hR'⟩
 · rw [hw]; simp only [if_true]
   left
   exact hI.load hC hfr ho hpi hr hri hop had hld
 · rw [hw]; simp only [if_true]
   left
   exact hI.quiet hlk0 hcl hC hfr ho hpi hr hri hop
 · rw [hw]; simp only [if_true]
   left
   exact hI.cT hlk0 hcl hC hfr ho hpi hr hri hop
end
end
end Go.Proofs.YtdbkoeefnodejaaGreat.Ev
namespace Go.Proofs.YtdbkoeefnodejaaGreat.Ev
noncomputable section
open Go
section
variable {P : Program} {L : List FuncId} {cl : FuncId -> List Value -> ah -> Option (Value × ah)}
variable {ops : Array Oper} {A : Array Nat} {s0 s' : St} {rs : List Rec} {S : Nat -> St}
variable {f0 f : Fm} {w0 w : World} {a0 a : Act} {p : Nat -> Bool} {m i : Nat} {o : Oper}
theorem Inv.done (hC : Can P L cl ops A s0 s' rs S) (hfr : jx cl) (hlk0 : (S 0).hp.lock <= sz S 0) (hI : Inv ops s0 rs S f0 w0 a0 p f m a w) (hall : ∀ k, k < ops.size -> p k = true) :
 Stp f0 s0.hp w0 f s'.hp w /\ R f s'.hp w /\ FR f s'.fr a /\ a.defers = a0.defers := by
 have hm : m = ops.size := by
  rcases Nat.lt_or_eq_of_le hI.mle with h | h
  · obtain ⟨_, h2⟩ := hI.vZ h; rw [hall m h] at h2; cases h2
  · exact h
 subst hm; have hFr := hC.gh hfr ops.size 0 (by omega) (Nat.le_refl _); have e0 : (S 0).hp = s0.hp := by rw [hC.ini]
 have en : (S ops.size).hp = s'.hp := by rw [hC.fin]
 have hsub : ∀ x b, (S ops.size).hp.get x = some b -> (Mh S rs p ops.size).get x = some b := by
  intro x b hx; rw [hC.jV (Nat.le_refl _)]; obtain ⟨u1, u2⟩ := ah.aQ hx; exact ⟨ah.bh hx, u1, by rw [<- hFr.hid]; exact u2, fun k hk hpk => by rw [hall k hk] at hpk; cases hpk⟩
 have hR : R f (S ops.size).hp w := hI.r.sub hsub rfl (by rw [hFr.lock]; exact Nat.le_trans hlk0 hFr.size); refine ⟨⟨hI.le, ?_, ?_, ?_, ?_, ?_, hI.fK, hI.os, hI.tape, hI.output, ?_, ?_⟩, ?_, ⟨?_, ?_⟩, hI.defers⟩
 · intro x hx; refine hI.out x ?_
   unfold sz; rw [e0, en]; exact hx
 · rw [<- e0, <- en]; exact hFr.size
 · rw [<- e0, <- en]; exact hFr.lock
 · rw [<- e0, <- en]; exact hFr.hid
 · rw [<- e0, <- en]; exact hFr.root
 · rw [<- e0]; exact hI.fX
 · rw [<- e0, <- en]; exact fun cb h1 h2 => hI.own cb h1 (iY hsub rfl h2)
 · rw [<- en]; exact hR
 · have := (hC.frame ops.size (Nat.le_refl _)).1; rw [hC.fin] at this; rw [this]; exact hI.AY
 · intro t; obtain ⟨c1, c2⟩ := (hC.frame ops.size (Nat.le_refl _)).2 t; rw [hC.fin] at c1 c2
   by_cases hex : ∃ (k : Nat) (q : Oper), ops[k]? = some q /\ q.dst = some t
   · obtain ⟨k, q, hq, hd⟩ := hex; have hk : k < ops.size := (Array.getElem?_eq_some_iff.1 hq).1; obtain ⟨r, hr, _⟩ := hC.fk hk; rw [c1 k q r hk hq hr hd]; exact hI.fr1 t k q r hq hr hd (hall k hk)
   · rw [c2 (fun k q _ hq hd => hex ⟨k, q, hq, hd⟩)]; exact hI.fr2 t (fun k q hq hd => absurd ⟨k, q, hq, hd⟩ hex)
def pending (listed : Array Bool) (n : Nat) : Nat := (List.range n).countP fun j => !listed.getD j false
theorem DG (p : Nat -> Bool) (i : Nat) (hp : p i = false) : ∀ l : List Nat, l.countP (fun j => !upd p i j) <= l.countP (fun j => !p j) /\
 (i ∈ l -> l.countP (fun j => !upd p i j) < l.countP (fun j => !p j)) := by
 intro l
 induction l with
 | nil => exact ⟨Nat.le_refl _, fun h => by simp at h⟩
 | cons x l ih =>
  obtain ⟨h1, h2⟩ := ih; simp only [List.countP_cons]
  by_cases e : x = i
  · subst e; have : upd p x x = true := by simp [upd]
    rw [this, hp]; simp; omega
  · have : upd p i x = p x := by simp [upd, e]
    rw [this]; refine ⟨by omega, fun h => ?_⟩; have := h2 ((List.mem_cons.1 h).resolve_left (fun h3 => e h3.symm)); omega
theorem CN {listed : Array Bool} (hi : i < listed.size) : (fun j => (listed.setIfInBounds i true).getD j false) = upd (fun j => listed.getD j false) i := by
 funext j
 unfold upd; simp only [Array.getD_eq_getD_getElem?, Array.getElem?_setIfInBounds]
 by_cases e : j = i
 · subst e; simp [hi]
 · rw [if_neg (fun h => e h.symm), if_neg e]
theorem iH {listed : Array Bool} {j : Nat} (hj : j < listed.size) : listed.getD j true = listed.getD j false := by
 simp [Array.getD_eq_getD_getElem?, hj]
theorem F1 (hlk0 : (S 0).hp.lock <= sz S 0) (hcl : yL P cl) (hC : Can P L cl ops A s0 s' rs S) (hfr : jx cl) {Q : Exit -> Act -> World -> Prop}
 (hQ : ∀ f a w, Stp f0 s0.hp w0 f s'.hp w -> R f s'.hp w -> FR f s'.fr a -> a.defers = a0.defers -> Q .normal a w) :
 ∀ (fuel : Nat) (listed : Array Bool) (f : Fm) (m : Nat) (a : Act) (w : World), listed.size = ops.size -> pending listed ops.size <= fuel ->
  Inv ops s0 rs S f0 w0 a0 (fun j => listed.getD j false) f m a w -> wpAny P .any ops Q fuel listed a w := by
 intro fuel
 induction fuel with
 | zero =>
  intro listed f m a w hsz hc hI; have hall : ∀ k, k < ops.size -> listed.getD k false = true := by
   intro k hk; have h0 : pending listed ops.size = 0 := by omega
   have := List.countP_eq_zero.1 h0 k (by simpa using hk); simpa using this
  obtain ⟨h1, h2, h3, h4⟩ := hI.done hC hfr hlk0 hall; refine ⟨?_, hQ f a w h1 h2 h3 h4⟩; rw [List.eq_nil_iff_forall_not_mem]; intro j hj; obtain ⟨g1, o, ho, _⟩ := mem_ready.1 hj; have hjs : j < ops.size := (Array.getElem?_eq_some_iff.1 ho).1; rw [iH (by omega), hall j hjs] at g1; cases g1
 | succ fuel ih =>
  intro listed f m a w hsz hc hI; refine ⟨fun hnil => ?_, fun i hi => ?_⟩
  · have hall : ∀ k, k < ops.size -> listed.getD k false = true := by
     intro k
     induction k using Nat.strongRecOn with
     | _ k ihk =>
      intro hk; apply Classical.byContradiction; intro hn; have hn : listed.getD k false = false := by simpa using hn
      have hko : ops[k]? = some (ops[k]'hk) := Array.getElem?_eq_getElem _; have : k ∈ Region.ready .any ops listed := by
       refine mem_ready.2 ⟨by rw [iH (by omega)]; exact hn, _, hko, fun e he hb => ?_⟩; have hlt := (cw hC.stat hko).1 e he hb; exact ihk e.on hlt (by omega)
      rw [hnil] at this; cases this
    obtain ⟨h1, h2, h3, h4⟩ := hI.done hC hfr hlk0 hall; exact hQ f a w h1 h2 h3 h4
  · obtain ⟨g1, o, ho, hr⟩ := mem_ready.1 hi; have hio : i < ops.size := (Array.getElem?_eq_some_iff.1 ho).1; have hpi : listed.getD i false = false := by rw [<- iH (by omega)]; exact g1
    have hstep := hI.step hlk0 hcl hC hfr ho hpi (fun e he hb => hr e he hb) (Q := Q); refine wpOp_mono ?_ hstep
    rintro a' w' ⟨f', m', hI'⟩
    have hlu := CN (i := i) (listed := listed) (by omega); refine ih _ f' m' a' w' (by simpa using hsz) ?_ (by rw [hlu]; exact hI'); have := (DG (fun j => listed.getD j false) i hpi (List.range ops.size)).2 (by simpa using hio); unfold pending at hc ⊢; have e : (List.range ops.size).countP (fun j => !(listed.setIfInBounds i true).getD j false) = (List.range ops.size).countP (fun j => !upd (fun j => listed.getD j false) i j) := by
     rw [<- hlu]
    rw [e]; omega
theorem B6 (hmix : P.follows .mixedOrders = true) (hcl : yL P cl) (hfr : jx cl) {ops : Array Oper} {fr : List Value} {H : ah} {s' : St} {id : Nat}
 (hR : R f H w) (hF : FR f fr a) (hfree : ∀ j, H.size <= j -> j < s'.hp.size -> f j = none) (h : jv P L cl ops ⟨fr, H⟩ = some s') {Q : Exit -> Act -> World -> Prop}
 (hQ : ∀ f' w' a', Stp f H w f' s'.hp w' -> R f' s'.hp w' -> FR f' s'.fr a' -> a'.defers = a.defers -> Q .normal a' w') : (Code.region id ops true).wp P Q a w := by
 unfold jv at h
 split at h
 · cases h
 · rename_i hst
   split at h
   · rename_i s2 rs hrun
     split at h
     · rename_i hpairs; cases h; obtain ⟨hlen, _, S, hS0, hSn, hstep⟩ := jU ops.toList 0 ⟨fr, H⟩ [] s' rs rfl hrun; have hC : Can P L cl ops (Region.before ops) ⟨fr, H⟩ s' rs S := by
        refine ⟨by simpa using hlen, hS0, by simpa using hSn, ?_, hst, hpairs⟩; intro i o ho; have := hstep i o (by simpa using ho); simpa only [Nat.zero_add] using this
       have e0 : (S 0).hp = H := by rw [hS0]
       have en : (S ops.size).hp = s'.hp := by rw [hC.fin]
       have hlk0 : (S 0).hp.lock <= sz S 0 := by unfold sz; rw [e0]; exact hR.lk
       refine wp_region_any hmix ?_
       obtain ⟨m, m1, m2, m3, m4⟩ := A5 rs ops.size ops.size 0 (by omega); have hp0 : ∀ j, (Array.replicate ops.size false).getD j false = false := by
        intro j; simp only [Array.getD_eq_getD_getElem?]
        by_cases hj : j < ops.size
        · simp [hj]
        · simp [hj]
       have hmono : ∀ a b, a <= b -> b <= ops.size -> sz S a <= sz S b := fun a b h1 h2 => hC.mY hfr h1 h2
       have hFr := hC.gh hfr m 0 (by omega) m2; have hsub : ∀ x b, (Mh S rs (fun j => (Array.replicate ops.size false).getD j false) m).get x = some b -> (S 0).hp.get x = some b := by
        intro x b hx; rw [hC.jV m2] at hx; obtain ⟨h1, h2, h3, h4⟩ := hx
        by_cases hlt : x < sz S 0
        · have := hC.jc hfr m 0 (by omega) m2 (fun k _ hk => m4 k (by omega) hk) x hlt; unfold ah.get; rw [if_pos (show x < (S 0).hp.size from hlt), h3, if_neg (by simp), <- this]; exact h2
        · exfalso; obtain ⟨k, k1, k2, k3, k4⟩ := Ew (sz S) x m 0 (by omega) (by omega) h1; exact h4 k k2 (hp0 k) ⟨k3, k4⟩
       have hlockM : (Mh S rs (fun j => (Array.replicate ops.size false).getD j false) m).lock = (S 0).hp.lock := sw hC hfr m2; refine F1 (f0 := f) (w0 := w) (a0 := a) hlk0 hcl hC hfr (fun f' a' w' h1 h2 h3 h4 => hQ f' w' a' h1 h2 h3 h4) ops.size _ f m a _ (by simp) ?_ ?_
       · unfold pending; exact Nat.le_trans List.countP_le_length (by simp)
       · have hRd : R f H { w with drawn := w.drawn + 1 } := hR.drew; refine ⟨m2, fun hm => ⟨m3 hm, hp0 m⟩, fun j hj hl => absurd hl (m4 j (by omega) hj), fun i o _ hp => ?_, ?_, hF.size, rfl, ?_, ?_, .refl f, fun _ _ => rfl, ?_, Nat.le_refl _, rfl, rfl, rfl, fun _ _ _ => rfl, ?_⟩
         · have hp' : (Array.replicate ops.size false).getD i false = true := hp; rw [hp0 i] at hp'; cases hp'
         · have hRd' : R f (S 0).hp { w with drawn := w.drawn + 1 } := by rw [e0]; exact hRd
           exact hRd'.sub hsub (by rw [hlockM]) (by rw [hlockM]; exact Nat.le_trans hlk0 (hmono 0 m (by omega) m2))
         · intro t k q r _ _ _ hp; have hp' : (Array.replicate ops.size false).getD k false = true := hp; rw [hp0 k] at hp'; cases hp'
         · intro t _; exact hF.val t
         · intro k hk _ x hx1 hx2; refine hfree x ?_ ?_
           · have := hmono 0 k (by omega) (by omega); unfold sz at this hx1; rw [e0] at this; omega
           · have := hmono (k + 1) ops.size (by omega) (by omega); unfold sz at this hx2; rw [en] at this; omega
         · intro cb _ h2; exact iY hsub (by rw [hlockM]) h2
     · cases h
   · cases h
def Sj : Ex -> Exit
 | .normal => .normal
 | .exit id => .exit id
 | .ret => .ret
def vg (f : Fm) (H : ah) (w : World) (a : Act) (ex : Ex) (s' : St) (e : Exit) (a' : Act) (w' : World) : Prop :=
 e = Sj ex /\ ∃ f', Stp f H w f' s'.hp w' /\ R f' s'.hp w' /\ FR f' s'.fr a' /\ a'.defers = a.defers
def HL (P : Program) (c : Code) (s : St) (ex : Ex) (s' : St) : Prop :=
 ∀ (f : Fm) (a : Act) (w : World), R f s.hp w -> FR f s.fr a -> (∀ j, s.hp.size <= j -> j < s'.hp.size -> f j = none) -> c.wp P (vg f s.hp w a ex s') a w
theorem DJ (hfr : jx cl) {s s' : St} (h : jv P L cl ops s = some s') : s.hp.size <= s'.hp.size := by
 unfold jv at h
 split at h
 · cases h
 · rename_i hst
   split at h
   · rename_i s2 rs hrun
     split at h
     · rename_i hpairs; cases h; obtain ⟨hlen, _, S, hS0, hSn, hstep⟩ := jU ops.toList 0 s [] s' rs rfl hrun; have hC : Can P L cl ops (Region.before ops) s s' rs S := by
        refine ⟨by simpa using hlen, hS0, by simpa using hSn, ?_, hst, hpairs⟩; intro i o ho; have := hstep i o (by simpa using ho); simpa only [Nat.zero_add] using this
       have := hC.mY hfr (Nat.zero_le ops.size) (Nat.le_refl _); unfold sz at this; rw [hC.ini, hC.fin] at this; exact this
     · cases h
   · cases h
theorem FN (hfr : jx cl) : ∀ (l : List Oper) (s s' : St), iR P cl ops l s = some s' -> s.hp.size <= s'.hp.size := by
 intro l
 induction l with
 | nil => intro s s' h; simp [iR] at h; subst h; exact Nat.le_refl _
 | cons q l ihk =>
  intro s s' h; simp only [iR] at h
  split at h
  · split at h
    · rename_i hq; exact Nat.le_trans (mF hfr hq).size (ihk _ _ h)
    · cases h
  · have := ihk _ _ h; exact this
theorem vS {body : St -> Option (Ex × St)} (hb : ∀ s ex s', body s = some (ex, s') -> s.hp.size <= s'.hp.size) : ∀ (n : Nat) (s : St) (ex : Ex) (s' : St), ig n body s = some (ex, s') -> s.hp.size <= s'.hp.size := by
 intro n
 induction n with
 | zero => intro s ex s' h; simp [ig] at h
 | succ n ih =>
  intro s ex s' h; simp only [ig] at h
  split at h
  · rename_i s1 h1; exact Nat.le_trans (hb _ _ _ h1) (ih _ _ _ h)
  · exact hb _ _ _ h
theorem nQ (hfr : jx cl) (N : Nat) : ∀ (c : Code) (s : St) (ex : Ex) (s' : St), aY P L cl N c s = some (ex, s') -> s.hp.size <= s'.hp.size := by
 intro c
 induction c with
 | skip => intro s ex s' h; simp [aY] at h; rw [<- h.2]; exact Nat.le_refl _
 | region id ops d =>
  intro s ex s' h; simp only [aY] at h
  split at h
  · simp only [Option.map_eq_some_iff] at h; obtain ⟨s1, h1, h2⟩ := h; cases h2; exact FN hfr _ _ _ h1
  · simp only [Option.map_eq_some_iff] at h; obtain ⟨s1, h1, h2⟩ := h; cases h2; exact DJ hfr h1
 | seq x y ihx ihy =>
  intro s ex s' h; simp only [aY] at h
  split at h
  · rename_i s1 h1; exact Nat.le_trans (ihx _ _ _ h1) (ihy _ _ _ h)
  · exact ihx _ _ _ h
 | cond c x y ihx ihy =>
  intro s ex s' h; simp only [aY] at h
  split at h
  · exact ihx _ _ _ h
  · exact ihy _ _ _ h
  · cases h
 | block id b ih =>
  intro s ex s' h; simp only [aY] at h
  split at h
  · rename_i k s1 h1; have := ih _ _ _ h1
    split at h <;> (cases h; exact this)
  · exact ih _ _ _ h
 | loop b ih =>
  intro s ex s' h; simp only [aY] at h; exact vS ih _ _ _ _ h
 | rangeFunc f ps x y => intro s ex s' h; simp [aY] at h
 | exit id => intro s ex s' h; simp [aY] at h; rw [<- h.2]; exact Nat.le_refl _
 | scope b => intro s ex s' h; simp [aY] at h
 | label l => intro s ex s' h; simp [aY] at h; rw [<- h.2]; exact Nat.le_refl _
 | goto l => intro s ex s' h; simp [aY] at h
 | ret => intro s ex s' h; simp [aY] at h; rw [<- h.2]; exact Nat.le_refl _
 | refuse y => intro s ex s' h; simp [aY] at h
theorem B9 {c : Code} {Q Q' : Exit -> Act -> World -> Prop} (hq : ∀ e a w, Q e a w -> Q' e a w) : ∀ (n : Nat) (a : Act) (w : World), Code.rounds P c Q n a w -> Code.rounds P c Q' n a w := by
 intro n
 induction n with
 | zero => intro a w h; exact h
 | succ n ih =>
  intro a w h; show c.wp P (Exit.then (Code.rounds P c Q' n) Q') a w; refine wp_mono (show c.wp P (Exit.then (Code.rounds P c Q n) Q) a w from h) ?_
  intro e a1 w1 h1; cases e with
  | normal => exact ih a1 w1 h1
  | exit id => exact hq _ _ _ h1
  | goto l => exact hq _ _ _ h1
  | ret => exact hq _ _ _ h1
  | panic ch => exact hq _ _ _ h1
  | outgrown => exact hq _ _ _ h1
theorem Ck {body : Code} {bodyE : St -> Option (Ex × St)} (hsz : ∀ s ex s', bodyE s = some (ex, s') -> s.hp.size <= s'.hp.size)
 (hb : ∀ s ex s', bodyE s = some (ex, s') -> HL P body s ex s') : ∀ (n : Nat) (s : St) (ex : Ex) (s' : St), ig n bodyE s = some (ex, s') ->
 ∀ (f : Fm) (a : Act) (w : World), R f s.hp w -> FR f s.fr a -> (∀ j, s.hp.size <= j -> j < s'.hp.size -> f j = none) -> Code.rounds P body (vg f s.hp w a ex s') n a w := by
 intro n
 induction n with
 | zero => intro s ex s' h; simp [ig] at h
 | succ n ih =>
  intro s ex s' h f a w hR hF hfree; simp only [ig] at h; show body.wp P (Exit.then (Code.rounds P body (vg f s.hp w a ex s') n) (vg f s.hp w a ex s')) a w
  split at h
  · rename_i s1 h1; have hs1 := hsz _ _ _ h1; have hs2 := vS hsz n _ _ _ h; refine wp_mono (hb _ _ _ h1 f a w hR hF (fun j h2 h3 => hfree j h2 (by omega))) ?_
    rintro e a1 w1 ⟨rfl, f1, hS, hR1, hF1, hd⟩
    show Code.rounds P body (vg f s.hp w a ex s') n a1 w1; have := ih s1 ex s' h f1 a1 w1 hR1 hF1 (fun j h2 h3 => by rw [hS.out j (by omega)]; exact hfree j (by omega) h3); refine B9 ?_ n a1 w1 this
    rintro e2 a2 w2 ⟨rfl, f2, hS2, hR2, hF2, hd2⟩
    exact ⟨rfl, f2, hS.trans hS2, hR2, hF2, by rw [hd2, hd]⟩
  · rename_i hnn; refine wp_mono (hb _ _ _ h f a w hR hF hfree) ?_
    rintro e a1 w1 ⟨rfl, h2⟩
    cases ex with
    | normal => exact absurd h (hnn s')
    | exit id => exact ⟨rfl, h2⟩
    | ret => exact ⟨rfl, h2⟩
theorem BL (hmix : P.follows .mixedOrders = true) (hcl : yL P cl) (hfr : jx cl) (N : Nat) : ∀ (c : Code) (s : St) (ex : Ex) (s' : St), aY P L cl N c s = some (ex, s') -> HL P c s ex s' := by
 intro c
 induction c with
 | skip =>
  intro s ex s' h f a w hR hF hfree; simp [aY] at h; obtain ⟨rfl, rfl⟩ := h; exact wp_skip ⟨rfl, f, .refl f _ w, hR, hF, rfl⟩
 | region id ops d =>
  intro s ex s' h f a w hR hF hfree; simp only [aY] at h
  split at h
  · simp only [Option.map_eq_some_iff] at h; obtain ⟨s1, h1, h2⟩ := h; cases h2; refine wp_region ?_
    have := Dv hcl hfr (Q := vg f s.hp w a .normal s') ops.toList 0 s.fr s.hp f w a s' (by simp) hR hF hfree h1 (fun f' w' a' g1 g2 g3 g4 => ⟨rfl, f', g1, g2, g3, g4⟩); simpa using this
  · simp only [Option.map_eq_some_iff] at h; obtain ⟨s1, h1, h2⟩ := h; cases h2; exact B6 hmix hcl hfr hR hF hfree h1 (fun f' w' a' g1 g2 g3 g4 => ⟨rfl, f', g1, g2, g3, g4⟩)
 | seq x y ihx ihy =>
  intro s ex s' h f a w hR hF hfree; simp only [aY] at h; refine wp_seq ?_
  split at h
  · rename_i s1 h1; have hs1 := nQ hfr N _ _ _ _ h1; have hs2 := nQ hfr N _ _ _ _ h; refine wp_mono (ihx _ _ _ h1 f a w hR hF (fun j h2 h3 => hfree j h2 (by omega))) ?_
    rintro e a1 w1 ⟨rfl, f1, hS, hR1, hF1, hd⟩
    show y.wp P (vg f s.hp w a ex s') a1 w1; refine wp_mono (ihy _ _ _ h f1 a1 w1 hR1 hF1 (fun j h2 h3 => by rw [hS.out j (by omega)]; exact hfree j (by omega) h3)) ?_
    rintro e2 a2 w2 ⟨rfl, f2, hS2, hR2, hF2, hd2⟩
    exact ⟨rfl, f2, hS.trans hS2, hR2, hF2, by rw [hd2, hd]⟩
  · rename_i hnn; refine wp_mono (ihx _ _ _ h f a w hR hF hfree) ?_
    rintro e a1 w1 ⟨rfl, h2⟩
    cases ex with
    | normal => exact absurd h (hnn s')
    | exit id => exact ⟨rfl, h2⟩
    | ret => exact ⟨rfl, h2⟩
 | cond c x y ihx ihy =>
  intro s ex s' h f a w hR hF hfree; simp only [aY] at h
  split at h
  · rename_i hc; have hv := hF.dj hc; cases hx : a.eval c <;> rw [hx] at hv <;> try (cases hv; done)
    cases hv; exact wp_cond_true hx (ihx _ _ _ h f a w hR hF hfree)
  · rename_i hc; have hv := hF.dj hc; cases hx : a.eval c <;> rw [hx] at hv <;> try (cases hv; done)
    cases hv; exact wp_cond_false hx (ihy _ _ _ h f a w hR hF hfree)
  · cases h
 | block id b ih =>
  intro s ex s' h f a w hR hF hfree; simp only [aY] at h; refine wp_block ?_
  split at h
  · rename_i k s1 h1
    split at h
    · rename_i hk; cases h; refine wp_mono (ih _ _ _ h1 f a w hR hF hfree) ?_
      rintro e a1 w1 ⟨rfl, h2⟩
      show (if k = id then vg f s.hp w a .normal s' .normal a1 w1 else vg f s.hp w a .normal s' (.exit k) a1 w1); rw [if_pos hk]; exact ⟨rfl, h2⟩
    · rename_i hk; cases h; refine wp_mono (ih _ _ _ h1 f a w hR hF hfree) ?_
      rintro e a1 w1 ⟨rfl, h2⟩
      show (if k = id then vg f s.hp w a (.exit k) s' .normal a1 w1 else vg f s.hp w a (.exit k) s' (.exit k) a1 w1); rw [if_neg hk]; exact ⟨rfl, h2⟩
  · rename_i hne; refine wp_mono (ih _ _ _ h f a w hR hF hfree) ?_
    rintro e a1 w1 ⟨rfl, h2⟩
    cases ex with
    | normal => exact ⟨rfl, h2⟩
    | exit k => exact absurd h (hne k s')
    | ret => exact ⟨rfl, h2⟩
 | loop b ih =>
  intro s ex s' h f a w hR hF hfree; simp only [aY] at h; exact wp_loop_rounds N (Ck (fun s ex s' hh => nQ hfr N b s ex s' hh) ih N s ex s' h f a w hR hF hfree)
 | rangeFunc f ps x y => intro s ex s' h; simp [aY] at h
 | exit id =>
  intro s ex s' h f a w hR hF hfree; simp [aY] at h; obtain ⟨rfl, rfl⟩ := h; exact wp_exit ⟨rfl, f, .refl f _ w, hR, hF, rfl⟩
 | scope b => intro s ex s' h; simp [aY] at h
 | label l =>
  intro s ex s' h f a w hR hF hfree; simp [aY] at h; obtain ⟨rfl, rfl⟩ := h; exact wp_label ⟨rfl, f, .refl f _ w, hR, hF, rfl⟩
 | goto l => intro s ex s' h; simp [aY] at h
 | ret =>
  intro s ex s' h f a w hR hF hfree; simp [aY] at h; obtain ⟨rfl, rfl⟩ := h; exact wp_ret ⟨rfl, f, .refl f _ w, hR, hF, rfl⟩
 | refuse y => intro s ex s' h; simp [aY] at h
end
end
end Go.Proofs.YtdbkoeefnodejaaGreat.Ev
namespace Go.Proofs.YtdbkoeefnodejaaGreat.Ev
noncomputable section
open Go
open Go.RowKit (Below)
section
variable {P : Program} {L : List FuncId} {O : bt}
theorem AO {cl : FuncId -> List Value -> ah -> Option (Value × ah)} (hfr : jx cl) (N : Nat) : ∀ (c : Code) (s : St) (ex : Ex) (s' : St), aY P L cl N c s = some (ex, s') -> Fr s.hp s'.hp := by
 have hops : ∀ (ops : Array Oper) (l : List Oper) (s s' : St), iR P cl ops l s = some s' -> Fr s.hp s'.hp := by
  intro ops l
  induction l with
  | nil => intro s s' h; simp [iR] at h; subst h; exact .refl _
  | cons q l ihk =>
   intro s s' h; simp only [iR] at h
   split at h
   · split at h
     · rename_i hq; exact (mF hfr hq).trans (ihk _ _ h)
     · cases h
   · have := ihk _ _ h; exact this
 have hdraw : ∀ (ops : Array Oper) (s s' : St), jv P L cl ops s = some s' -> Fr s.hp s'.hp := by
  intro ops s s' h; unfold jv at h
  split at h
  · cases h
  · rename_i hst
    split at h
    · rename_i s2 rs hrun
      split at h
      · rename_i hpairs; cases h; obtain ⟨hlen, _, S, hS0, hSn, hstep⟩ := jU ops.toList 0 s [] s' rs rfl hrun; have hC : Can P L cl ops (Region.before ops) s s' rs S := by
         refine ⟨by simpa using hlen, hS0, by simpa using hSn, ?_, hst, hpairs⟩; intro i o ho; have := hstep i o (by simpa using ho); simpa only [Nat.zero_add] using this
        have := hC.gh hfr ops.size 0 (Nat.zero_le _) (Nat.le_refl _); rw [hC.ini, hC.fin] at this; exact this
      · cases h
    · cases h
 have hloop : ∀ (body : St -> Option (Ex × St)), (∀ s ex s', body s = some (ex, s') -> Fr s.hp s'.hp) -> ∀ (n : Nat) (s : St) (ex : Ex) (s' : St), ig n body s = some (ex, s') -> Fr s.hp s'.hp := by
  intro body hb n
  induction n with
  | zero => intro s ex s' h; simp [ig] at h
  | succ n ih =>
   intro s ex s' h; simp only [ig] at h
   split at h
   · rename_i s1 h1; exact (hb _ _ _ h1).trans (ih _ _ _ h)
   · exact hb _ _ _ h
 intro c
 induction c with
 | skip => intro s ex s' h; simp [aY] at h; rw [<- h.2]; exact .refl _
 | region id ops d =>
  intro s ex s' h; simp only [aY] at h
  split at h
  · simp only [Option.map_eq_some_iff] at h; obtain ⟨s1, h1, h2⟩ := h; cases h2; exact hops _ _ _ _ h1
  · simp only [Option.map_eq_some_iff] at h; obtain ⟨s1, h1, h2⟩ := h; cases h2; exact hdraw _ _ _ h1
 | seq x y ihx ihy =>
  intro s ex s' h; simp only [aY] at h
  split at h
  · rename_i s1 h1; exact (ihx _ _ _ h1).trans (ihy _ _ _ h)
  · exact ihx _ _ _ h
 | cond c x y ihx ihy =>
  intro s ex s' h; simp only [aY] at h
  split at h
  · exact ihx _ _ _ h
  · exact ihy _ _ _ h
  · cases h
 | block id b ih =>
  intro s ex s' h; simp only [aY] at h
  split at h
  · rename_i k s1 h1; have := ih _ _ _ h1
    split at h <;> (cases h; exact this)
  · exact ih _ _ _ h
 | loop b ih =>
  intro s ex s' h; simp only [aY] at h; exact hloop _ ih _ _ _ _ h
 | rangeFunc f ps x y => intro s ex s' h; simp [aY] at h
 | exit id => intro s ex s' h; simp [aY] at h; rw [<- h.2]; exact .refl _
 | scope b => intro s ex s' h; simp [aY] at h
 | label l => intro s ex s' h; simp [aY] at h; rw [<- h.2]; exact .refl _
 | goto l => intro s ex s' h; simp [aY] at h
 | ret => intro s ex s' h; simp [aY] at h; rw [<- h.2]; exact .refl _
 | refuse y => intro s ex s' h; simp [aY] at h
theorem AV : ∀ n, jx (bu P L O n) := by
 intro n
 induction n with
 | zero => intro g args H v H' h; simp [bu] at h
 | succ n ih =>
  intro g args H v H' h; have hen : kZ P L (bu P L O n) n g args H = some (v, H') -> Fr H H' := by
   intro h; unfold kZ at h
   split at h
   · split at h
     · split at h
       · rename_i s h1; simp only [Option.map_eq_some_iff, Prod.mk.injEq] at h; obtain ⟨vs, _, _, h3⟩ := h; rw [<- h3]; exact AO ih n _ _ _ _ h1
       · rename_i s h1; simp only [Option.map_eq_some_iff, Prod.mk.injEq] at h; obtain ⟨vs, _, _, h3⟩ := h; rw [<- h3]; exact AO ih n _ _ _ _ h1
       · cases h
     · cases h
   · cases h
  cases hO : O g args with
  | none => rw [mM hO] at h; exact hen h
  | some u => rw [la hO] at h; cases h; exact .refl H
theorem wz {f : Fm} {H : ah} {w : World} {fr : List Value} {a : Act} (hR : R f H w) (hF : FR f fr a) : ∀ (rv : List ResultVar) (vs : List Value), dW P H fr rv = some vs ->
 ∃ vs', (rv.mapM fun | .tmp t => pure (a.tmps.getD t undef) | .cell ad t => do loadVar t (<- asAddr (a.tmps.getD ad undef)) : Sem (List Value)).run P w = .ok vs' w /\ VL f vs vs' := by
 intro rv
 induction rv with
 | nil => intro vs h; simp [dW] at h; subst h; exact ⟨[], by simp, .nil f⟩
 | cons r rv ih =>
  intro vs h; cases r with
  | tmp t =>
   simp only [dW] at h
   split at h
   · rename_i us hus; cases h; obtain ⟨vs', h1, h2⟩ := ih us hus; refine ⟨a.tmps.getD t undef :: vs', ?_, .cons (hF.val t) h2⟩; simp only [List.mapM_cons, Sem.run_bind, Sem.run_pure, Result.andThen_ok, h1]
   · cases h
  | cell ad t =>
   simp only [dW] at h
   split at h
   · rename_i v us hv hus; cases h; obtain ⟨vs', h1, h2⟩ := ih us hus; have hp := hF.val ad; obtain ⟨v', h3, h4⟩ := mo hR hp hv; refine ⟨v' :: vs', ?_, .cons h4 h2⟩; have h5 : (do loadVar t (<- asAddr (a.tmps.getD ad undef)) : Sem Value).run P w = .ok v' w := by
      generalize a.tmps.getD ad undef = q at h3 hp ⊢; generalize fr.getD ad undef = q0 at hv hp; cases hp <;> try (simp [cd] at hv; done)
      simpa [Instr.loadAt, Instr.sureAddr, asAddr] using h3
     simp only [List.mapM_cons, Sem.run_bind, h5, Result.andThen_ok, h1, Sem.run_pure]
   · cases h
structure cS (P : Program) (g : FuncId) (args : List Value) (v : Value) : Prop where
 fn : ∃ fn c, P.funcs[g]? = some fn /\ fn.body = some c /\ fn.name ≠ "runtime.NumGoroutine"
 calls : ∀ (f : Fm) (args' : List Value) (w : World), VL f args args' -> Calls P g args'.toArray w fun e w' => ∃ v', e = .returned v' /\ V f v v' /\ Below w.heap.size w w'
theorem R.below {f : Fm} {H : ah} {w w' : World} (hR : R f H w) (hb : Below w.heap.size w w') : Stp f H w f H w' /\ R f H w' := by
 refine ⟨⟨.refl f, fun _ _ => rfl, Nat.le_refl _, rfl, rfl, fun _ _ _ => rfl, hb.size, hb.os, hb.tape, hb.output, fun cb h _ => hb.block cb h, fun _ _ h => h⟩, ?_, ?_, hR.lk, hR.inj⟩
 · intro x b hx; obtain ⟨l, C, e, fr, h1, h2, h3⟩ := hR.blk x b hx; exact ⟨l, C, e, fr, h1, by rw [hb.block l.blk (hR.big x l h1)]; exact h2, h3⟩
 · intro x l hx; exact Nat.lt_of_lt_of_le (hR.big x l hx) hb.size
theorem qX (hmix : P.follows .mixedOrders = true) (hname : ∀ (g : FuncId) (fn : Func) (c : Code), P.funcs[g]? = some fn -> fn.body = some c -> fn.name ≠ "runtime.NumGoroutine")
 (hO : ∀ g args v, O g args = some v -> cS P g args v) : ∀ n, yL P (bu P L O n) := by
 intro n
 induction n with
 | zero => intro g args H v H' h; simp [bu] at h
 | succ n ih =>
  intro g args H v H' h; cases ht : O g args with
  | none =>
   rw [mM ht] at h; unfold kZ at h; cases hfn : P.funcs[g]? with
   | none => simp [hfn] at h
   | some fn =>
    cases hbody : fn.body with
    | none => simp [hfn, hbody] at h
    | some c =>
     simp only [hfn, hbody] at h; refine ⟨⟨fn, c, hfn, hbody, hname g fn c hfn hbody⟩, fun f w args' hR hfree hvl => ?_⟩; have key : ∀ (ex : Ex) (s : St), (ex = .normal \/ ex = .ret) -> aY P L (bu P L O n) n c ⟨args ++ List.replicate (fn.ntmps - args.length) undef, H⟩ = some (ex, s) ->
      (dW P s.hp s.fr fn.results.toList).map (fun vs => (j5 vs, s.hp)) = some (v, H') ->
      Calls P g args'.toArray w fun e w' => ∃ f' v', e = .returned v' /\ V f' v v' /\ Stp f H w f' H' w' /\ R f' H' w' := by
      intro ex s hex hcode hres; simp only [Option.map_eq_some_iff, Prod.mk.injEq] at hres; obtain ⟨vs, hvs, hpack, hH⟩ := hres; subst hH; refine calls_of_wp hfn hbody ?_
      have hF : FR f (args ++ List.replicate (fn.ntmps - args.length) undef) { tmps := args'.toArray ++ Array.replicate (fn.ntmps - args'.toArray.size) undef, defers := [] } := by
       have hl := hvl.1; refine ⟨by simp [hl], fun t => ?_⟩; simp only [List.getD_eq_getElem?_getD, Array.getD_eq_getD_getElem?]; rw [List.getElem?_append, Array.getElem?_append]
       by_cases ht : t < args.length
       · have ht' : t < args'.length := by omega
         rw [if_pos ht, if_pos (by simpa using ht')]; simp only [List.getElem?_toArray]; rw [List.getElem?_eq_getElem ht, List.getElem?_eq_getElem ht']; exact hvl.2 t _ _ (List.getElem?_eq_getElem ht) (List.getElem?_eq_getElem ht')
       · rw [if_neg ht, if_neg (by simp; omega)]; simp only [List.size_toArray, <- hl]
         by_cases h2 : t - args.length < fn.ntmps - args.length
         · simp [h2]; exact V.undef f
         · simp [h2]; exact V.undef f
      refine wp_mono (BL hmix ih (AV n) n c _ ex s hcode f _ w hR hF hfree) ?_
      rintro e a1 w1 ⟨rfl, f1, hS, hR1, hF1, hd⟩
      have hfin : a1.defers = [] /\ ∃ v', (results fn a1.tmps).run P w1 = .ok v' w1 /\ ∃ f' v'', Ending.returned v' = .returned v'' /\ V f' v v'' /\ Stp f H w f' s.hp w1 /\ R f' s.hp w1 := by
       refine ⟨hd, ?_⟩; obtain ⟨vs', h1, h2⟩ := wz hR1 hF1 _ vs hvs; have h3 : (results fn a1.tmps).run P w1 = .ok (if h : vs'.toArray.size = 1 then vs'.toArray[0] else .tuple vs'.toArray) w1 := by
        unfold results; simp only [Sem.run_bind, Array.mapM_eq_mapM_toList]; rw [Sem.run_map]; exact congrArg (fun r => Result.andThen (Result.andThen r fun a w' => Result.ok a.toArray w') fun a w' => Sem.run P (pure (if h : a.size = 1 then a[0] else Value.tuple a)) w') h1
       refine ⟨_, h3, f1, _, rfl, ?_, hS, hR1⟩; rw [<- hpack]; unfold j5
       split
       · rename_i u; obtain ⟨u', rfl, hu⟩ := h2.one; simpa using hu
       · rename_i hne; have hsz : ¬ vs'.toArray.size = 1 := by
          intro h5; have h6 := h2.1; simp at h5; rw [h5] at h6
          match vs, h6 with
          | [u], _ => exact hne u rfl
         rw [dif_neg hsz]; exact .tuple _ _ (by simpa using h2.1) (fun i u u' e1 e2 => h2.2 i u u' (by simpa using e1) (by simpa using e2))
      rcases hex with rfl | rfl
      · exact hfin
      · exact hfin
     split at h
     · rename_i s h1; exact key _ s (.inl rfl) h1 h
     · rename_i s h1; exact key _ s (.inr rfl) h1 h
     · cases h
  | some u =>
   rw [la ht] at h; cases h; have hT := hO g args v ht; refine ⟨hT.fn, fun f w args' hR _ hvl => ?_⟩; refine Calls.mono (hT.calls f args' w hvl) ?_
   rintro e w' ⟨v', rfl, hV, hb⟩
   obtain ⟨h1, h2⟩ := hR.below hb; exact ⟨f, v', rfl, hV, h1, h2⟩
end
end
end Go.Proofs.YtdbkoeefnodejaaGreat.Ev
namespace Go.Proofs.YtdbkoeefnodejaaGreat.Ev
noncomputable section
open Go
open Go.RowKit (Below)
section
variable {P : Program} {L : List FuncId} {O : bt}
def lj (P : Program) : Bool := P.funcs.toList.all fun fn => fn.body.isNone || fn.name != "runtime.NumGoroutine"
theorem Cs (h : lj P = true) : ∀ (g : FuncId) (fn : Func) (c : Code), P.funcs[g]? = some fn -> fn.body = some c -> fn.name ≠ "runtime.NumGoroutine" := by
 intro g fn c hg hc; have hm : fn ∈ P.funcs.toList := by
  have := List.mem_of_getElem? (l := P.funcs.toList) (i := g) (a := fn) (by simpa using hg); exact this
 have := List.all_eq_true.1 h fn hm; rw [hc] at this; simpa using this
def nil : ah := ⟨0, .e, 0, []⟩
theorem R.nil (w : World) : R (fun _ => none) nil w := by
 refine ⟨fun x b h => ?_, (fun x l h => by cases h), Nat.le_refl _, fun x y b c l m h => ?_⟩
 · have := ah.bh h; simp [Ev.nil] at this
 · have := ah.bh h; simp [Ev.nil] at this
theorem Hm (hmix : P.follows .mixedOrders = true) (hname : lj P = true) (hO : ∀ g args v, O g args = some v -> cS P g args v) {n : Nat} {g : FuncId} {args : List Value} {H H' : ah} {b : Bool}
 (h : bu P L O n g args H = some (.bool b, H')) {f : Fm} {w : World} {args' : List Value} (hR : R f H w) (hl : H.lock = H.size) (hfree : ∀ j, H.size <= j -> f j = none) (hv : VL f args args') :
 Calls P g args'.toArray w fun e w' => e = .returned (.bool b) /\ Below w.heap.size w w' := by
 obtain ⟨_, hc⟩ := qX hmix (Cs hname) hO n g args H _ H' h; refine (hc f w args' hR (fun j h1 _ => hfree j h1) hv).mono ?_
 rintro e w' ⟨f', v', rfl, hV, hS, hR'⟩
 cases hV; refine ⟨rfl, hS.os, hS.tape, hS.output, hS.fK, fun k hk => hS.fX k hk ?_⟩
 rintro ⟨x, b, l, h1, h2, _⟩
 have := ah.bh h1; rw [aU] at h2; omega
def yes (r : Option (Value × ah)) : Bool := match r with | some (.bool b, _) => b | _ => false
def j4 : Value -> Bool
 | .bool _ => true
 | .int .. => true
 | _ => false
def plain : Value -> Bool
 | .agg cs => cs.toList.all j4
 | v => j4 v
theorem FX {f : Fm} {v v' : Value} (h : j4 v = true) (hv : V f v v') : v' = v := by
 cases hv <;> first | rfl | (simp [j4] at h; done)
theorem HC (f : Fm) {v : Value} (h : j4 v = true) : V f v v := by
 cases v <;> first | (simp [j4] at h; done) | constructor
theorem Aq (f : Fm) {v : Value} (h : plain v = true) : V f v v := by
 cases v with
 | agg cs =>
  simp only [plain, List.all_eq_true] at h; refine .agg _ _ rfl (fun i u hu => ?_) (fun i u u' h1 h2 => ?_)
  · have := h u (List.mem_of_getElem? (i := i) (by simpa using hu)); cases u <;> simp_all [j4, bf]
  · rw [h1] at h2; cases h2; exact HC f (h u (List.mem_of_getElem? (i := i) (by simpa using h1)))
 | bool b => exact .bool b
 | int k n => exact .int k n
 | _ => simp [plain, j4] at h
theorem tB {f : Fm} {v v' : Value} (h : plain v = true) (hv : V f v v') : v' = v := by
 cases hv with
 | agg x x' hx hc vx =>
  congr 1
  simp only [plain, List.all_eq_true] at h; apply Array.ext hx.symm; intro i h1 h2; have h3 : x[i]? = some x[i] := Array.getElem?_eq_getElem h2; have h4 : x'[i]? = some x'[i] := Array.getElem?_eq_getElem h1; exact FX (h x[i] (List.mem_of_getElem? (i := i) (by simp))) (vx i _ _ h3 h4)
 | _ => first | rfl | (simp [plain, j4] at h; done)
theorem Gr {f : Fm} {vs vs' : List Value} (h : vs.all plain = true) (hv : VL f vs vs') : vs' = vs := by
 apply List.ext_getElem?; intro i
 by_cases hi : i < vs.length
 · have hi' : i < vs'.length := by rw [<- hv.1]; exact hi
   have h1 := List.getElem?_eq_getElem hi; have h2 := List.getElem?_eq_getElem hi'; rw [h2, h1]
   congr 1
   exact tB (List.all_eq_true.1 h _ (List.getElem_mem hi)) (hv.2 i _ _ h1 h2)
 · have hi' : ¬ i < vs'.length := by rw [<- hv.1]; exact hi
   rw [List.getElem?_eq_none (by omega), List.getElem?_eq_none (by omega)]
theorem GB (f : Fm) {vs : List Value} (h : vs.all plain = true) : VL f vs vs :=
 ⟨rfl, fun i v v' h1 h2 => by rw [h1] at h2; cases h2; exact Aq f (List.all_eq_true.1 h v (List.mem_of_getElem? h1))⟩
def dg : Value -> Bool
 | .tuple vs => vs.toList.all plain
 | v => plain v
theorem HP (f : Fm) {v : Value} (h : dg v = true) : V f v v := by
 cases v with
 | tuple vs =>
  simp only [dg, List.all_eq_true] at h; refine .tuple _ _ rfl (fun i u u' h1 h2 => ?_); rw [h1] at h2; cases h2; exact Aq f (h u (List.mem_of_getElem? (i := i) (by simpa using h1)))
 | _ => exact Aq f h
theorem F8 {f : Fm} {v v' : Value} (h : dg v = true) (hv : V f v v') : v' = v := by
 cases hv with
 | tuple x x' hx vx =>
  congr 1
  simp only [dg, List.all_eq_true] at h; apply Array.ext hx.symm; intro i h1 h2; have h3 : x[i]? = some x[i] := Array.getElem?_eq_getElem h2; have h4 : x'[i]? = some x'[i] := Array.getElem?_eq_getElem h1; exact tB (h x[i] (List.mem_of_getElem? (i := i) (by simp))) (vx i _ _ h3 h4)
 | agg x x' hx hc vx => exact tB (v := .agg x) h (.agg x x' hx hc vx)
 | _ => first | rfl | (simp [dg, plain, j4] at h; done)
theorem told (hmix : P.follows .mixedOrders = true) (hname : lj P = true) (hO : ∀ g args v, O g args = some v -> cS P g args v) {n : Nat} {g : FuncId} {args : List Value} {v : Value} {H' : ah}
 (h : bu P L O n g args nil = some (v, H')) (ha : args.all plain = true) (hv : dg v = true) : cS P g args v := by
 obtain ⟨h1, hc⟩ := qX hmix (Cs hname) hO n g args nil _ H' h; refine ⟨h1, fun f args' w hvl => ?_⟩; have e := Gr ha hvl; subst e; refine (hc (fun _ => none) w args' (R.nil w) (fun _ _ _ => rfl) (GB _ ha)).mono ?_
 rintro e w' ⟨f', v', rfl, hV, hS, hR'⟩
 have e := F8 hv hV; subst e; refine ⟨v', rfl, HP f hv, hS.os, hS.tape, hS.output, hS.fK, fun k hk => hS.fX k hk ?_⟩
 rintro ⟨x, b, l, h1, _⟩
 have := ah.bh h1; simp [Ev.nil] at this
section
open Go.ChangeShapes Go.WideShapes Go.RowKit
variable {H : Type} {enc : TypeId × Value -> H}
theorem FT (hl : laidOutB P = true) {W W' : World} (hb : Below W.heap.size W W') : ∀ (ts : List TypeId) (vs : List Value) (ds : List (DataW H)) (ps : List MemPlace),
 (∀ t ∈ ts, P.readableRec t = true /\ t < P.types.size) -> DataW.TrodAll enc P W 0 (fun _ => true) true ts vs ds ps -> (∀ x ∈ ps, x.block < W.heap.size) ->
 DataW.TrodAll enc P W' 0 (fun b => decide (b < W.heap.size)) true ts vs ds ps := by
 intro ts
 induction ts with
 | nil =>
  intro vs ds ps _ h _; obtain ⟨rfl, rfl, rfl⟩ := trodAll_nil h; exact trodAll_mk0
 | cons t ts ih =>
  intro vs ds ps ht h hlt; obtain ⟨v, vs', d, ds', p, q, rfl, rfl, h1, h2, rfl⟩ : ∃ v vs' d ds' p q, vs = v :: vs' /\ ds = d :: ds' /\ DataW.Trod enc P W 0 (fun _ => true) true t v d p /\
   DataW.TrodAll enc P W 0 (fun _ => true) true ts vs' ds' q /\ ps = p ++ q := by
   cases vs with
   | nil => cases ds <;> exact h.elim
   | cons v vs' =>
    cases ds with
    | nil => exact h.elim
    | cons d ds' =>
     obtain ⟨p, q, h1, h2, h3⟩ := h; exact ⟨v, vs', d, ds', p, q, rfl, rfl, h1, h2, h3⟩
  obtain ⟨hr, hs⟩ := ht t (by simp); exact ⟨p, q, Below.trod hl hr hs h1 hb (fun x hx => hlt x (by simp [hx])), ih vs' ds' q (fun u hu => ht u (by simp [hu])) h2 (fun x hx => hlt x (by simp [hx])), rfl⟩
theorem o3 (hl : laidOutB P = true) {fn : Func} {s : ChangeSpec} {tb : TypeId} {W W' : World} {args : Array Value} {ds gs : List (DataW H)} {before : List MemPlace}
 (hW : DataW.Whole enc P fn.params.toList s.vars false W args.toList ds gs before) (hvars : s.vars = []) (hb : Below W.heap.size W W') (hres : fn.resultTypes = #[tb]) (htb : P.underlying tb = some .bool)
 (hread : ∀ t ∈ fn.params.toList, P.readableRec t = true /\ t < P.types.size) (hfn : s.fn H ds = { results := [.lit (.bool true)], args := ds }) :
 s.post enc P fn false true false false W args (.bool true) W' := by
 have hW0 := hW; obtain ⟨p, q, h1, h2, h3, h4, h5⟩ := hW0; rw [hvars] at h2; obtain ⟨hgs, hq⟩ : gs = [] /\ q = [] := by
  cases gs with
  | nil => exact ⟨rfl, h2⟩
  | cons g gs => exact h2.elim
 subst hgs; subst hq; rw [List.append_nil] at h3; subst h3; have hlt : ∀ x ∈ before, x.block < W.heap.size := fun x hx => hW.lt x hx
 have hs : s.fn H (ds ++ []) = { results := [.lit (.bool true)], args := ds } := by rw [List.append_nil]; exact hfn
 refine ⟨ds, [], before, [], before, [], hW, ?_, ?_, ?_, ?_, fun h => by cases h⟩
 · rw [hs, hres]; exact trodAll_cons_mk (shut_bool htb true) trodAll_mk0
 · rw [hs]; exact FT hl hb _ _ _ _ hread h1 hlt
 · rw [hs, hvars]; rfl
 · exact World.keptBut_mono (fun x hx => ⟨hx, .inr (.inl hx)⟩) (hb.frame (· ∈ before))
end
end
end
end Go.Proofs.YtdbkoeefnodejaaGreat.Ev
namespace Go.Proofs.YtdbkoeefnodejaaGreat.Seat
noncomputable section
open Go Go.Proofs.YtdbkoeefnodejaaGreat.Ev
theorem own : ownKnob Tryz.prog.godebug = none := by kernel_rfl
theorem mix : Tryz.prog.follows .mixedOrders = true := by kernel_rfl
theorem names : lj Tryz.prog = true := by kernel_rfl
theorem laid : laidOutB Tryz.prog = true := by kernel_rfl
end
end Go.Proofs.YtdbkoeefnodejaaGreat.Seat
namespace Go.Proofs.YtdbkoeefnodejaaGreat.Ev
noncomputable section
open Go
abbrev Cl := FuncId -> List Value -> ah -> Option (Value × ah)
def LeC (a b : Cl) : Prop := ∀ g args H r, a g args H = some r -> b g args H = some r
section
variable {P : Program} {L : List FuncId} {cl cl' : Cl}
theorem kH (hl : LeC cl cl') {ρ : Operand -> Option Value} {o : Oper} {H : ah} {r : Value × ah} (h : opE P cl ρ o H = some r) : opE P cl' ρ o H = some r := by
 unfold opE at h ⊢
 split at h <;> try exact h
 split at h
 · rename_i hargs
   (try rw [hargs]); (try dsimp only)
   split at h
   · rename_i b hc; exact h
   · rename_i f hc; try dsimp only at h ⊢
     split at h
     · rename_i g x y hf; exact hl _ _ _ _ h
     · cases h
   · cases h
 · cases h
theorem nk (hl : LeC cl cl') {ops : Array Oper} : ∀ {l : List Oper} {s : St} {r : St}, iR P cl ops l s = some r -> iR P cl' ops l s = some r
 | [], s, r, h => h
 | o :: l, s, r, h => by
  unfold iR at h ⊢
  split at h
  · rename_i hw
    try rw [hw]
    try dsimp only
    split at h
    · rename_i v H ho; rw [kH hl ho]; dsimp only; exact nk hl h
    · cases h
  · rename_i hw
    try rw [hw]
    try dsimp only
    exact nk hl h
theorem jq {cl cl' : Cl} {ρ : Operand -> Option Value} {o : Oper} {H : ah} (h : iA o = true) : opE P cl ρ o H = opE P cl' ρ o H := by
 unfold iA at h
 split at h
 · rename_i c hc; unfold opE; rw [hc]; dsimp only
   split at h
   · rename_i hb; rw [hb]
   · cases h
 · cases h
theorem oa (hl : LeC cl cl') {ops : Array Oper} {A : Array Nat} {i : Nat} {o : Oper} {s : St} {rs : List Rec} {r : Rec} (h : dR P L cl ops A i o s rs = some r) : dR P L cl' ops A i o s rs = some r := by
 unfold dR at h ⊢
 split at h
 · rename_i hw; exact h
 · rename_i hw; (try rw [hw]); (try dsimp only at h ⊢)
   split at h
   · rename_i hk; (try rw [hk]); (try dsimp only at h ⊢)
     split at h
     · rename_i ho; rw [kH hl ho]; exact h
     · cases h
   · rename_i hk; exact h
   · rename_i hk; (try rw [hk]); (try dsimp only at h ⊢)
     split at h
     · rename_i ho; rw [kH hl ho]; exact h
     · rename_i ho
       split at h
       · rename_i ha; rw [jq (cl := cl') (cl' := cl) ha, ho]; dsimp only; rw [ha]
         split at h
         · rename_i ho'; rw [if_pos rfl, jq (cl := cl') (cl' := cl) ha, ho']; exact h
         · cases h
       · cases h
   · rename_i hk; (try rw [hk]); (try dsimp only at h ⊢)
     split at h
     · rename_i ho; rw [kH hl ho]; exact h
     · cases h
theorem iX (hl : LeC cl cl') {ops : Array Oper} {A : Array Nat} : ∀ {l : List Oper} {i : Nat} {s : St} {rs : List Rec} {r : St × List Rec},
 eK P L cl ops A l i s rs = some r -> eK P L cl' ops A l i s rs = some r
 | [], _, _, _, _, h => h
 | o :: l, i, s, rs, r, h => by
  unfold eK at h ⊢
  split at h
  · rename_i hr; rw [oa hl hr]; exact iX hl h
  · cases h
theorem v5 (hl : LeC cl cl') {ops : Array Oper} {s r : St} (h : jv P L cl ops s = some r) : jv P L cl' ops s = some r := by
 unfold jv at h ⊢
 split at h
 · cases h
 · rename_i hs; (try rw [hs]); (try dsimp only at h ⊢)
   split at h
   · rename_i hr; rw [iX hl hr]; exact h
   · cases h
theorem nJ {N M : Nat} (hN : N <= M) {b b' : St -> Option (Ex × St)} (hb : ∀ s r, b s = some r -> b' s = some r) : ∀ {s : St} {r : Ex × St}, ig N b s = some r -> ig M b' s = some r := by
 induction N generalizing M with
 | zero => intro s r h; cases h
 | succ n ih =>
  intro s r h; obtain ⟨m, rfl⟩ : ∃ m, M = m + 1 := ⟨M - 1, by omega⟩
  unfold ig at h ⊢
  split at h
  · rename_i hbs; rw [hb _ _ hbs]; exact ih (by omega) h
  · rename_i hbs; rw [hb _ _ h]; cases r with
    | mk e s' =>
     cases e with
     | normal => exact absurd h (by simpa using hbs s')
     | _ => rfl
theorem jh (hl : LeC cl cl') {N M : Nat} (hN : N <= M) : ∀ (c : Code) {s : St} {r : Ex × St}, aY P L cl N c s = some r -> aY P L cl' M c s = some r := by
 intro c
 induction c with
 | skip => intro s r h; exact h
 | region id ops d =>
  intro s r h; unfold aY at h ⊢; cases d with
  | false =>
   dsimp only at h ⊢; cases ho : iR P cl ops ops.toList s with
   | none => rw [ho] at h; cases h
   | some s' => rw [ho] at h; rw [nk hl ho]; exact h
  | true =>
   dsimp only at h ⊢; cases ho : jv P L cl ops s with
   | none => rw [ho] at h; cases h
   | some s' => rw [ho] at h; rw [v5 hl ho]; exact h
 | seq a b iha ihb =>
  intro s r h; unfold aY at h ⊢
  split at h
  · rename_i ha; rw [iha ha]; exact ihb h
  · rename_i ha; rw [iha h]; cases r with
    | mk e s' =>
     cases e with
     | normal => exact absurd h (by simpa using ha s')
     | _ => rfl
 | cond x a b iha ihb =>
  intro s r h; unfold aY at h ⊢
  split at h
  · rename_i hx; exact iha h
  · rename_i hx; exact ihb h
  · cases h
 | block id b ih =>
  intro s r h; unfold aY at h ⊢
  split at h
  · rename_i k s' hb; rw [ih hb]; exact h
  · rename_i hb; rw [ih h]; cases r with
    | mk e s' =>
     cases e with
     | exit k => exact absurd h (by simpa using hb k s')
     | _ => rfl
 | loop b ih =>
  intro s r h; unfold aY at h ⊢; exact nJ hN (fun s r h => ih h) h
 | exit id => intro s r h; exact h
 | label id => intro s r h; exact h
 | ret => intro s r h; exact h
 | scope c _ => intro s r h; cases h
 | rangeFunc => intro s r h; cases h
 | goto => intro s r h; cases h
 | refuse => intro s r h; cases h
theorem Bk (hl : LeC cl cl') {N M : Nat} (hN : N <= M) {g : FuncId} {args : List Value} {H : ah} {r : Value × ah} (h : kZ P L cl N g args H = some r) : kZ P L cl' M g args H = some r := by
 unfold kZ at h ⊢
 split at h
 · split at h
   · split at h
     · rename_i hc; rw [jh hl hN _ hc]; exact h
     · rename_i hc; rw [jh hl hN _ hc]; exact h
     · cases h
   · cases h
 · cases h
theorem cR {O : bt} : ∀ {n m : Nat}, n <= m -> LeC (bu P L O n) (bu P L O m)
 | 0, _, _, _, _, _, _, h => by cases h
 | n + 1, m, hm, g, args, H, r, h => by
  obtain ⟨m, rfl⟩ : ∃ k, m = k + 1 := ⟨m - 1, by omega⟩
  unfold bu at h ⊢
  split at h
  · exact h
  · exact Bk (cR (by omega)) (by omega) h
end
end
end Go.Proofs.YtdbkoeefnodejaaGreat.Ev
namespace Go.Proofs.YtdbkoeefnodejaaGreat.Ev
noncomputable section
open Go
inductive Item where
 | code (p : List Nat) (c : Code)
 | ops (A : Array Oper) (l : List Oper)
 | blk (id : Nat)
 | lp (p : List Nat) (b : Code)
def Item.xG (k : Nat) : Item -> Bool
 | .blk id => k == id
 | _ => false
section
variable (P : Program) (L : List FuncId) (cl : Cl) (N : Nat)
def eP : Item -> St -> Option (Ex × St)
 | .code _ c, s => aY P L cl N c s
 | .ops A l, s => (iR P cl A l s).map (Ex.normal, ·)
 | .blk _, s => some (.normal, s)
 | .lp _ b, s => ig N (aY P L cl N b) s
mutual
def bT : List Item -> St -> Option (Ex × St)
 | [], s => some (.normal, s)
 | i :: r, s =>
  match eP P L cl N i s with
  | some (.normal, s') => bT r s'
  | some (.exit k, s') => iK k r s'
  | some (.ret, s') => some (.ret, s')
  | none => none
def iK (k : Nat) : List Item -> St -> Option (Ex × St)
 | [], s => some (.exit k, s)
 | i :: r, s =>
  match i.xG k with
  | true => bT r s
  | false => iK k r s
end
end
section
variable {P : Program} {L : List FuncId} {cl cl' : Cl} {N M : Nat}
theorem CI (hl : LeC cl cl') (hN : N <= M) {i : Item} {s : St} {r : Ex × St} (h : eP P L cl N i s = some r) : eP P L cl' M i s = some r := by
 cases i with
 | code p c => exact jh hl hN c h
 | ops A l =>
  simp only [eP] at h ⊢; cases ho : iR P cl A l s with
  | none => rw [ho] at h; cases h
  | some s' => rw [ho] at h; rw [nk hl ho]; exact h
 | blk id => exact h
 | lp p b => exact nJ hN (fun s r h => jh hl hN b h) h
theorem jj (hl : LeC cl cl') (hN : N <= M) : ∀ (l : List Item),
 (∀ {s : St} {r : Ex × St}, bT P L cl N l s = some r -> bT P L cl' M l s = some r) /\
 (∀ {k : Nat} {s : St} {r : Ex × St}, iK P L cl N k l s = some r -> iK P L cl' M k l s = some r)
 | [] => ⟨fun h => by simpa [bT] using h, fun h => by simpa [iK] using h⟩
 | i :: l => by
  have ih := jj hl hN l; refine ⟨fun {s r} h => ?_, fun {k s r} h => ?_⟩
  · unfold bT at h ⊢; cases hi : eP P L cl N i s with
    | none => rw [hi] at h; cases h
    | some x =>
     obtain ⟨e, s'⟩ := x; rw [hi] at h; rw [CI hl hN hi]; cases e with
     | normal => exact ih.1 h
     | exit k => exact ih.2 h
     | ret => exact h
  · unfold iK at h ⊢; cases hb : i.xG k with
    | true => rw [hb] at h; exact ih.1 h
    | false => rw [hb] at h; exact ih.2 h
end
def cD (P : Program) (L : List FuncId) (O : bt) (l : List Item) (s : St) (q : Ex × St) : Prop := ∃ N, bT P L (bu P L O N) N l s = some q
section
variable {P : Program} {L : List FuncId} {O : bt}
theorem pR {N M : Nat} (h : N <= M) {l : List Item} {s : St} {q : Ex × St} (hq : bT P L (bu P L O N) N l s = some q) : bT P L (bu P L O M) M l s = some q :=
 (jj (cR h) h l).1 hq
theorem cD.seq {p p1 p2 : List Nat} {a b : Code} {r : List Item} {s : St} {q : Ex × St} (h : cD P L O (.code p1 a :: .code p2 b :: r) s q) : cD P L O (.code p (.seq a b) :: r) s q := by
 obtain ⟨N, h⟩ := h; refine ⟨N, ?_⟩; rw [bT] at h ⊢; simp only [eP, aY] at h ⊢; cases ha : aY P L (bu P L O N) N a s with
 | none => rw [ha] at h; cases h
 | some x =>
  obtain ⟨e, s'⟩ := x; rw [ha] at h; cases e with
  | normal =>
   dsimp only at h ⊢; rw [bT] at h; simp only [eP] at h; exact h
  | exit k =>
   dsimp only at h ⊢; rw [iK] at h; exact h
  | ret => exact h
theorem cD.block {p p1 : List Nat} {id : Nat} {b : Code} {r : List Item} {s : St} {q : Ex × St} (h : cD P L O (.code p1 b :: .blk id :: r) s q) : cD P L O (.code p (.block id b) :: r) s q := by
 obtain ⟨N, h⟩ := h; refine ⟨N, ?_⟩; rw [bT] at h ⊢; simp only [eP, aY] at h ⊢; cases ha : aY P L (bu P L O N) N b s with
 | none => rw [ha] at h; cases h
 | some x =>
  obtain ⟨e, s'⟩ := x; rw [ha] at h; cases e with
  | normal =>
   dsimp only at h ⊢; rw [bT] at h; exact h
  | exit k =>
   dsimp only at h ⊢; rw [iK] at h; simp only [Item.xG] at h
   by_cases hk : k = id
   · rw [if_pos hk]; rw [beq_iff_eq.2 hk] at h; exact h
   · rw [if_neg hk]; rw [beq_eq_false_iff_ne.2 hk] at h; exact h
  | ret => exact h
theorem cD.loop {p p1 : List Nat} {b : Code} {r : List Item} {s : St} {q : Ex × St} (h : cD P L O (.lp p1 b :: r) s q) : cD P L O (.code p (.loop b) :: r) s q := by
 obtain ⟨N, h⟩ := h; exact ⟨N, by rw [bT] at h ⊢; simp only [eP, aY] at h ⊢; exact h⟩
theorem cD.round {p p1 : List Nat} {b : Code} {r : List Item} {s : St} {q : Ex × St} (h : cD P L O (.code p1 b :: .lp p b :: r) s q) : cD P L O (.lp p b :: r) s q := by
 obtain ⟨N, h⟩ := h; have h' := pR (Nat.le_succ N) h; refine ⟨N + 1, ?_⟩; have hm : ∀ (s : St) (r : Ex × St), aY P L (bu P L O N) N b s = some r -> aY P L (bu P L O (N + 1)) (N + 1) b s = some r := fun s r => jh (cR (Nat.le_succ N)) (Nat.le_succ N) b
 rw [bT] at h ⊢; simp only [eP] at h ⊢; rw [ig]; cases ha : aY P L (bu P L O N) N b s with
 | none => rw [ha] at h; cases h
 | some x =>
  obtain ⟨e, s'⟩ := x; rw [ha] at h; rw [hm _ _ ha]; cases e with
  | normal =>
   dsimp only at h ⊢; rw [bT] at h; simp only [eP] at h; cases hl : ig N (aY P L (bu P L O N) N b) s' with
   | none => rw [hl] at h; cases h
   | some y =>
    rw [nJ (Nat.le_refl N) hm hl]; rw [hl] at h; obtain ⟨e, s''⟩ := y; cases e with
    | normal => exact (jj (cR (Nat.le_succ N)) (Nat.le_succ N) r).1 h
    | exit k => exact (jj (cR (Nat.le_succ N)) (Nat.le_succ N) r).2 h
    | ret => exact h
  | exit k =>
   dsimp only at h ⊢; rw [iK] at h; exact (jj (cR (Nat.le_succ N)) (Nat.le_succ N) r).2 h
  | ret => exact h
theorem cD.skip {p : List Nat} {r : List Item} {s : St} {q : Ex × St} (h : cD P L O r s q) : cD P L O (.code p .skip :: r) s q := by
 obtain ⟨N, h⟩ := h; exact ⟨N, by rw [bT]; simpa only [eP, aY] using h⟩
theorem cD.label {p : List Nat} {k : Nat} {r : List Item} {s : St} {q : Ex × St} (h : cD P L O r s q) : cD P L O (.code p (.label k) :: r) s q := by
 obtain ⟨N, h⟩ := h; exact ⟨N, by rw [bT]; simpa only [eP, aY] using h⟩
theorem cD.blk {id : Nat} {r : List Item} {s : St} {q : Ex × St} (h : cD P L O r s q) : cD P L O (.blk id :: r) s q := by
 obtain ⟨N, h⟩ := h; exact ⟨N, by rw [bT]; simpa only [eP] using h⟩
theorem cD.ret {p : List Nat} {r : List Item} {s : St} : cD P L O (.code p .ret :: r) s (.ret, s) := ⟨0, by rw [bT]; simp only [eP, aY]⟩
theorem cD.nil {s : St} : cD P L O [] s (.normal, s) := ⟨0, by rw [bT]⟩
def leave (k : Nat) : List Item -> Option (List Item)
 | [] => none
 | i :: r => match i.xG k with | true => some r | false => leave k r
theorem E6 {cl : Cl} {N k : Nat} {s : St} : ∀ {r r' : List Item}, leave k r = some r' -> iK P L cl N k r s = bT P L cl N r' s
 | [], _, h => by simp [leave] at h
 | i :: r, r', h => by
  rw [iK]; rw [leave] at h; cases hb : i.xG k with
  | true => rw [hb] at h; cases h; rfl
  | false => rw [hb] at h; exact E6 h
theorem cD.exit {p : List Nat} {k : Nat} {r r' : List Item} {s : St} {q : Ex × St} (hr : leave k r = some r') (h : cD P L O r' s q) : cD P L O (.code p (.exit k) :: r) s q := by
 obtain ⟨N, h⟩ := h; exact ⟨N, by rw [bT]; simp only [eP, aY]; rw [E6 hr]; exact h⟩
theorem cD.cond {p p1 : List Nat} {x : Operand} {a b : Code} {r : List Item} {s : St} {q : Ex × St} {t : Bool} (hx : dj s.fr x = some (.bool t)) (h : cD P L O (.code p1 (match t with | true => a | false => b) :: r) s q) :
 cD P L O (.code p (.cond x a b) :: r) s q := by
 obtain ⟨N, h⟩ := h; refine ⟨N, ?_⟩; rw [bT] at h ⊢; simp only [eP, aY] at h ⊢; rw [hx]; cases t <;> exact h
theorem cD.region {p : List Nat} {id : Nat} {ops : Array Oper} {r : List Item} {s : St} {q : Ex × St} (h : cD P L O (.ops ops ops.toList :: r) s q) : cD P L O (.code p (.region id ops false) :: r) s q := by
 obtain ⟨N, h⟩ := h; exact ⟨N, by rw [bT] at h ⊢; simp only [eP, aY] at h ⊢; exact h⟩
theorem cD.draw {p : List Nat} {id : Nat} {ops : Array Oper} {r : List Item} {s s' : St} {q : Ex × St} (hd : ∃ N, jv P L (bu P L O N) ops s = some s') (h : cD P L O r s' q) : cD P L O (.code p (.region id ops true) :: r) s q := by
 obtain ⟨N, h⟩ := h; obtain ⟨M, hd⟩ := hd; refine ⟨max N M, ?_⟩; rw [bT]; simp only [eP, aY]; rw [v5 (cR (Nat.le_max_right N M)) hd]; exact pR (Nat.le_max_left N M) h
theorem cD.Ia {A : Array Oper} {r : List Item} {s : St} {q : Ex × St} (h : cD P L O r s q) : cD P L O (.ops A [] :: r) s q := by
 obtain ⟨N, h⟩ := h; exact ⟨N, by rw [bT]; simp only [eP, iR, Option.map]; exact h⟩
theorem cD.op {A : Array Oper} {o : Oper} {l : List Oper} {r : List Item} {s : St} {q : Ex × St} {v : Value} {H : ah} (hw : dy A s.fr o = true) (ho : ∃ N, opE P (bu P L O N) (dj s.fr) o s.hp = some (v, H))
 (h : cD P L O (.ops A l :: r) ⟨gp s.fr o.dst v, H⟩ q) : cD P L O (.ops A (o :: l) :: r) s q := by
 obtain ⟨N, h⟩ := h; obtain ⟨M, ho⟩ := ho; refine ⟨max N M, ?_⟩; have h := pR (Nat.le_max_left N M) h; rw [bT] at h ⊢; simp only [eP] at h ⊢; rw [iR, hw]; dsimp only; rw [kH (cR (Nat.le_max_right N M)) ho]; exact h
theorem cD.GA {A : Array Oper} {o : Oper} {l : List Oper} {r : List Item} {s : St} {q : Ex × St} (hw : dy A s.fr o = false)
 (h : cD P L O (.ops A l :: r) ⟨gp s.fr o.dst undef, s.hp⟩ q) : cD P L O (.ops A (o :: l) :: r) s q := by
 obtain ⟨N, h⟩ := h; refine ⟨N, ?_⟩; rw [bT] at h ⊢; simp only [eP] at h ⊢; rw [iR, hw]; exact h
end
end
end Go.Proofs.YtdbkoeefnodejaaGreat.Ev
