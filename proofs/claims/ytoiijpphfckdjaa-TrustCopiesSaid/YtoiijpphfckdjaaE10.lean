/-
  Regions, code and calls of the evaluator: definitions; what it never touches.
-/
import Derived.Test.YtoiijpphfckdjaaE9
namespace Go.Proofs.Ytoiijpphfckdjaa.Ev
open Go
set_option linter.unusedSimpArgs false

/-! ### Definitions -/
inductive Kd where
  | pure
  | load
  | quiet
  | loud

/-- What an operation is, as far as memory goes. L: the functions whose calls may write. -/
def opKind (L : List FuncId) (o : Oper) : Kd :=
  match o.op with
  | .load .. => .load
  | .store .. => .loud
  | .alloc _ => .quiet
  | .box .. => .quiet
  | .buildSlice .. => .quiet
  | .makeSlice .. => .quiet
  | .call c =>
    match c.callee with
    | .builtin .append => .quiet
    | .builtin .copy => .loud
    | .builtin _ => .pure
    | .value (.func g) => if L.contains g then .loud else .quiet
    | .value _ => .quiet
    | .invoke .. => .loud
  | _ => .pure

def isAppend (o : Oper) : Bool :=
  match o.op with
  | .call c => (match c.callee with | .builtin .append => true | _ => false)
  | _ => false

structure Rec where
  kind : Kd
  v : Value
  h0 : Heap
  h1 : Heap
  ld : Option (TypeId × Value)

/-- The cells that operations made on which this one doesn't wait. -/
def maskOf (p : Nat → Bool) : List Rec → Nat → List (Nat × Nat)
  | [], _ => []
  | r :: rs, k => if p k then maskOf p rs (k + 1) else (r.h0.size, r.h1.size) :: maskOf p rs (k + 1)

def veil (H : Heap) (p : Nat → Bool) (rs : List Rec) : Heap := { H with lock := H.size, hid := maskOf p rs 0 ++ H.hid }
def unveil (H H' : Heap) : Heap := { H' with lock := H.lock, hid := H.hid }

def eqc : Value → Value → Bool
  | .int k n, .int k' m => k == k' && n == m
  | .bool a, .bool b => a == b
  | .pointer a, .pointer b => a == b
  | .slice a n c, .slice b m d => a == b && n == m && c == d
  | .nilFunc, .nilFunc => true
  | _, _ => false
def eqcs : List Value → List Value → Bool
  | [], [] => true
  | a :: r, b :: s => eqc a b && eqcs r s
  | _, _ => false
def eqv : Value → Value → Bool
  | .agg xs, .agg ys => eqcs xs.toList ys.toList
  | a, b => eqc a b

def getB (A : Array Nat) (i k : Nat) : Bool := (A.getD i 0).testBit k

section
variable (P : Program) (L : List FuncId) (cl : FuncId → List Value → Heap → Option (Value × Heap))

def recOf (ops : Array Oper) (A : Array Nat) (i : Nat) (o : Oper) (s : St) (rs : List Rec) : Option Rec :=
  match wantedE ops s.fr o with
  | false => some ⟨.pure, undef, s.hp, s.hp, none⟩
  | true =>
    match opKind L o with
    | .pure =>
      match opE P cl (opnd s.fr) o s.hp with
      | some (v, _) => some ⟨.pure, v, s.hp, s.hp, none⟩
      | none => none
    | .load =>
      match o.op with
      | .load t a =>
        match opnd s.fr a with
        | some p =>
          match loadE P (veil s.hp (getB A i) rs) t p with
          | some v => some ⟨.load, v, s.hp, s.hp, some (t, p)⟩
          | none => none
        | none => none
      | _ => none
    | .quiet =>
      match opE P cl (opnd s.fr) o (veil s.hp (getB A i) rs) with
      | some (v, H') => some ⟨.quiet, v, s.hp, unveil s.hp H', none⟩
      | none =>
        if isAppend o then
          match opE P cl (opnd s.fr) o s.hp with
          | some (v, H') => some ⟨.loud, v, s.hp, H', none⟩
          | none => none
        else none
    | .loud =>
      match opE P cl (opnd s.fr) o s.hp with
      | some (v, H') => some ⟨.loud, v, s.hp, H', none⟩
      | none => none

def drawRun (ops : Array Oper) (A : Array Nat) : List Oper → Nat → St → List Rec → Option (St × List Rec)
  | [], _, s, rs => some (s, rs)
  | o :: l, i, s, rs =>
    match recOf P L cl ops A i o s rs with
    | some r => drawRun ops A l (i + 1) ⟨putE s.fr o.dst r.v, r.h1⟩ (rs ++ [r])
    | none => none

/-- Every order is as good as the text's. -/
def pairOk (A : Array Nat) (rs : List Rec) (i : Nat) (a : Rec) (j : Nat) (b : Rec) : Bool :=
  match b.kind with
  | .loud =>
    match a.kind with
    | .pure => true
    | .load =>
      getB A i j || getB A j i ||
      (match a.ld with
       | some (t, p) =>
         match loadE P (if j < i then veil b.h0 (getB A i) (rs.take j) else b.h1) t p with
         | some v => eqv a.v v
         | none => false
       | none => false)
    | _ => i == j || getB A i j || getB A j i
  | _ => true

def pairsOk (A : Array Nat) (rs : List Rec) : Bool := rs.zipIdx.all fun (a, i) => rs.zipIdx.all fun (b, j) => pairOk P A rs i a j b

end

/-- The edges, the table of what comes before, the temporaries: looked at once. -/
def staticOk (ops : Array Oper) (A : Array Nat) (nt : Nat) : Bool :=
  ops.toList.zipIdx.all (fun (o, i) =>
    o.after.toList.all (fun e => !Region.binds .any e || decide (e.on < i)) &&
    (List.range ops.size).all (fun k => !getB A i k || (decide (k < i) && o.after.toList.any fun e => Region.binds .any e && (e.on == k || getB A e.on k))) &&
    (match o.dst with | some d => decide (d < nt) | none => true) &&
    ops.toList.zipIdx.all (fun (q, k) =>
      match q.dst with
      | some d => i == k || (o.dst != some d && (!(o.looksAt ops).contains d || getB A i k || getB A k i))
      | none => true) &&
    (match o.op with | .select .. => false | _ => true))

section
variable (P : Program) (L : List FuncId) (cl : FuncId → List Value → Heap → Option (Value × Heap))

def drawE (ops : Array Oper) (s : St) : Option St :=
  match staticOk ops (Region.before ops) s.fr.length with
  | false => none
  | true =>
    match drawRun P L cl ops (Region.before ops) ops.toList 0 s [] with
    | some (s', rs) => if pairsOk P (Region.before ops) rs then some s' else none
    | none => none

/-- Rounds of a loop. -/
def loopN : Nat → (St → Option (Ex × St)) → St → Option (Ex × St)
  | 0, _, _ => none
  | n + 1, body, s =>
    match body s with
    | some (.normal, s') => loopN n body s'
    | r => r

def codeE (N : Nat) : Code → St → Option (Ex × St)
  | .skip, s => some (.normal, s)
  | .region _ ops d, s =>
    match d with
    | false => (opsE P cl ops ops.toList s).map (Ex.normal, ·)
    | true => (drawE P L cl ops s).map (Ex.normal, ·)
  | .seq a b, s =>
    match codeE N a s with
    | some (.normal, s') => codeE N b s'
    | r => r
  | .cond c a b, s =>
    match opnd s.fr c with
    | some (.bool true) => codeE N a s
    | some (.bool false) => codeE N b s
    | _ => none
  | .block id body, s =>
    match codeE N body s with
    | some (.exit k, s') => if k = id then some (.normal, s') else some (.exit k, s')
    | r => r
  | .loop body, s => loopN N (codeE N body) s
  | .exit id, s => some (.exit id, s)
  | .label _, s => some (.normal, s)
  | .ret, s => some (.ret, s)
  | .scope _, _ => none
  | .rangeFunc .., _ => none
  | .goto _, _ => none
  | .refuse _, _ => none

def resultE (H : Heap) (fr : List Value) : List ResultVar → Option (List Value)
  | [] => some []
  | .tmp t :: r =>
    match resultE H fr r with
    | some vs => some (fr.getD t undef :: vs)
    | none => none
  | .cell a t :: r =>
    match loadE P H t (fr.getD a undef), resultE H fr r with
    | some v, some vs => some (v :: vs)
    | _, _ => none

def packE : List Value → Value
  | [v] => v
  | vs => .tuple vs.toArray

end

/-- A function entered. -/
def enterE (P : Program) (L : List FuncId) (self : FuncId → List Value → Heap → Option (Value × Heap)) (n : Nat) (g : FuncId) (args : List Value) (H : Heap) : Option (Value × Heap) :=
  match P.funcs[g]? with
  | some fn =>
    match fn.body with
    | some c =>
      match codeE P L self n c ⟨args ++ List.replicate (fn.ntmps - args.length) undef, H⟩ with
      | some (.normal, s) => (resultE P s.hp s.fr fn.results.toList).map fun vs => (packE vs, s.hp)
      | some (.ret, s) => (resultE P s.hp s.fr fn.results.toList).map fun vs => (packE vs, s.hp)
      | _ => none
    | none => none
  | none => none

/-- What is known of functions that touch no memory: the answer by the arguments. -/
abbrev Known := FuncId → List Value → Option Value

/-- A function called: known beforehand (O), or entered. -/
def callE (P : Program) (L : List FuncId) (O : Known) : Nat → FuncId → List Value → Heap → Option (Value × Heap)
  | 0, _, _, _ => none
  | n + 1, g, args, H =>
    match O g args with
    | some v => some (v, H)
    | none => enterE P L (callE P L O n) n g args H

theorem callE_told {P : Program} {L : List FuncId} {O : Known} {n : Nat} {g : FuncId} {args : List Value} {v : Value} {H : Heap} (h : O g args = some v) : callE P L O (n + 1) g args H = some (v, H) := by
  simp [callE, h]
theorem callE_enter {P : Program} {L : List FuncId} {O : Known} {n : Nat} {g : FuncId} {args : List Value} {H : Heap} (h : O g args = none) :
    callE P L O (n + 1) g args H = enterE P L (callE P L O n) n g args H := by
  simp [callE, h]
end Go.Proofs.Ytoiijpphfckdjaa.Ev
