/-
  Regions, code and calls over partly unknown values: definitions; regions in the text's order.
-/
import Derived.Test.YtoiijpphfckdjaaF7
namespace Go.Proofs.Ytoiijpphfckdjaa.Ev
noncomputable section
open Go
set_option linter.unusedVariables false
set_option linter.unusedSimpArgs false

/-! ### Definitions -/
structure SRec where
  kind : Kd
  n0 : Nat
  n1 : Nat
  ld : Option Nat
  tgt : Option Nat
  v : SV
  re : Option (TypeId × SV)
  ok : List Nat
  hm : List (Nat × Nat)

def maskS (p : Nat → Bool) : List SRec → Nat → List (Nat × Nat)
  | [], _ => [(0, 0)]
  | r :: rs, k => if p k then maskS p rs (k + 1) else (r.n0, r.n1) :: maskS p rs (k + 1)
def hideM (S : SHeap) (M : List (Nat × Nat)) : SHeap := { S with hid := M ++ S.hid }
def veilS (S : SHeap) (p : Nat → Bool) (rs : List SRec) : SHeap := { S with lock := S.size, hid := maskS p rs 0 ++ S.hid }
def unveilS (S S' : SHeap) : SHeap := { S' with lock := S.lock, hid := S.hid }

/-! What can be come to from values. -/
mutual
def idsS : SV → List Nat
  | .ptr id _ _ _ => [id]
  | .buf id _ _ => [id]
  | .sl id _ _ _ => [id]
  | .np id _ _ _ => [id]
  | .fn _ x y => idsL x ++ idsL y
  | .agg l => idsL l
  | .tup l => idsL l
  | _ => []
def idsL : List SV → List Nat
  | [] => []
  | s :: l => idsS s ++ idsL l
end
def idsB : SBlk → List Nat
  | .cells l => idsL l
  | .cont _ => []
  | .ptrs id _ _ _ => [id]
def reachS (S : SHeap) : Nat → List Nat → List Nat → List Nat
  | 0, _, seen => seen
  | _ + 1, [], seen => seen
  | f + 1, k :: r, seen => match seen.contains k with
    | true => reachS S f r seen
    | false => (match S.root.get k with | some B => reachS S f (idsB B ++ r) (k :: seen) | none => reachS S f r (k :: seen))
/-- All that can't be come to. -/
def farM (S : SHeap) (ss : List SV) : List (Nat × Nat) :=
  (fun seen => (List.range S.size).filterMap fun k => match seen.contains k with | true => none | false => some (k, k + 1)) (reachS S 1000 (idsL ss) [])
def farO (S : SHeap) (fr : List SV) (o : Oper) : List (Nat × Nat) :=
  match o.op with
  | .call c => (match c.callee with
    | .value a => farM S ((a :: c.args.toList).filterMap (opndS fr))
    | _ => [])
  | _ => []
/-- This operation does not write to that block. -/
def farB (c : SRec) (y : Nat) : Bool := (match c.tgt with | some x => x != y | none => false) || hidden c.hm y

def selfC : SV → Bool
  | .i _ _ => true
  | .b _ => true
  | .nilp => true
  | .nils => true
  | .nilf => true
  | .ptr _ _ _ _ => true
  | .buf _ _ _ => true
  | .sl _ _ _ _ => true
  | .deep _ => true
  | .dp _ _ _ => true
  | _ => false
def selfS : SV → Bool
  | .agg l => l.all selfC
  | v => selfC v

def tgtOf : SV → Option Nat
  | .ptr id _ _ _ => some id
  | _ => none

def quietS (fr : List SV) (o : Oper) : Bool :=
  match o.op with
  | .call c => (match c.callee, c.args.toList with
    | .builtin .append, s :: _ => (match opndS fr s with | some v => quietApp v | none => false)
    | _, _ => true)
  | _ => true

def putS (fr : List SV) : Option Tmp → SV → List SV
  | none, _ => fr
  | some d, v => fr.set d v

def loosePS (A : Array Nat) (rs : List SRec) (i : Nat) (a : SRec) (j : Nat) (b : SRec) : Bool :=
  match b.kind with
  | .loud =>
    (match a.kind with
     | .pure => true
     | .load => getB A i j || (getB A j i || (b.ok.contains i || (decide (i < j) && (match a.ld with
        | some y => selfS a.v && ((rs.take (j + 1)).drop i).all fun r => match r.kind with
          | .loud => farB r y
          | _ => true
        | none => false)) || (decide (j < i) && (match a.ld with
        | some y => (selfS a.v && decide (y < b.n0)) && ((rs.take (i + 1)).drop j).all fun r => match r.kind with
          | .loud => farB r y
          | _ => true
        | none => false))))
     | _ => i == j || (getB A i j || getB A j i))
  | _ => true
def looseS (A : Array Nat) (rs : List SRec) : Bool := rs.zipIdx.all fun (a, i) => rs.zipIdx.all fun (b, j) => loosePS A rs i a j b
def transOk (A : Array Nat) (n : Nat) : Bool := (List.range n).all fun i => (List.range n).all fun j => !getB A i j || ((A.getD i 0) ||| (A.getD j 0) == A.getD i 0)

/-! What was loaded is what is loaded behind a call. -/
def sameC {R : Type} (a b : SV) (r : Option R) : Option R :=
  match a, b with
  | .i k x, .i k' y => (match k == k' with | true => (bif decide (x = y) then r else none) | false => none)
  | .b x, .b y => (bif x == y then r else none)
  | _, _ => none
def sameL {R : Type} : List SV → List SV → Option R → Option R
  | [], [], r => r
  | a :: l, b :: m, r => sameC a b (sameL l m r)
  | _, _, _ => none
def sameV {R : Type} (a b : SV) (r : Option R) : Option R :=
  match a with
  | .agg l => (match b with | .agg m => sameL l m r | _ => none)
  | _ => sameC a b r
def reS {R : Type} (P : Program) (S : SHeap) (A : Array Nat) (j : Nat) : List SRec → Nat → (List Nat → Option R) → Option R
  | [], _, k => k []
  | a :: l, i, k =>
    match a.re with
    | some (t, p) =>
      (match getB A j i || getB A i j with
       | true => reS P S A j l (i + 1) k
       | false => loadS P S t p fun v => sameV a.v v (reS P S A j l (i + 1) fun oks => k (i :: oks)))
    | none => reS P S A j l (i + 1) k
def reL {R : Type} (P : Program) (S : SHeap) (A : Array Nat) (j : Nat) (o : Oper) (rs : List SRec) (k : List Nat → Option R) : Option R :=
  match o.op with
  | .store _ _ _ => k []
  | _ => reS P S A j rs 0 k

section
variable {R : Type} (P : Program) (L : List FuncId) (T : TabS) (cx : CallS R)

/-- Is the operation wanted? -/
def askS (A : Array Oper) (fr : List SV) (o : Oper) (yes no : List SV → Option R) : Option R :=
  match o.guard with
  | none => yes fr
  | some (j, want) =>
    match (A[j]?).bind (·.dst) with
    | some d =>
      match fr[d]? with
      | some (.b x) => (match x with
        | true => (match want with | true => yes (fr.set d (.b true)) | false => no (fr.set d (.b true)))
        | false => (match want with | true => no (fr.set d (.b false)) | false => yes (fr.set d (.b false))))
      | some (.tup _) => no fr
      | _ => none
    | none => none

def opsS (A : Array Oper) : List Oper → SSt → (SSt → Option R) → Option R
  | [], s, k => k s
  | o :: r, s, k =>
    askS A s.fr o (fun fr => opS P T cx (opndS fr) o s.hp fun v S => opsS A r ⟨putS fr o.dst v, S⟩ k)
      (fun fr => opsS A r ⟨putS fr o.dst (.tup []), s.hp⟩ k)

def drawS (ops : Array Oper) (A : Array Nat) : List Oper → Nat → SSt → List SRec → (SSt → Option R) → Option R
  | [], _, s, rs, k => (match looseS A rs with | true => k s | false => none)
  | o :: l, i, s, rs, k =>
    askS ops s.fr o
      (fun fr => match opKind L o with
       | .pure => opS P T cx (opndS fr) o s.hp fun v _ => drawS ops A l (i + 1) ⟨putS fr o.dst v, s.hp⟩ (rs ++ [⟨.pure, s.hp.size, s.hp.size, none, none, .any, none, [], []⟩]) k
       | .load =>
         (match o.op with
          | .load t a =>
            (match opndS fr a with
             | some p => loadS P (veilS s.hp (getB A i) rs) t p fun v => drawS ops A l (i + 1) ⟨putS fr o.dst v, s.hp⟩ (rs ++ [⟨.load, s.hp.size, s.hp.size, tgtOf p, none, v, some (t, p), [], []⟩]) k
             | none => none)
          | _ => none)
       | .quiet =>
         (match quietS fr o with
          | true => opS P T cx (opndS fr) o (veilS s.hp (getB A i) rs) fun v S' => drawS ops A l (i + 1) ⟨putS fr o.dst v, unveilS s.hp S'⟩ (rs ++ [⟨.quiet, s.hp.size, S'.size, none, none, .any, none, [], []⟩]) k
          | false => opS P T cx (opndS fr) o (hideM s.hp (maskS (getB A i) rs 0)) fun v S' => drawS ops A l (i + 1) ⟨putS fr o.dst v, unveilS s.hp S'⟩ (rs ++ [⟨.loud, s.hp.size, S'.size, none, none, .any, none, [], []⟩]) k)
       | .loud => opS P T cx (opndS fr) o (hideM s.hp (farO s.hp fr o ++ maskS (getB A i) rs 0)) fun v S' => reL P (unveilS s.hp S') A i o rs fun oks => drawS ops A l (i + 1) ⟨putS fr o.dst v, unveilS s.hp S'⟩
            (rs ++ [⟨.loud, s.hp.size, S'.size, none, (match o.op with | .store _ a _ => (match opndS fr a with | some p => tgtOf p | none => none) | _ => none), .any, none, oks, farO s.hp fr o⟩]) k)
      (fun fr => drawS ops A l (i + 1) ⟨putS fr o.dst (.tup []), s.hp⟩ (rs ++ [⟨.pure, s.hp.size, s.hp.size, none, none, .any, none, [], []⟩]) k)

variable (stop : List Nat → Bool)

def execS : Nat → List Item → SSt → (List Item → SSt → Option R) → Option R
  | 0, _, _, _ => none
  | n + 1, its, s, k =>
    match its with
    | [] => k [] s
    | .code p c :: r =>
      match c with
      | .skip => execS n r s k
      | .label _ => execS n r s k
      | .region _ ops d =>
        (match d with
         | false => opsS P T cx ops ops.toList s fun s' => execS n r s' k
         | true =>
           (match staticOk ops (Region.before ops) s.fr.length && transOk (Region.before ops) ops.size with
            | true => drawS P L T cx ops (Region.before ops) ops.toList 0 s [] fun s' => execS n r s' k
            | false => none))
      | .seq a b => execS n (.code (0 :: p) a :: .code (1 :: p) b :: r) s k
      | .cond x a b =>
        (match opndS s.fr x with
         | some (.b t) => (match t with | true => execS n (.code (0 :: p) a :: r) s k | false => execS n (.code (1 :: p) b :: r) s k)
         | _ => none)
      | .block id b => execS n (.code (0 :: p) b :: .blk id :: r) s k
      | .loop b => execS n (.lp p b :: r) s k
      | .exit id => (match leave id r with | some r' => execS n r' s k | none => none)
      | .ret => k [] s
      | _ => none
    | .lp p b :: r => (match stop p with | true => k (.lp p b :: r) s | false => execS n (.code (0 :: p) b :: .lp p b :: r) s k)
    | .blk _ :: r => execS n r s k
    | .ops .. :: _ => none

def resultS (S : SHeap) (fr : List SV) : List ResultVar → (List SV → Option R) → Option R
  | [], k => k []
  | .tmp t :: r, k => resultS S fr r fun vs => k (fr.getD t (.tup []) :: vs)
  | .cell a t :: r, k => loadS P S t (fr.getD a (.tup [])) fun v => resultS S fr r fun vs => k (v :: vs)
def packS : List SV → SV
  | [v] => v
  | vs => .tup vs
end

/-- A function entered, its answer handed along. -/
def callS {R : Type} (P : Program) (L : List FuncId) (T : TabS) (kn : FuncId → Bool) : Nat → CallS R
  | 0, _, _, _, _ => none
  | n + 1, g, args, S, k =>
    match kn g with
    | true => none
    | false =>
    match P.funcs[g]? with
    | some fn =>
      match fn.body with
      | some c =>
        execS P L T (callS P L T kn n) (fun _ => false) 100000 [.code [] c] ⟨args ++ List.replicate (fn.ntmps - args.length) (.tup []), S⟩ fun its s =>
          match its with
          | [] => resultS P s.hp s.fr fn.results.toList fun vs => k (packS vs) s.hp
          | _ => none
      | none => none
    | none => none

/-! ### Regions in the text's order -/
section
variable {R : Type} {P : Program} {L : List FuncId} {O : Known} {T : TabS} {φ : Phi} {H : Heap} {own : Nat → Prop} {S : SHeap}

theorem DVL.undef_get {fr : List SV} {fv : List Value} (h : DVL φ H own fr fv) : True := trivial

theorem askS_sound {A : Array Oper} {fr : List SV} {fv : List Value} (hf : DVL φ H own fr fv) {o : Oper} {a b : List SV → Option R} {r : R} (h : askS A fr o a b = some r) :
    ∃ fr', DVL φ H own fr' fv ∧ ((wantedE A fv o = true ∧ a fr' = some r) ∨ (wantedE A fv o = false ∧ b fr' = some r)) := by
  unfold askS at h
  unfold wantedE
  split at h
  · rename_i hg; simp only [hg]; exact ⟨fr, hf, .inl ⟨trivial, h⟩⟩
  · rename_i j want hg
    simp only [hg]
    split at h
    · rename_i d hd
      rw [hd]
      dsimp only [Option.bind]
      split at h
      · rename_i x hx
        obtain ⟨v, h1, h2⟩ := hf.get hx
        cases h2
        rw [h1]
        have hset : ∀ t, t = x → DVL φ H own (fr.set d (.b t)) fv := by
          rintro t rfl
          have : fr.set d (.b t) = fr := by
            apply List.ext_getElem?
            intro m
            rw [List.getElem?_set]
            split
            · rename_i hm; subst hm
              split
              · exact hx.symm
              · rename_i hlt; rw [List.getElem?_eq_none (by omega)] at hx; cases hx
            · rfl
          rw [this]; exact hf
        cases x <;> cases want <;> simp only at h
        · exact ⟨_, hset false rfl, .inl ⟨rfl, h⟩⟩
        · exact ⟨_, hset false rfl, .inr ⟨rfl, h⟩⟩
        · exact ⟨_, hset true rfl, .inr ⟨rfl, h⟩⟩
        · exact ⟨_, hset true rfl, .inl ⟨rfl, h⟩⟩
      · rename_i l hx
        obtain ⟨v, h1, h2⟩ := hf.get hx
        cases h2
        rw [h1]
        exact ⟨fr, hf, .inr ⟨rfl, h⟩⟩
      · cases h
    · cases h

theorem putS_DVL {fr : List SV} {fv : List Value} (hf : DVL φ H own fr fv) (d : Option Tmp) {s : SV} {v : Value} (hv : DV φ H own s v) : DVL φ H own (putS fr d s) (putE fv d v) := by
  cases d with
  | none => exact hf
  | some d => exact hf.set d hv
theorem DV.undef : DV φ H own (.tup []) undef := .tup [] #[] rfl (fun i s v h => by simp at h)

theorem opsS_sound {cx : CallS R} (hT : TabRight P L O T) (hcx : CxRight P L O cx) {A : Array Oper} : ∀ {l : List Oper} {fr : List SV} {S : SHeap} {fv : List Value} {H : Heap} {φ : Phi} {k : SSt → Option R} {r : R},
    NBh φ S H → Sim φ S H → DVL φ H (Own φ S) fr fv → opsS P T cx A l ⟨fr, S⟩ k = some r →
    ∃ φ' fr' S' fv' H', k ⟨fr', S'⟩ = some r ∧ Step φ S H φ' S' H' ∧ DVL φ' H' (Own φ' S') fr' fv' ∧ ∀ its q, Mean P L O its ⟨fv', H'⟩ q → Mean P L O (.ops A l :: its) ⟨fv, H⟩ q
  | [], fr, S, fv, H, φ, k, r, hnb, hS, hf, h => ⟨φ, fr, S, fv, H, h, Step.refl hS, hf, fun _ _ hm => .opsNil hm⟩
  | o :: l, fr, S, fv, H, φ, k, r, hnb, hS, hf, h => by
    unfold opsS at h
    obtain ⟨fr1, hf1, ⟨hw, h⟩ | ⟨hw, h⟩⟩ := askS_sound hf h
    · obtain ⟨s, S1, v, H1, ho, ⟨φ1, hst, hv⟩, _, hk, _⟩ := opS_sound hT hcx hS (fun x s hs => opndS_sound hf1 hs) (fun _ => hnb) h
      have hext := hst.ext hS
      obtain ⟨φ2, fr2, S2, fv2, H2, g1, g2, g3, g4⟩ := opsS_sound hT hcx (hnb.step hst) hst.sim (putS_DVL (hf1.mono hext) o.dst hv) hk
      exact ⟨φ2, fr2, S2, fv2, H2, g1, hst.trans g2, g3, fun its q hm => .op hw ho (g4 its q hm)⟩
    · obtain ⟨φ2, fr2, S2, fv2, H2, g1, g2, g3, g4⟩ := opsS_sound hT hcx hnb hS (putS_DVL hf1 o.dst DV.undef) h
      exact ⟨φ2, fr2, S2, fv2, H2, g1, g2, g3, fun its q hm => .opSkip hw (g4 its q hm)⟩
end
end
end Go.Proofs.Ytoiijpphfckdjaa.Ev
