/- Part of a proof: F8, F9, F10, F11, F12, F13, F14, F15, F16, F17, F18, F19, Keep. Conditions: none. -/
import Derived.HandedShaped
import Derived.Test.YtdbkoeefnodejaaGreatQ2
import Derived.Test.YtdbkoeefnodejaaGreatQ3
set_option linter.unusedVariables false
set_option linter.unusedSimpArgs false
set_option linter.unnecessarySimpa false
set_option linter.unusedSectionVars false
namespace Go.Proofs.YtdbkoeefnodejaaGreat.Ev
noncomputable section
noncomputable section
open Go
structure dS where
 kind : Kd
 n0 : Nat
 n1 : Nat
 ld : Option Nat
 tgt : Option Nat
 v : SV
 re : Option (TypeId × SV)
 ok : List Nat
 hm : List (Nat × Nat)
def eV (p : Nat -> Bool) : List dS -> Nat -> List (Nat × Nat)
 | [], _ => [(0, 0)]
 | r :: rs, k => if p k then eV p rs (k + 1) else (r.n0, r.n1) :: eV p rs (k + 1)
def fB (S : aj) (M : List (Nat × Nat)) : aj := { S with hid := M ++ S.hid }
def pB (S : aj) (p : Nat -> Bool) (rs : List dS) : aj := { S with lock := S.size, hid := eV p rs 0 ++ S.hid }
def bN (S S' : aj) : aj := { S' with lock := S.lock, hid := S.hid }
mutual
def Sg : SV -> List Nat
 | .ptr id _ _ _ => [id]
 | .buf id _ _ => [id]
 | .sl id _ _ _ => [id]
 | .np id _ _ _ => [id]
 | .fn _ x y => Cj x ++ Cj y
 | .agg l => Cj l
 | .tup l => Cj l
 | _ => []
def Cj : List SV -> List Nat
 | [] => []
 | s :: l => Sg s ++ Cj l
end
def RO : aO -> List Nat
 | .cells l => Cj l
 | .cont _ => []
 | .dJ id _ _ _ => [id]
def y3 (S : aj) : Nat -> List Nat -> List Nat -> List Nat
 | 0, _, seen => seen
 | _ + 1, [], seen => seen
 | f + 1, k :: r, seen => match seen.contains k with
  | true => y3 S f r seen
  | false => (match S.root.get k with | some B => y3 S f (RO B ++ r) (k :: seen) | none => y3 S f r (k :: seen))
def Q8 (S : aj) (ss : List SV) : List (Nat × Nat) :=
 (fun seen => (List.range S.size).filterMap fun k => match seen.contains k with | true => none | false => some (k, k + 1)) (y3 S 1000 (Cj ss) [])
def qU (S : aj) (fr : List SV) (o : Oper) : List (Nat × Nat) :=
 match o.op with
 | .call c => (match c.callee with
  | .value a => Q8 S ((a :: c.args.toList).filterMap (gW fr))
  | _ => [])
 | _ => []
def FJ (c : dS) (y : Nat) : Bool := (match c.tgt with | some x => x != y | none => false) || hidden c.hm y
def AD : SV -> Bool
 | .i _ _ => true
 | .b _ => true
 | .gR => true
 | .dV => true
 | .kX => true
 | .ptr _ _ _ _ => true
 | .buf _ _ _ => true
 | .sl _ _ _ _ => true
 | .deep _ => true
 | .dp _ _ _ => true
 | _ => false
def sx : SV -> Bool
 | .agg l => l.all AD
 | v => AD v
def nS : SV -> Option Nat
 | .ptr id _ _ _ => some id
 | _ => none
def G9 (fr : List SV) (o : Oper) : Bool :=
 match o.op with
 | .call c => (match c.callee, c.args.toList with
  | .builtin .append, s :: _ => (match gW fr s with | some v => I6 v | none => false)
  | _, _ => true)
 | _ => true
def OJ (l : List SV) : Nat -> SV -> List SV :=
 List.rec (motive := fun _ => Nat -> SV -> List SV) (fun _ _ => []) (fun a ts ih n v => Nat.rec (motive := fun _ => List SV) (v :: ts) (fun m _ => a :: ih m v) n) l
theorem E6 : ∀ (l : List SV) (n : Nat) (v : SV), OJ l n v = l.set n v
 | [], _, _ => rfl
 | _ :: _, 0, _ => rfl
 | a :: l, n + 1, v => congrArg (a :: ·) (E6 l n v)
def Ax (fr : List SV) : Option Tmp -> SV -> List SV
 | none, _ => fr
 | some d, v => OJ fr d v
def zz (A : Array Nat) (B : Nat -> Bool) (rs : List dS) (i : Nat) (a : dS) (j : Nat) (b : dS) : Bool :=
 match b.kind with
 | .cE =>
  (match a.kind with
   | .pure => true
   | .load => aW A i j || (aW A j i || (b.ok.contains i || (decide (i < j) && (match a.ld with
    | some y => sx a.v && ((rs.take (j + 1)).drop i).all fun r => match r.kind with
     | .cE => FJ r y
     | _ => true
    | none => false)) || (decide (j < i) && (match a.ld with
    | some y => (sx a.v && decide (y < b.n0)) && ((rs.take (i + 1)).drop j).all fun r => match r.kind with
     | .cE => FJ r y
     | _ => true
    | none => false))))
   | .quiet => i == j || (aW A i j || (aW A j i || (decide (j < i) && B i)))
   | .cE => i == j || (aW A i j || aW A j i))
 | _ => true
def vm (A : Array Nat) (B : Nat -> Bool) (rs : List dS) : Bool := rs.zipIdx.all fun (a, i) => rs.zipIdx.all fun (b, j) => zz A B rs i a j b
def tq (A : Array Nat) (n : Nat) : Bool := (List.range n).all fun i => (List.range n).all fun j => !aW A i j || ((A.getD i 0) ||| (A.getD j 0) == A.getD i 0)
def E2 {R : Type} (a b : SV) (r : Option R) : Option R :=
 match a, b with
 | .i k x, .i k' y => (match k == k' with | true => (bif decide (x = y) then r else none) | false => none)
 | .b x, .b y => (bif x == y then r else none)
 | _, _ => none
def xy {R : Type} : List SV -> List SV -> Option R -> Option R
 | [], [], r => r
 | a :: l, b :: m, r => E2 a b (xy l m r)
 | _, _, _ => none
def IK {R : Type} (a b : SV) (r : Option R) : Option R :=
 match a with
 | .agg l => (match b with | .agg m => xy l m r | _ => none)
 | _ => E2 a b r
def reS {R : Type} (P : Program) (S : aj) (A : Array Nat) (j : Nat) : List dS -> Nat -> (List Nat -> Option R) -> Option R
 | [], _, k => k []
 | a :: l, i, k =>
  match a.re with
  | some (t, p) =>
   (match aW A j i || aW A i j with
    | true => reS P S A j l (i + 1) k
    | false => rY P S t p fun v => IK a.v v (reS P S A j l (i + 1) fun oks => k (i :: oks)))
  | none => reS P S A j l (i + 1) k
def reL {R : Type} (P : Program) (S : aj) (A : Array Nat) (j : Nat) (o : Oper) (rs : List dS) (k : List Nat -> Option R) : Option R :=
 match o.op with
 | .store _ _ _ => k []
 | _ => reS P S A j rs 0 k
section
variable {R : Type} (P : Program) (L : List FuncId) (T : pb) (cx : oW R)
def Kj (A : Array Oper) (fr : List SV) (o : Oper) (yes no : List SV -> Option R) : Option R :=
 match o.guard with
 | none => yes fr
 | some (j, want) =>
  match (A[j]?).bind (·.dst) with
  | some d =>
   match fr[d]? with
   | some (.b x) => (match x with
    | true => (match want with | true => yes (fr.set d (.b true)) | false => no (fr.set d (.b true)))
    | false => (match want with | true => no (fr.set d (.b false)) | false => yes (fr.set d (.b false))))
   | some (.tup _) => no fr
   | _ => none
  | none => none
def IP (A : Array Oper) : List Oper -> SSt -> (SSt -> Option R) -> Option R
 | [], s, k => k s
 | o :: r, s, k =>
  Kj A s.fr o (fun fr => opS P T cx (gW fr) o s.hp fun v S => IP A r ⟨Ax fr o.dst v, S⟩ k)
   (fun fr => IP A r ⟨Ax fr o.dst (.tup []), s.hp⟩ k)
def md (ops : Array Oper) (A : Array Nat) : List Oper -> Nat -> SSt -> List dS -> (SSt -> Option R) -> Option R
 | [], _, s, rs, k => (match vm A (eU ops) rs with | true => k s | false => none)
 | o :: l, i, s, rs, k =>
  Kj ops s.fr o
   (fun fr => match fw L o with
    | .pure => opS P T cx (gW fr) o s.hp fun v _ => md ops A l (i + 1) ⟨Ax fr o.dst v, s.hp⟩ (rs ++ [⟨.pure, s.hp.size, s.hp.size, none, none, .any, none, [], []⟩]) k
    | .load =>
     (match o.op with
      | .load t a =>
       (match gW fr a with
        | some p => rY P (pB s.hp (aW A i) rs) t p fun v => md ops A l (i + 1) ⟨Ax fr o.dst v, s.hp⟩ (rs ++ [⟨.load, s.hp.size, s.hp.size, nS p, none, v, some (t, p), [], []⟩]) k
        | none => none)
      | _ => none)
    | .quiet =>
     (match G9 fr o with
      | true => opS P T cx (gW fr) o (pB s.hp (aW A i) rs) fun v S' => md ops A l (i + 1) ⟨Ax fr o.dst v, bN s.hp S'⟩ (rs ++ [⟨.quiet, s.hp.size, S'.size, none, none, .any, none, [], []⟩]) k
      | false => opS P T cx (gW fr) o (fB s.hp (eV (aW A i) rs 0)) fun v S' => md ops A l (i + 1) ⟨Ax fr o.dst v, bN s.hp S'⟩ (rs ++ [⟨.cE, s.hp.size, S'.size, none, none, .any, none, [], []⟩]) k)
    | .cE => opS P T cx (gW fr) o (fB s.hp (qU s.hp fr o ++ eV (aW A i) rs 0)) fun v S' => reL P (bN s.hp S') A i o rs fun oks => md ops A l (i + 1) ⟨Ax fr o.dst v, bN s.hp S'⟩
     (rs ++ [⟨.cE, s.hp.size, S'.size, none, (match o.op with | .store _ a _ => (match gW fr a with | some p => nS p | none => none) | _ => none), .any, none, oks, qU s.hp fr o⟩]) k)
   (fun fr => md ops A l (i + 1) ⟨Ax fr o.dst (.tup []), s.hp⟩ (rs ++ [⟨.pure, s.hp.size, s.hp.size, none, none, .any, none, [], []⟩]) k)
variable (stop : List Nat -> Bool)
def fC : Nat -> List Item -> SSt -> (List Item -> SSt -> Option R) -> Option R
 | 0, _, _, _ => none
 | n + 1, its, s, k =>
  match its with
  | [] => k [] s
  | .code p c :: r =>
   match stop (9 :: p) with
   | true => k (.code p c :: r) s
   | false =>
   match c with
   | .skip => fC n r s k
   | .label _ => fC n r s k
   | .region _ ops d =>
    (match d with
     | false => IP P T cx ops ops.toList s fun s' => fC n r s' k
     | true =>
      (match gF ops (Region.before ops) s.fr.length && tq (Region.before ops) ops.size with
       | true => md P L T cx ops (Region.before ops) ops.toList 0 s [] fun s' => fC n r s' k
       | false => none))
   | .seq a b => fC n (.code (0 :: p) a :: .code (1 :: p) b :: r) s k
   | .cond x a b =>
    (match gW s.fr x with
     | some (.b t) => (match t with | true => fC n (.code (0 :: p) a :: r) s k | false => fC n (.code (1 :: p) b :: r) s k)
     | _ => none)
   | .block id b => fC n (.code (0 :: p) b :: .blk id :: r) s k
   | .loop b => fC n (.lp p b :: r) s k
   | .exit id => (match leave id r with | some r' => fC n r' s k | none => none)
   | .ret => k [] s
   | _ => none
  | .lp p b :: r => (match stop p with | true => k (.lp p b :: r) s | false => fC n (.code (0 :: p) b :: .lp p b :: r) s k)
  | .blk _ :: r => fC n r s k
  | .ops .. :: _ => none
def pt (S : aj) (fr : List SV) : List ResultVar -> (List SV -> Option R) -> Option R
 | [], k => k []
 | .tmp t :: r, k => pt S fr r fun vs => k (fr.getD t (.tup []) :: vs)
 | .cell a t :: r, k => rY P S t (fr.getD a (.tup [])) fun v => pt S fr r fun vs => k (v :: vs)
def mU : List SV -> SV
 | [v] => v
 | vs => .tup vs
end
def rL {R : Type} (P : Program) (L : List FuncId) (T : pb) (kn : FuncId -> Bool) : Nat -> oW R
 | 0, _, _, _, _ => none
 | n + 1, g, args, S, k =>
  match kn g with
  | true => none
  | false =>
  match P.funcs[g]? with
  | some fn =>
   match fn.body with
   | some c =>
    fC P L T (rL P L T kn n) (fun _ => false) 100000 [.code [] c] ⟨args ++ List.replicate (fn.ntmps - args.length) (.tup []), S⟩ fun its s =>
     match its with
     | [] => pt P s.hp s.fr fn.results.toList fun vs => k (mU vs) s.hp
     | _ => none
   | none => none
  | none => none
section
variable {R : Type} {P : Program} {L : List FuncId} {O : bj} {T : pb} {φ : Phi} {H : ai} {own : Nat -> Prop} {S : aj}
theorem tO {A : Array Oper} {fr : List SV} {fv : List Value} (hf : DVL φ H own fr fv) {o : Oper} {a b : List SV -> Option R} {r : R} (h : Kj A fr o a b = some r) :
 ∃ fr', DVL φ H own fr' fv /\ ((dA A fv o = true /\ a fr' = some r) \/ (dA A fv o = false /\ b fr' = some r)) := by
 unfold Kj at h; unfold dA
 split at h
 . rename_i hg; simp only [hg]; exact ⟨fr, hf, .inl ⟨trivial, h⟩⟩
 . rename_i j want hg; simp only [hg]
   split at h
   . rename_i d hd; rw [hd]; dsimp only [Option.bind]
     split at h
     . rename_i x hx; obtain ⟨v, h1, h2⟩ := hf.get hx; cases h2; rw [h1]; have hset : ∀ t, t = x -> DVL φ H own (fr.set d (.b t)) fv := by
        rintro t rfl
        have : fr.set d (.b t) = fr := by
         apply zbr; intro m; rw [zbj]
         split
         . rename_i hm; subst hm
           split
           . exact hx.symm
           . rename_i hlt; rw [zaN (by omega)] at hx; cases hx
         . rfl
        rw [this]; exact hf
       cases x <;> cases want <;> simp only at h
       . exact ⟨_, hset false rfl, .inl ⟨rfl, h⟩⟩
       . exact ⟨_, hset false rfl, .inr ⟨rfl, h⟩⟩
       . exact ⟨_, hset true rfl, .inr ⟨rfl, h⟩⟩
       . exact ⟨_, hset true rfl, .inl ⟨rfl, h⟩⟩
     . rename_i l hx; obtain ⟨v, h1, h2⟩ := hf.get hx; cases h2; rw [h1]; exact ⟨fr, hf, .inr ⟨rfl, h⟩⟩
     . cases h
   . cases h
theorem iL {fr : List SV} {fv : List Value} (hf : DVL φ H own fr fv) (d : Option Tmp) {s : SV} {v : Value} (hv : DV φ H own s v) : DVL φ H own (Ax fr d s) (gI fv d v) := by
 cases d with
 | none => exact hf
 | some d => show DVL φ H own (OJ fr d s) _; rw [E6]; exact hf.set d hv
theorem DV.undef : DV φ H own (.tup []) undef := .tup [] #[] rfl (fun i s v h => by simp at h)
theorem oP {cx : oW R} (hT : dC P L O T) (hcx : nJ P L O cx) {A : Array Oper} : ∀ {l : List Oper} {fr : List SV} {S : aj} {fv : List Value} {H : ai} {φ : Phi} {k : SSt -> Option R} {r : R},
 NBh φ S H -> Sim φ S H -> DVL φ H (Own φ S) fr fv -> IP P T cx A l ⟨fr, S⟩ k = some r ->
 ∃ φ' fr' S' fv' H', k ⟨fr', S'⟩ = some r /\ Step φ S H φ' S' H' /\ DVL φ' H' (Own φ' S') fr' fv' /\ ∀ its q, cF P L O its ⟨fv', H'⟩ q -> cF P L O (.ops A l :: its) ⟨fv, H⟩ q
 | [], fr, S, fv, H, φ, k, r, hnb, hS, hf, h => ⟨φ, fr, S, fv, H, h, Step.refl hS, hf, fun _ _ hm => .HX hm⟩
 | o :: l, fr, S, fv, H, φ, k, r, hnb, hS, hf, h => by
  unfold IP at h; obtain ⟨fr1, hf1, ⟨hw, h⟩ | ⟨hw, h⟩⟩ := tO hf h
  . obtain ⟨s, S1, v, H1, ho, ⟨φ1, hst, hv⟩, _, hk, _⟩ := kS hT hcx hS (fun x s hs => iO hf1 hs) (fun _ => hnb) h; have hext := hst.ext hS; obtain ⟨φ2, fr2, S2, fv2, H2, g1, g2, g3, g4⟩ := oP hT hcx (hnb.step hst) hst.sim (iL (hf1.mono hext) o.dst hv) hk; exact ⟨φ2, fr2, S2, fv2, H2, g1, hst.trans g2, g3, fun its q hm => .op hw ho (g4 its q hm)⟩
  . obtain ⟨φ2, fr2, S2, fv2, H2, g1, g2, g3, g4⟩ := oP hT hcx hnb hS (iL hf1 o.dst DV.undef) h; exact ⟨φ2, fr2, S2, fv2, H2, g1, g2, g3, fun its q hm => .Je hw (g4 its q hm)⟩
end
end
end
end Go.Proofs.YtdbkoeefnodejaaGreat.Ev
namespace Go.Proofs.YtdbkoeefnodejaaGreat.Ev
noncomputable section
noncomputable section
open Go
theorem ji (p : Nat -> Bool) : ∀ (rs : List dS) (k x : Nat), hidden (eV p rs k) x = true ↔ ∃ j r, rs[j]? = some r /\ p (k + j) = false /\ r.n0 <= x /\ x < r.n1 := by
 intro rs
 induction rs with
 | nil => intro k x; simp [eV, hidden]
 | cons r rs ih =>
  intro k x; have hcons : (∃ j r', (r :: rs)[j]? = some r' /\ p (k + j) = false /\ r'.n0 <= x /\ x < r'.n1) ↔ (p k = false /\ r.n0 <= x /\ x < r.n1) \/ ∃ j r', rs[j]? = some r' /\ p (k + 1 + j) = false /\ r'.n0 <= x /\ x < r'.n1 := by
   constructor
   . rintro ⟨j, r', h1, h2, h3, h4⟩
     cases j with
     | zero => simp at h1; subst h1; exact .inl ⟨by simpa using h2, h3, h4⟩
     | succ j => exact .inr ⟨j, r', by simpa using h1, by rw [show k + 1 + j = k + (j + 1) by omega]; exact h2, h3, h4⟩
   . rintro (⟨h1, h2, h3⟩ | ⟨j, r', h1, h2, h3, h4⟩)
     . exact ⟨0, r, by simp, by simpa using h1, h2, h3⟩
     . exact ⟨j + 1, r', by simpa using h1, by rw [show k + (j + 1) = k + 1 + j by omega]; exact h2, h3, h4⟩
  rw [hcons]; unfold eV; cases hp : p k with
  | true => simp only [za7]; rw [ih]; simp
  | false =>
   simp only [zbW, zbh, hidden, zbf, zab, zac]; rw [ih]; simp
theorem pU (p : Nat -> Bool) : ∀ (rs : List dS) (k : Nat) (l : List (Nat × Nat)), eV p rs k ++ l ≠ []
 | [], _, _ => by simp [eV]
 | r :: rs, k, l => by
  unfold eV
  split
  . exact pU p rs _ l
  . simp
section
variable {R : Type} {P : Program} {L : List FuncId} {O : bj} {T : pb} {A : Array Nat}
def SR (rs : List dS) (j id : Nat) : Prop := ∃ r, rs[j]? = some r /\ r.n0 <= id /\ id < r.n1
def ER (rs : List Rec) (j x : Nat) : Prop := ∃ r, rs[j]? = some r /\ r.h0.size <= x /\ x < r.h1.size
def kindOk : Kd -> Kd -> Prop
 | .cE, .quiet => True
 | .cE, .cE => True
 | .quiet, .quiet => True
 | .pure, .pure => True
 | .load, .load => True
 | _, _ => False
def calm (rs : List dS) (i k y : Nat) : Prop := ∀ (j : Nat) (c : dS), i <= j -> j <= k -> rs[j]? = some c -> c.kind = .cE -> FJ c y = true
structure RI (P : Program) (A : Array Nat) (base : Nat) (φ : Phi) (S : aj) (H : ai) (rsS : List dS) (rsE : List Rec) : Prop where
 sim : Sim φ S H
 len : rsS.length = rsE.length
 ban : ∀ x, base <= x -> φ.ban x
 Lz : ∀ id B x, S.get id = some B -> φ id = some (some x) -> x < base \/ ∃ j m, SR rsS j id /\ ER rsE m x /\ (m = j \/ aW A j m = true)
 esz : ∀ (j : Nat) (r : Rec), rsE[j]? = some r -> base <= r.h0.size /\ r.h0.size <= r.h1.size /\ r.h1.size <= H.size
 HK : ∀ (j j' : Nat) (r r' : Rec), j < j' -> rsE[j]? = some r -> rsE[j']? = some r' -> r.h1.size <= r'.h0.size
 ssz : ∀ (j : Nat) (r : dS), rsS[j]? = some r -> r.n0 <= S.size /\ r.n1 <= S.size
 MF : base <= H.size
 kinds : ∀ (j : Nat) (a : dS) (b : Rec), rsS[j]? = some a -> rsE[j]? = some b -> kindOk a.kind b.kind
 Hj : ∀ (i : Nat) (a : dS) (b : Rec), rsS[i]? = some a -> rsE[i]? = some b -> a.kind = .load -> ∃ t p, b.ld = some (t, p) /\ (sx a.v = true -> eqv b.v b.v = true) /\
  ∀ y, a.ld = some y -> ∃ x0 o, p = .pointer (some ⟨x0, o, none⟩) /\ φ y = some (some x0) /\ (calm rsS i rsS.length y -> (∃ B, S.get y = some B) /\ bX P H t p = some b.v) /\
   ∀ (k : Nat) (d : Rec), i < k -> rsE[k]? = some d -> calm rsS i k y -> bX P d.h1 t p = some b.v
 res : ∀ (i : Nat) (a : dS) (b : Rec) (t : TypeId) (p : SV), rsS[i]? = some a -> rsE[i]? = some b -> a.re = some (t, p) -> ∃ pv, b.ld = some (t, pv) /\ DV φ H (Own φ S) p pv /\ DV φ H (Own φ S) a.v b.v
 back : ∀ (j : Nat) (c : dS) (d : Rec), rsS[j]? = some c -> rsE[j]? = some d -> ∀ y B x0, S.get y = some B -> φ y = some (some x0) -> y < c.n0 -> calm rsS j rsS.length y -> d.h0.get x0 = H.get x0
 MB : ∀ (i : Nat) (a : dS) (b : Rec), rsS[i]? = some a -> rsE[i]? = some b -> a.kind = .load -> ∀ y, a.ld = some y -> ∀ (j : Nat) (c : dS) (d : Rec), j < i -> rsS[j]? = some c -> rsE[j]? = some d -> y < c.n0 -> calm rsS j i y ->
  ∃ t p, b.ld = some (t, p) /\ bX P (Ev.cA d.h0 (aW A i) (rsE.take j)) t p = some b.v
 oks : ∀ (j : Nat) (c : dS) (d : Rec), rsS[j]? = some c -> rsE[j]? = some d -> ∀ i ∈ c.ok, i < j /\ ∃ b t pv v, rsE[i]? = some b /\ b.ld = some (t, pv) /\ bX P d.h1 t pv = some v /\ eqv b.v v = true
variable {base : Nat} {φ : Phi} {S : aj} {H : ai} {rsS : List dS} {rsE : List Rec}
def tI (A : Array Nat) (n : Nat) : Prop := ∀ i j m, i < n -> j < n -> aW A i j = true -> aW A j m = true -> aW A i m = true
theorem CA {n : Nat} (h : tq A n = true) : tI A n := by
 intro i j m hi hj h1 h2; unfold tq at h; rw [zam] at h; have h := h i (zbs.2 hi); rw [zam] at h; have h := h j (zbs.2 hj); rw [h1] at h; simp only [zbE, Bool.false_or, zaE] at h; unfold aW at h2 ⊢; rw [<- h, Nat.testBit_or, h2, Bool.or_true]
def Phi.lH (φ : Phi) (S : aj) : Phi := ⟨φ.m, Own φ S⟩
theorem RI.LU (I : RI P A base φ S H rsS rsE) (p : Nat -> Bool) {x : Nat} (hx : x < base \/ H.size <= x) : hidden (dy p rsE 0) x = false := by
 cases hh : hidden (dy p rsE 0) x with
 | false => rfl
 | true =>
  obtain ⟨j, r, h1, _, h2, h3⟩ := (eI p rsE 0 x).1 hh; have := I.esz j r h1; omega
theorem RI.Pj (I : RI P A base φ S H rsS rsE) (p : Nat -> Bool) {id : Nat} (hx : S.size <= id) : hidden (eV p rsS 0) id = false := by
 cases hh : hidden (eV p rsS 0) id with
 | false => rfl
 | true =>
  obtain ⟨j, r, h1, _, h2, h3⟩ := (ji p rsS 0 id).1 hh; have := I.ssz j r h1; omega
theorem uv : ∀ {l : List (Nat × Nat)} {x : Nat}, hidden l x = true -> ∃ p ∈ l, p.1 <= x /\ x < p.2
 | [], x, h => by cases h
 | (a, b) :: l, x, h => by
  simp only [hidden, zbf, zab, zac] at h; rcases h with h | h
  . exact ⟨(a, b), by simp, h⟩
  . obtain ⟨p, h1, h2⟩ := uv h; exact ⟨p, zaQ _ h1, h2⟩
theorem Hr {S : aj} {fr : List SV} {o : Oper} {id : Nat} (h : S.size <= id) : hidden (qU S fr o) id = false := by
 cases hh : hidden (qU S fr o) id with
 | false => rfl
 | true =>
  obtain ⟨p, h1, h2, h3⟩ := uv hh; unfold qU at h1
  split at h1
  . split at h1
    . unfold Q8 at h1; obtain ⟨k, hk, hk2⟩ := zbO.1 h1; have hk := zbs.1 hk
      split at hk2
      . cases hk2
      . cases hk2; have h3 : id < k + 1 := h3; omega
    . cases h1
  . cases h1
theorem sm {K : ai} {p : Nat -> Bool} {rs : List Rec} {x : Nat} {c : Blk} (h : K.get x = some c) (hh : hidden (dy p rs 0) x = false) : (cA K p rs).get x = some c := by
 obtain ⟨h1, h2⟩ := ai.aN h; unfold ai.get; rw [if_pos (show x < (cA K p rs).size by have : x < K.size := ai.bh h; exact this), show hidden (cA K p rs).hid x = false by
  show hidden (dy p rs 0 ++ K.hid) x = false; rw [fz, hh, h2]; rfl]
 exact h1
theorem A9 {p : Nat -> Bool} {rs : List Rec} {j x : Nat} (h : hidden (dy p rs 0) x = false) : hidden (dy p (rs.take j) 0) x = false := by
 cases hh : hidden (dy p (rs.take j) 0) x with
 | false => rfl
 | true =>
  obtain ⟨k, r, h1, h2, h3⟩ := (eI p _ 0 x).1 hh; rw [zaq] at h1
  split at h1
  . rw [(eI p rs 0 x).2 ⟨k, r, h1, h2, h3⟩] at h; cases h
  . cases h1
theorem RI.seen (I : RI P A base φ S H rsS rsE) {i n : Nat} (hn : tI A n) (hi : i < n) (hlen : rsS.length <= n) {id x : Nat} {B : aO} (hB : S.get id = some B) (hv : hidden (eV (aW A i) rsS 0) id = false) (hx : φ id = some (some x)) :
 hidden (dy (aW A i) rsE 0) x = false := by
 rcases I.Lz id B x hB hx with h | ⟨j, m, ⟨a, h1, h2, h3⟩, ⟨b, h4, h5, h6⟩, hjm⟩
 . exact I.LU _ (.inl h)
 . cases hh : hidden (dy (aW A i) rsE 0) x with
   | false => rfl
   | true =>
    exfalso; obtain ⟨j', r, g1, g2, g3, g4⟩ := (eI _ rsE 0 x).1 hh; rw [zaD] at g2; have hm : j' = m := by
     rcases Nat.lt_trichotomy j' m with h | h | h
     . have := I.HK j' m r b h g1 h4; omega
     . exact h
     . have := I.HK m j' b r h h4 g1; omega
    subst hm; have hpj : aW A i j = true := by
     cases hp : aW A i j with
     | true => rfl
     | false =>
      have := (ji (aW A i) rsS 0 id).2 ⟨j, a, h1, by rw [zaD]; exact hp, h2, h3⟩; rw [this] at hv; cases hv
    have hj : j < n := by
     have := (zal.1 h1).1; omega
    rcases hjm with rfl | hjm
    . rw [hpj] at g2; cases g2
    . rw [hn i j j' hi hj hpj hjm] at g2; cases g2
theorem iq {a b : List (Nat × Nat)} {x : Nat} (h1 : hidden a x = false) (h2 : hidden b x = false) : hidden (a ++ b) x = false := by rw [fz, h1, h2]; rfl
theorem gj {a b : List (Nat × Nat)} {x : Nat} (h : hidden (a ++ b) x = false) : hidden a x = false /\ hidden b x = false := by
 rw [fz, zbZ] at h; exact h
theorem ai.eE {H : ai} {k : Nat} (h1 : k < H.size) (h2 : hidden H.hid k = false) : H.get k = H.root.get k := by
 unfold ai.get; rw [if_pos h1, h2]; rfl
theorem RI.nc (I : RI P A base φ S H rsS rsE) (p : Nat -> Bool) {x : Nat} {c : Blk} (h : H.get x = some c) (hh : hidden (dy p rsE 0) x = false) : (cA H p rsE).get x = some c := by
 obtain ⟨h1, h2⟩ := ai.aN h; exact (ai.eE (H := cA H p rsE) (show x < H.size from ai.bh h) (iq hh h2)).trans h1
theorem lZ {p : Nat -> Bool} {x : Nat} {c : Blk} (h : (cA H p rsE).get x = some c) : H.get x = some c /\ hidden (dy p rsE 0) x = false := by
 obtain ⟨h1, h2⟩ := ai.aN h; obtain ⟨h3, h4⟩ := gj h2; have hlt : x < H.size := ai.bh (H := cA H p rsE) h; exact ⟨(ai.eE (H := H) hlt h4).trans h1, h3⟩
theorem bG {M : List (Nat × Nat)} {id : Nat} {B : aO} (h : (fB S M).get id = some B) : S.get id = some B /\ hidden M id = false := by
 obtain ⟨h1, h2⟩ := aj.aN h; obtain ⟨h3, h4⟩ := gj h2; have hlt : id < S.size := aj.bh (S := fB S M) h; exact ⟨(aj.eE (S := S) hlt h4).trans h1, h3⟩
theorem eK {p : Nat -> Bool} {id : Nat} {B : aO} (h : (pB S p rsS).get id = some B) : S.get id = some B /\ hidden (eV p rsS 0) id = false := by
 obtain ⟨h1, h2⟩ := aj.aN h; obtain ⟨h3, h4⟩ := gj h2; have hlt : id < S.size := aj.bh (S := pB S p rsS) h; exact ⟨(aj.eE (S := S) hlt h4).trans h1, h3⟩
theorem RI.cA (I : RI P A base φ S H rsS rsE) {i n : Nat} (hn : tI A n) (hi : i < n) (hlen : rsS.length <= n) :
 Ext φ H (Own φ S) (φ.lH S) (cA H (aW A i) rsE) (Own (φ.lH S) (pB S (aW A i) rsS)) /\ Sim (φ.lH S) (pB S (aW A i) rsS) (cA H (aW A i) rsE) := by
 have hown : ∀ x, Own (φ.lH S) (pB S (aW A i) rsS) x -> Own φ S x := by
  rintro x (h | ⟨id, B, h1, h2⟩)
  . exact h
  . exact .inr ⟨id, B, (eK h1).1, h2⟩
 have hext : Ext φ H (Own φ S) (φ.lH S) (Ev.cA H (aW A i) rsE) (Own (φ.lH S) (pB S (aW A i) rsS)) := by
  refine ⟨fun _ _ h => h, fun x c h1 h2 => ⟨?_, fun h => h2 (hown x h)⟩, fun id x c' _ h => ⟨c', h, rfl⟩⟩; have hb : x < base := by
   rcases zb4 x base with h | h
   . exact h
   . exact absurd (.inl (I.ban x h)) h2
  exact I.nc _ h1 (I.LU _ (.inl hb))
 refine ⟨hext, ⟨?_, ?_, I.sim.fresh, I.sim.lt, zao _, zao _, ?_⟩⟩
 . intro id B h; obtain ⟨h1, h2⟩ := eK h; rcases I.sim.blk id B h1 with h3 | ⟨x, c, h3, h4, h5, h6⟩
   . exact .inl h3
   . refine .inr ⟨x, c, h3, I.nc _ h4 (I.seen hn hi hlen h1 h2 h3), fun hl => ?_, h6.mono hext⟩; have : id < S.size := aj.bh h1; have : S.size <= id := hl; omega
 . intro id id' B B' x h1 h2 h3 h4; exact I.sim.inj id id' B B' x (eK h1).1 (eK h2).1 h3 h4
 . intro x hx; exact iq (I.LU _ (.inr hx)) (I.sim.fL x hx)
theorem RI.P0 (I : RI P A base φ S H rsS rsE) (M : List (Nat × Nat)) :
 Ext φ H (Own φ S) (φ.lH S) H (Own (φ.lH S) (fB S M)) /\ Sim (φ.lH S) (fB S M) H := by
 have hown : ∀ x, Own (φ.lH S) (fB S M) x -> Own φ S x := by
  rintro x (h | ⟨id, B, h1, h2⟩)
  . exact h
  . exact .inr ⟨id, B, (bG h1).1, h2⟩
 have hext : Ext φ H (Own φ S) (φ.lH S) H (Own (φ.lH S) (fB S M)) :=
  ⟨fun _ _ h => h, fun x c h1 h2 => ⟨h1, fun h => h2 (hown x h)⟩, fun id x c' _ h => ⟨c', h, rfl⟩⟩
 refine ⟨hext, ⟨?_, ?_, I.sim.fresh, I.sim.lt, I.sim.gH, I.sim.cW, I.sim.fL⟩⟩
 . intro id B h; rcases I.sim.blk id B (bG h).1 with h3 | ⟨x, c, h3, h4, h5, h6⟩
   . exact .inl h3
   . exact .inr ⟨x, c, h3, h4, h5, h6.mono hext⟩
 . intro id id' B B' x h1 h2 h3 h4; exact I.sim.inj id id' B B' x (bG h1).1 (bG h2).1 h3 h4
theorem Sim.at {S' : aj} {φ' : Phi} (hS : Sim φ S H) (hle : ∀ id y, φ id = some y -> φ' id = some y) {id x : Nat} {B : aO} (hB : S.get id = some B) (h : φ' id = some (some x)) : φ id = some (some x) := by
 rcases hS.blk id B hB with ⟨h1, _⟩ | ⟨y, c, h1, _⟩
 . rw [hle _ _ h1] at h; cases h
 . rw [hle _ _ h1] at h; rw [h1]; exact h
theorem RI.ct (I : RI P A base φ S H rsS rsE) {i : Nat} {φ1 : Phi} {S1 : aj} {H1 : ai} (hst : Step (φ.lH S) (pB S (aW A i) rsS) (Ev.cA H (aW A i) rsE) φ1 S1 H1) (hfr : Fr (Ev.cA H (aW A i) rsE) H1) :
 Step φ S H ⟨φ1.m, φ.ban⟩ (bN S S1) (Ev.ct H H1) /\ (∀ s v, DV φ1 H1 (Own φ1 S1) s v -> DV ⟨φ1.m, φ.ban⟩ (Ev.ct H H1) (Own ⟨φ1.m, φ.ban⟩ (bN S S1)) s v) /\
 (∀ x, x < H.size -> (Ev.ct H H1).get x = H.get x) /\
 (∀ id B x, (bN S S1).get id = some B -> φ1 id = some (some x) -> (id < S.size /\ S.get id = some B /\ φ id = some (some x)) \/ (S.size <= id /\ id < S1.size /\ H.size <= x /\ x < H1.size)) /\
 (∀ id, id < S.size -> (bN S S1).get id = S.get id) := by
 have hHs : H.size <= H1.size := hst.dQ; have hSs : S.size <= S1.size := hst.ssize; have hE1 : ∀ x, x < H.size -> (Ev.ct H H1).get x = H.get x := by
  intro x hx; unfold ai.get; rw [if_pos (show x < (Ev.ct H H1).size from zat hx hHs), if_pos hx]; show (if hidden H.hid x = true then none else H1.root.get x) = _; rw [hfr.root x hx hx]; rfl
 have hH1hid : H1.hid = dy (aW A i) rsE 0 ++ H.hid := hst.fL; have hS1hid : S1.hid = eV (aW A i) rsS 0 ++ S.hid := hst.wG; have hE2 : ∀ x, H.size <= x -> (Ev.ct H H1).get x = H1.get x := by
  intro x hx; unfold ai.get; have e1 := I.sim.fL x hx; have e2 : hidden H1.hid x = false := by rw [hH1hid]; exact iq (I.LU _ (.inr hx)) e1
  show (if x < H1.size then (if hidden H.hid x = true then none else H1.root.get x) else none) = _; rw [e1, e2]
 have hE3 : ∀ x c, H1.get x = some c -> (Ev.ct H H1).get x = some c := by
  intro x c h; obtain ⟨h1, h2⟩ := ai.aN h; rw [hH1hid] at h2; exact (ai.eE (H := Ev.ct H H1) (show x < H1.size from ai.bh h) (gj h2).2).trans h1
 have hS1 : ∀ id, id < S.size -> (bN S S1).get id = S.get id := by
  intro id hid; unfold aj.get; rw [if_pos (show id < (bN S S1).size from zat hid hSs), if_pos hid]; show (if hidden S.hid id = true then none else S1.root.get id) = _; rw [hst.m7 id hid (.inl hid)]; rfl
 have hS2 : ∀ id B, S.size <= id -> (bN S S1).get id = some B -> S1.get id = some B := by
  intro id B hid h; obtain ⟨h1, h2⟩ := aj.aN h; exact (aj.eE (S := S1) (show id < S1.size from aj.bh (S := bN S S1) h) (by rw [hS1hid]; exact iq (I.Pj _ hid) h2)).trans h1
 have hle : ∀ id y, φ id = some y -> φ1 id = some y := hst.le; have hnew : ∀ id B x, S.size <= id -> S1.get id = some B -> φ1 id = some (some x) -> H.size <= x /\ x < H1.size := by
  intro id B x h1 h2 h3; rcases hst.sim.blk id B h2 with ⟨h4, _⟩ | ⟨y, c, h4, h5, h6, _⟩
  . rw [h3] at h4; cases h4
  . rw [h3] at h4; cases h4; refine ⟨?_, ai.bh h5⟩; have := h6 (by rw [hst.gH]; exact h1); rw [hst.cW] at this; exact this
 have hold : ∀ id B x, S.get id = some B -> φ1 id = some (some x) -> φ id = some (some x) := fun id B x h1 h2 => Sim.at (S' := S) (φ' := φ1) I.sim hle h1 h2
 have hbanv : φ1.ban = Own φ S := hst.ban
 let φ' : Phi := ⟨φ1.m, φ.ban⟩
 have hownI : ∀ x, dU φ' (bN S S1) x -> dU φ S x \/ dU φ1 S1 x /\ H.size <= x := by
  rintro x ⟨id, B, h1, h2⟩
  by_cases hid : id < S.size
  . rw [hS1 id hid] at h1; exact .inl ⟨id, B, h1, hold id B x h1 h2⟩
  . have h3 := hS2 id B (by omega) h1; exact .inr ⟨⟨id, B, h3, h2⟩, (hnew id B x (by omega) h3 h2).1⟩
 have hext : Ext φ H (Own φ S) φ' (Ev.ct H H1) (Own φ' (bN S S1)) := by
  refine ⟨hle, fun x c h1 h2 => ?_, fun id x c' h1 h2 => ?_⟩
  . have hlt := ai.bh h1; refine ⟨by rw [hE1 x hlt]; exact h1, ?_⟩
    rintro (h | h)
    . exact h2 (.inl h)
    . rcases hownI x h with h | ⟨_, h⟩
      . exact h2 (.inr h)
      . omega
  . have hlt := I.sim.lt id x h1; refine ⟨c', ?_, rfl⟩; have := hfr.root x hlt hlt; exact this.symm.trans h2
 have hext1 : Ext φ1 H1 (Own φ1 S1) φ' (Ev.ct H H1) (Own φ' (bN S S1)) := by
  refine ⟨fun _ _ h => h, fun x c h1 h2 => ⟨hE3 x c h1, ?_⟩, fun id x c' _ h => ⟨c', h, rfl⟩⟩
  rintro (h | h)
  . exact h2 (.inl (by rw [hbanv]; exact .inl h))
  . rcases hownI x h with h | ⟨h, _⟩
    . exact h2 (.inl (by rw [hbanv]; exact .inr h))
    . exact h2 (.inr h)
 refine ⟨⟨⟨?_, ?_, ?_, ?_, ?_, ?_, ?_⟩, hle, rfl, ?_, fun x hx _ => hE1 x hx, ?_, hHs, rfl, rfl, hSs, rfl, rfl, ?_⟩, fun s v h => h.mono hext1, hE1, ?_, hS1⟩
 . intro id B h
   by_cases hid : id < S.size
   . rw [hS1 id hid] at h; rcases I.sim.blk id B h with h3 | ⟨x, c, h3, h4, h5, h6⟩
     . exact .inl ⟨hle _ _ h3.1, h3.2⟩
     . exact .inr ⟨x, c, hle _ _ h3, by rw [hE1 x (ai.bh h4)]; exact h4, h5, h6.mono hext⟩
   . have h1 := hS2 id B (by omega) h; rcases hst.sim.blk id B h1 with h3 | ⟨x, c, h3, h4, h5, h6⟩
     . exact .inl h3
     . refine .inr ⟨x, c, h3, hE3 x c h4, fun _ => ?_, h6.mono hext1⟩; have := (hnew id B x (by omega) h1 h3).1; exact zax I.sim.cW this
 . intro id id' B B' x h1 h2 h3 h4
   by_cases hid : id < S.size
   . rw [hS1 id hid] at h1; have g1 := hold id B x h1 h3
     by_cases hid' : id' < S.size
     . rw [hS1 id' hid'] at h2; exact I.sim.inj id id' B B' x h1 h2 g1 (hold id' B' x h2 h4)
     . have := (hnew id' B' x (by omega) (hS2 id' B' (by omega) h2) h4).1; have := I.sim.lt id x g1; omega
   . have g1 := hS2 id B (by omega) h1
     by_cases hid' : id' < S.size
     . rw [hS1 id' hid'] at h2; have := (hnew id B x (by omega) g1 h3).1; have := I.sim.lt id' x (hold id' B' x h2 h4); omega
     . exact hst.sim.inj id id' B B' x g1 (hS2 id' B' (by omega) h2) h3 h4
 . exact hst.sim.fresh
 . exact hst.sim.lt
 . exact zax I.sim.gH hSs
 . exact zax I.sim.cW hHs
 . intro x hx; exact I.sim.fL x (zax hHs hx)
 . intro x hx h; rcases hownI x h with h | ⟨_, h⟩
   . exact h
   . omega
 . intro x c' hx h; exact ⟨c', (hfr.root x hx hx).symm.trans h, rfl⟩
 . intro id h1 _; exact hst.m7 id h1 (.inl h1)
 . intro id B x h1 h2
   by_cases hid : id < S.size
   . rw [hS1 id hid] at h1; exact .inl ⟨hid, h1, hold id B x h1 h2⟩
   . have g1 := hS2 id B (by omega) h1; obtain ⟨g2, g3⟩ := hnew id B x (by omega) g1 h2; exact .inr ⟨by omega, aj.bh g1, g2, g3⟩
theorem RI.HU (I : RI P A base φ S H rsS rsE) {M : List (Nat × Nat)} (hM : ∀ id, S.size <= id -> hidden M id = false) {φ1 : Phi} {S1 : aj} {H1 : ai} (hst : Step (φ.lH S) (fB S M) H φ1 S1 H1) :
 Step φ S H ⟨φ1.m, φ.ban⟩ (bN S S1) H1 /\ (∀ s v, DV φ1 H1 (Own φ1 S1) s v -> DV ⟨φ1.m, φ.ban⟩ H1 (Own ⟨φ1.m, φ.ban⟩ (bN S S1)) s v) /\
 (∀ id B x, (bN S S1).get id = some B -> φ1 id = some (some x) -> (id < S.size /\ (∃ B, S.get id = some B) /\ φ id = some (some x)) \/
  (S.size <= id /\ id < S1.size /\ ((H.size <= x /\ x < H1.size) \/ ∃ id0 B0, S.get id0 = some B0 /\ hidden (M) id0 = false /\ φ id0 = some (some x)))) := by
 have hSs : S.size <= S1.size := hst.ssize; have hS1hid : S1.hid = M ++ S.hid := hst.wG; have hle : ∀ id y, φ id = some y -> φ1 id = some y := hst.le; have hbanv : φ1.ban = Own φ S := hst.ban; have hold : ∀ id B x, S.get id = some B -> φ1 id = some (some x) -> φ id = some (some x) := fun id B x h1 h2 => Sim.at (S' := S) (φ' := φ1) I.sim hle h1 h2
 have hcase : ∀ id B, (bN S S1).get id = some B -> (id < S.size /\ hidden (M) id = true /\ S.get id = some B) \/ (hidden (M) id = false /\ S1.get id = some B) := by
  intro id B h; obtain ⟨h1, h2⟩ := aj.aN h; have h1 : S1.root.get id = some B := h1; have h2 : hidden S.hid id = false := h2; have hlt : id < S1.size := aj.bh (S := bN S S1) h; cases hm : hidden (M) id with
  | false => exact .inr ⟨rfl, (aj.eE (S := S1) hlt (by rw [hS1hid]; exact iq hm h2)).trans h1⟩
  | true =>
   have hid : id < S.size := by
    rcases zb4 id S.size with h | h
    . exact h
    . rw [hM id h] at hm; cases hm
   refine .inl ⟨hid, rfl, ?_⟩; have hn : (fB S M).get id = none := by
    cases hg : (fB S M).get id with
    | none => rfl
    | some C => rw [(bG hg).2] at hm; cases hm
   have := hst.m7 id hid (.inr hn); rw [aj.eE hid h2]; exact this.symm.trans h1
 have hseen : ∀ id B, id < S.size -> hidden (M) id = false -> S1.get id = some B -> ∃ C, S.get id = some C := by
  intro id B h1 h2 h3; cases hg : (fB S M).get id with
  | some C => exact ⟨C, (bG hg).1⟩
  | none =>
   have e := hst.m7 id h1 (.inr hg); rw [aj.DS hg h1 hst.wG e] at h3; cases h3
 let φ' : Phi := ⟨φ1.m, φ.ban⟩
 have hownI : ∀ x, dU φ' (bN S S1) x -> dU φ S x \/ dU φ1 S1 x := by
  rintro x ⟨id, B, h1, h2⟩
  rcases hcase id B h1 with ⟨_, _, h⟩ | ⟨_, h⟩
  . exact .inl ⟨id, B, h, hold id B x h h2⟩
  . exact .inr ⟨id, B, h, h2⟩
 have hhidden : ∀ id B x, S.get id = some B -> hidden (M) id = true -> φ id = some (some x) -> ¬ dU (φ.lH S) (fB S M) x := by
  rintro id B x h1 h2 h3 ⟨id', B', h4, h5⟩
  obtain ⟨h6, h7⟩ := bG h4; have := I.sim.inj id id' B B' x h1 h6 h3 h5; subst this; rw [h7] at h2; cases h2
 have hsub : ∀ x, dU (φ.lH S) (fB S M) x -> dU φ S x := fun x ⟨id, B, h1, h2⟩ => ⟨id, B, (bG h1).1, h2⟩
 have hsubW : ∀ x, mB (φ.lH S) (fB S M) x -> mB φ S x := fun x ⟨id, B, h0, h1, h2⟩ => ⟨id, B, h0, (bG h1).1, h2⟩
 have hext : Ext φ H (Own φ S) φ' H1 (Own φ' (bN S S1)) := by
  refine ⟨hle, fun x c h1 h2 => ?_, fun id x c' h1 h2 => hst.len x c' (I.sim.lt id x h1) h2⟩; have hlt := ai.bh h1; refine ⟨by rw [hst.fi x hlt (fun h => h2 (.inr (hsub x h.toI)))]; exact h1, ?_⟩
  rintro (h | h)
  . exact h2 (.inl h)
  . rcases hownI x h with h | h
    . exact h2 (.inr h)
    . exact h2 (.inr (hsub x (hst.own x hlt h)))
 have hext1 : Ext φ1 H1 (Own φ1 S1) φ' H1 (Own φ' (bN S S1)) := by
  refine ⟨fun _ _ h => h, fun x c h1 h2 => ⟨h1, ?_⟩, fun id x c' _ h => ⟨c', h, rfl⟩⟩
  rintro (h | h)
  . exact h2 (.inl (by rw [hbanv]; exact .inl h))
  . rcases hownI x h with h | h
    . exact h2 (.inl (by rw [hbanv]; exact .inr h))
    . exact h2 (.inr h)
 refine ⟨⟨⟨?_, ?_, hst.sim.fresh, hst.sim.lt, zax I.sim.gH hSs, hst.sim.cW, hst.sim.fL⟩, hle, rfl, ?_, fun x hx h => hst.fi x hx (fun h' => h (hsubW x h')), hst.len, hst.dQ, hst.cW, hst.fL, hSs, rfl, rfl, ?_⟩, fun s v h => h.mono hext1, ?_⟩
 . intro id B h; rcases hcase id B h with ⟨hid, hm, h1⟩ | ⟨hm, h1⟩
   . rcases I.sim.blk id B h1 with h3 | ⟨x, c, h3, h4, h5, h6⟩
     . exact .inl ⟨hle _ _ h3.1, h3.2⟩
     . exact .inr ⟨x, c, hle _ _ h3, by rw [hst.fi x (ai.bh h4) (fun h => hhidden id B x h1 hm h3 h.toI)]; exact h4, by rw [hst.cW]; exact h5, h6.mono hext⟩
   . rcases hst.sim.blk id B h1 with h3 | ⟨x, c, h3, h4, h5, h6⟩
     . exact .inl h3
     . exact .inr ⟨x, c, h3, h4, fun hl => h5 (by rw [hst.gH]; exact hl), h6.mono hext1⟩
 . intro id id' B B' x h1 h2 h3 h4; have mix : ∀ id id' B B', S.get id = some B -> hidden (M) id = true -> φ1 id = some (some x) -> S1.get id' = some B' -> φ1 id' = some (some x) -> False := by
    intro id id' B B' g1 g2 g3 g4 g5; have g6 := hold id B x g1 g3; exact hhidden id B x g1 g2 g6 (hst.own x (I.sim.lt id x g6) ⟨id', B', g4, g5⟩)
   rcases hcase id B h1 with ⟨hid, hm, g1⟩ | ⟨hm, g1⟩
   . rcases hcase id' B' h2 with ⟨hid', hm', g2⟩ | ⟨hm', g2⟩
     . exact I.sim.inj id id' B B' x g1 g2 (hold id B x g1 h3) (hold id' B' x g2 h4)
     . exact (mix id id' B B' g1 hm h3 g2 h4).elim
   . rcases hcase id' B' h2 with ⟨hid', hm', g2⟩ | ⟨hm', g2⟩
     . exact (mix id' id B' B g2 hm' h4 g1 h3).elim
     . exact hst.sim.inj id id' B B' x g1 g2 h3 h4
 . intro x hx h; rcases hownI x h with h | h
   . exact h
   . exact hsub x (hst.own x hx h)
 . intro id h1 h2; refine hst.m7 id h1 ?_
   rcases h2 with h2 | h2
   . exact .inl h2
   . refine .inr ?_
     cases hg : (fB S M).get id with
     | none => rfl
     | some C => rw [(bG hg).1] at h2; cases h2
 . intro id B x h1 h2; rcases hcase id B h1 with ⟨hid, hm, g1⟩ | ⟨hm, g1⟩
   . exact .inl ⟨hid, ⟨B, g1⟩, hold id B x g1 h2⟩
   . by_cases hid : id < S.size
     . obtain ⟨C, g2⟩ := hseen id B hid hm g1; exact .inl ⟨hid, ⟨C, g2⟩, hold id C x g2 h2⟩
     . refine .inr ⟨by omega, aj.bh g1, ?_⟩; have hlt := hst.sim.lt id x h2
       by_cases hx : x < H.size
       . obtain ⟨id0, B0, g3, g4⟩ := hst.own x hx ⟨id, B, g1, h2⟩; obtain ⟨g5, g6⟩ := bG g3; exact .inr ⟨id0, B0, g5, g6, g4⟩
       . exact .inl ⟨by omega, hlt⟩
end
end
end
end Go.Proofs.YtdbkoeefnodejaaGreat.Ev
namespace Go.Proofs.YtdbkoeefnodejaaGreat.Ev
noncomputable section
noncomputable section
open Go
section
variable {R : Type} {P : Program} {L : List FuncId} {O : bj} {T : pb} {A : Array Nat} {base : Nat} {φ : Phi} {S : aj} {H : ai} {rsS : List dS} {rsE : List Rec}
theorem rF {H H' : ai} {t : TypeId} {x0 o : Nat} (h : H'.get x0 = H.get x0) : bX P H' t (.pointer (some ⟨x0, o, none⟩)) = bX P H t (.pointer (some ⟨x0, o, none⟩)) := by
 unfold bX cr; simp only [h]
theorem SR.ext {j id : Nat} {a : dS} (h : SR rsS j id) : SR (rsS ++ [a]) j id := by
 obtain ⟨r, h1, h2, h3⟩ := h; exact ⟨r, by rw [zaF (zal.1 h1).1]; exact h1, h2, h3⟩
theorem ER.ext {j x : Nat} {b : Rec} (h : ER rsE j x) : ER (rsE ++ [b]) j x := by
 obtain ⟨r, h1, h2, h3⟩ := h; exact ⟨r, by rw [zaF (zal.1 h1).1]; exact h1, h2, h3⟩
theorem bw {α : Type} {l : List α} {a x : α} {j : Nat} (h : (l ++ [a])[j]? = some x) : (j < l.length /\ l[j]? = some x) \/ (j = l.length /\ x = a) := by
 rw [zaU] at h
 split at h
 . rename_i hj; exact .inl ⟨hj, h⟩
 . rename_i hj; have hlt := (zal.1 h).1; have : j = l.length := by simp at hlt; omega
   subst this; simp at h; exact .inr ⟨rfl, h.symm⟩
theorem RI.add (I : RI P A base φ S H rsS rsE) {φ' : Phi} {S' : aj} {H' : ai} {a : dS} {b : Rec} (hst : Step φ S H φ' S' H') (hb0 : b.h0 = H) (hb1 : b.h1 = H') (ha0 : a.n0 = S.size) (ha1 : a.n1 = S'.size) (hk : kindOk a.kind b.kind)
 (hcorr : ∀ id B x, S'.get id = some B -> φ' id = some (some x) -> (id < S.size /\ (∃ B, S.get id = some B) /\ φ id = some (some x)) \/
  (S.size <= id /\ id < S'.size /\ ((H.size <= x /\ x < H'.size) \/ x < base \/ ∃ m, ER rsE m x /\ aW A rsS.length m = true)))
 (hld : a.kind = .load -> ∃ t p, b.ld = some (t, p) /\ (sx a.v = true -> eqv b.v b.v = true) /\ ∀ y, a.ld = some y -> ∃ x0 o, p = .pointer (some ⟨x0, o, none⟩) /\ φ' y = some (some x0) /\ (∃ B, S'.get y = some B) /\ bX P H' t p = some b.v)
 (hstill : ∀ y B x0, S.get y = some B -> φ y = some (some x0) -> (a.kind = .cE -> FJ a y = true) -> (∃ B', S'.get y = some B') /\ H'.get x0 = H.get x0)
 (hre : ∀ t p, a.re = some (t, p) -> ∃ pv, b.ld = some (t, pv) /\ DV φ' H' (Own φ' S') p pv /\ DV φ' H' (Own φ' S') a.v b.v) (hok : ∀ i ∈ a.ok, ∃ b' t pv v, rsE[i]? = some b' /\ b'.ld = some (t, pv) /\ bX P b.h1 t pv = some v /\ eqv b'.v v = true)
 (hlate : a.kind = .load -> ∀ y, a.ld = some y -> ∀ (j : Nat) (c : dS) (d : Rec), rsS[j]? = some c -> rsE[j]? = some d -> y < c.n0 -> calm rsS j rsS.length y -> ∃ t p, b.ld = some (t, p) /\ bX P (Ev.cA d.h0 (aW A rsS.length) (rsE.take j)) t p = some b.v) :
 RI P A base φ' S' H' (rsS ++ [a]) (rsE ++ [b]) := by
 have hl := I.len; have hext' := hst.ext I.sim; have hres : ∀ (i : Nat) (x : dS) (y : Rec) (t : TypeId) (p : SV), (rsS ++ [a])[i]? = some x -> (rsE ++ [b])[i]? = some y -> x.re = some (t, p) -> ∃ pv, y.ld = some (t, pv) /\ DV φ' H' (Own φ' S') p pv /\ DV φ' H' (Own φ' S') x.v y.v := by
  intro i x y t p h1 h2 h3; rcases bw h1 with ⟨g1, h1⟩ | ⟨g1, rfl⟩
  . rcases bw h2 with ⟨_, h2⟩ | ⟨g2, _⟩
    . obtain ⟨pv, q1, q2, q3⟩ := I.res i x y t p h1 h2 h3; exact ⟨pv, q1, q2.mono hext', q3.mono hext'⟩
    . omega
  . rcases bw h2 with ⟨g2, _⟩ | ⟨_, rfl⟩
    . omega
    . exact hre t p h3
 have hoks : ∀ (j : Nat) (c : dS) (d : Rec), (rsS ++ [a])[j]? = some c -> (rsE ++ [b])[j]? = some d -> ∀ i ∈ c.ok, i < j /\ ∃ b' t pv v, (rsE ++ [b])[i]? = some b' /\ b'.ld = some (t, pv) /\ bX P d.h1 t pv = some v /\ eqv b'.v v = true := by
  intro j c d h1 h2 i hi; have up : ∀ b', rsE[i]? = some b' -> i < rsE.length /\ (rsE ++ [b])[i]? = some b' := fun b' h => by
   have hlt := (zal.1 h).1; exact ⟨hlt, by rw [zaF hlt]; exact h⟩
  rcases bw h1 with ⟨g1, h1⟩ | ⟨g1, rfl⟩
  . rcases bw h2 with ⟨_, h2⟩ | ⟨g2, _⟩
    . obtain ⟨q0, b', t, pv, v, q1, q2⟩ := I.oks j c d h1 h2 i hi; exact ⟨q0, b', t, pv, v, (up b' q1).2, q2⟩
    . omega
  . rcases bw h2 with ⟨g2, _⟩ | ⟨_, rfl⟩
    . omega
    . obtain ⟨b', t, pv, v, q1, q2⟩ := hok i hi; exact ⟨by have := (up b' q1).1; omega, b', t, pv, v, (up b' q1).2, q2⟩
 have hback : ∀ (j : Nat) (c : dS) (d : Rec), (rsS ++ [a])[j]? = some c -> (rsE ++ [b])[j]? = some d -> ∀ y B x0, S'.get y = some B -> φ' y = some (some x0) -> y < c.n0 -> calm (rsS ++ [a]) j (rsS ++ [a]).length y -> d.h0.get x0 = H'.get x0 := by
  intro j c d h1 h2 y B x0 hB hx hy hc; have hj : j <= rsS.length := by
   have := (zal.1 h1).1; simp at this; omega
  have hold : y < S.size -> (∃ B0, S.get y = some B0) /\ φ y = some (some x0) := by
   intro hlt; rcases hcorr y B x0 hB hx with ⟨_, g2, g3⟩ | ⟨g1, _⟩
   . exact ⟨g2, g3⟩
   . omega
  have hnow : y < S.size -> H'.get x0 = H.get x0 := by
   intro hlt; obtain ⟨⟨B0, g1⟩, g2⟩ := hold hlt; exact (hstill y B0 x0 g1 g2 (fun hl2 => hc rsS.length a hj (by simp) (by simp) hl2)).2
  rcases bw h1 with ⟨g1, h1⟩ | ⟨g1, rfl⟩
  . rcases bw h2 with ⟨_, h2⟩ | ⟨g2, _⟩
    . have hs := I.ssz j c h1; have hlt : y < S.size := by omega
      obtain ⟨⟨B0, g3⟩, g4⟩ := hold hlt; rw [hnow hlt]; exact I.back j c d h1 h2 y B0 x0 g3 g4 hy (fun m q e1 e2 e3 e4 => hc m q e1 (by simp; omega) (by rw [zaF (zal.1 e3).1]; exact e3) e4)
    . omega
  . rcases bw h2 with ⟨g2, _⟩ | ⟨_, rfl⟩
    . omega
    . rw [hb0]; exact (hnow (by rw [<- ha0]; exact hy)).symm
 have hlates : ∀ (i : Nat) (x : dS) (y : Rec), (rsS ++ [a])[i]? = some x -> (rsE ++ [b])[i]? = some y -> x.kind = .load -> ∀ z, x.ld = some z -> ∀ (j : Nat) (c : dS) (d : Rec), j < i -> (rsS ++ [a])[j]? = some c -> (rsE ++ [b])[j]? = some d -> z < c.n0 -> calm (rsS ++ [a]) j i z ->
  ∃ t p, y.ld = some (t, p) /\ bX P (Ev.cA d.h0 (aW A i) ((rsE ++ [b]).take j)) t p = some y.v := by
  intro i x y h1 h2 hk2 z hz j c d hji h3 h4 hlt hc; have hi : i <= rsS.length := by
   have := (zal.1 h1).1; simp at this; omega
  have tk : (rsE ++ [b]).take j = rsE.take j := List.take_append_of_le_length (by omega); rw [tk]; have h5 : rsS[j]? = some c := by
   rcases bw h3 with ⟨_, h⟩ | ⟨h, _⟩
   . exact h
   . omega
  have h6 : rsE[j]? = some d := by
   rcases bw h4 with ⟨_, h⟩ | ⟨h, _⟩
   . exact h
   . omega
  have hc' : ∀ k, k <= i -> calm rsS j k z := fun k hk m q e1 e2 e3 e4 => hc m q e1 (by omega) (by rw [zaF (zal.1 e3).1]; exact e3) e4
  rcases bw h1 with ⟨g1, h1⟩ | ⟨g1, rfl⟩
  . rcases bw h2 with ⟨_, h2⟩ | ⟨g2, _⟩
    . exact I.MB i x y h1 h2 hk2 z hz j c d hji h5 h6 hlt (hc' i (zao _))
    . omega
  . rcases bw h2 with ⟨g2, _⟩ | ⟨_, rfl⟩
    . omega
    . subst g1; exact hlate hk2 z hz j c d h5 h6 hlt (hc' _ (zao _))
 refine ⟨hst.sim, by simp [hl], fun x hx => by rw [hst.ban]; exact I.ban x hx, ?_, ?_, ?_, ?_, zax I.MF hst.dQ, ?_, ?_, hres, hback, hlates, hoks⟩
 . intro id B x h1 h2; rcases hcorr id B x h1 h2 with ⟨_, ⟨B0, g2⟩, g3⟩ | ⟨g1, g2, g3⟩
   . rcases I.Lz id B0 x g2 g3 with h | ⟨j, m, h3, h4, h5⟩
     . exact .inl h
     . exact .inr ⟨j, m, h3.ext, h4.ext, h5⟩
   . have hnew : SR (rsS ++ [a]) rsS.length id := ⟨a, by simp, by rw [ha0]; exact g1, by rw [ha1]; exact g2⟩
     rcases g3 with g3 | g3 | ⟨m, g3, g4⟩
     . exact .inr ⟨rsS.length, rsS.length, hnew, ⟨b, by rw [hl]; simp, by rw [hb0]; exact g3.1, by rw [hb1]; exact g3.2⟩, .inl rfl⟩
     . exact .inl g3
     . exact .inr ⟨rsS.length, m, hnew, g3.ext, .inr g4⟩
 . intro j r h; rcases bw h with ⟨_, h⟩ | ⟨_, rfl⟩
   . obtain ⟨h1, h2, h3⟩ := I.esz j r h; exact ⟨h1, h2, zax h3 hst.dQ⟩
   . rw [hb0, hb1]; exact ⟨I.MF, hst.dQ, zao _⟩
 . intro j j' r r' hjj h h'; rcases bw h' with ⟨hlt, h'⟩ | ⟨_, rfl⟩
   . rcases bw h with ⟨_, h⟩ | ⟨h0, _⟩
     . exact I.HK j j' r r' hjj h h'
     . omega
   . rcases bw h with ⟨_, h⟩ | ⟨h0, _⟩
     . rw [hb0]; exact (I.esz j r h).2.2
     . omega
 . intro j r h; rcases bw h with ⟨_, h⟩ | ⟨_, rfl⟩
   . exact ⟨zax (I.ssz j r h).1 hst.ssize, zax (I.ssz j r h).2 hst.ssize⟩
   . exact ⟨by rw [ha0]; exact hst.ssize, by rw [ha1]; exact zao _⟩
 . intro j x y h1 h2; rcases bw h1 with ⟨g1, h1⟩ | ⟨g1, rfl⟩
   . rcases bw h2 with ⟨_, h2⟩ | ⟨g2, _⟩
     . exact I.kinds j x y h1 h2
     . omega
   . rcases bw h2 with ⟨g2, _⟩ | ⟨_, rfl⟩
     . omega
     . exact hk
 . intro i x y h1 h2 hkl; rcases bw h1 with ⟨g1, h1⟩ | ⟨g1, rfl⟩
   . rcases bw h2 with ⟨_, h2⟩ | ⟨g2, _⟩
     . obtain ⟨t, p, e1, e2, e3⟩ := I.Hj i x y h1 h2 hkl; refine ⟨t, p, e1, e2, fun z hz => ?_⟩; obtain ⟨x0, o, rfl, e4, e5, e6⟩ := e3 z hz; have key : calm (rsS ++ [a]) i rsS.length z -> (∃ B, S'.get z = some B) /\ bX P H' t (.pointer (some ⟨x0, o, none⟩)) = some y.v := by
        intro hc; have hc' : calm rsS i rsS.length z := fun j c h1 h2 h3 h4 => hc j c h1 h2 (by rw [zaF (zal.1 h3).1]; exact h3) h4
        obtain ⟨⟨B, f1⟩, f2⟩ := e5 hc'; obtain ⟨f3, f4⟩ := hstill z B x0 f1 e4 (fun hl => hc rsS.length a (by omega) (zao _) (by simp) hl); exact ⟨f3, by rw [rF f4]; exact f2⟩
       refine ⟨x0, o, rfl, hst.le _ _ e4, fun hc => key (fun j c h1 h2 h3 h4 => hc j c h1 (by simp; omega) h3 h4), fun k d hik hd hc => ?_⟩; rcases bw hd with ⟨f1, hd⟩ | ⟨f1, rfl⟩
       . exact e6 k d hik hd (fun j c h1 h2 h3 h4 => hc j c h1 h2 (by rw [zaF (zal.1 h3).1]; exact h3) h4)
       . rw [hb1]; exact (key (fun j c h1 h2 h3 h4 => hc j c h1 (by omega) h3 h4)).2
     . omega
   . rcases bw h2 with ⟨g2, _⟩ | ⟨_, rfl⟩
     . omega
     . obtain ⟨t, p, e1, e2, e3⟩ := hld hkl; refine ⟨t, p, e1, e2, fun z hz => ?_⟩; obtain ⟨x0, o, e4, e5, e6, e7⟩ := e3 z hz; refine ⟨x0, o, e4, e5, fun _ => ⟨e6, e7⟩, fun k d hik hd _ => ?_⟩; have := (zal.1 hd).1; simp at this; omega
theorem RI.same (I : RI P A base φ S H rsS rsE) {a : dS} {b : Rec} (hb0 : b.h0 = H) (hb1 : b.h1 = H) (ha0 : a.n0 = S.size) (ha1 : a.n1 = S.size) (hk : kindOk a.kind b.kind) (hnl : a.kind ≠ .cE)
 (hld : a.kind = .load -> ∃ t p, b.ld = some (t, p) /\ (sx a.v = true -> eqv b.v b.v = true) /\ ∀ y, a.ld = some y -> ∃ x0 o, p = .pointer (some ⟨x0, o, none⟩) /\ φ y = some (some x0) /\ (∃ B, S.get y = some B) /\ bX P H t p = some b.v)
 (hre : ∀ t p, a.re = some (t, p) -> ∃ pv, b.ld = some (t, pv) /\ DV φ H (Own φ S) p pv /\ DV φ H (Own φ S) a.v b.v) (hok : a.ok = [])
 (hlate : a.kind = .load -> ∀ y, a.ld = some y -> ∀ (j : Nat) (c : dS) (d : Rec), rsS[j]? = some c -> rsE[j]? = some d -> y < c.n0 -> calm rsS j rsS.length y -> ∃ t p, b.ld = some (t, p) /\ bX P (Ev.cA d.h0 (aW A rsS.length) (rsE.take j)) t p = some b.v) :
 RI P A base φ S H (rsS ++ [a]) (rsE ++ [b]) :=
 I.add (Step.refl I.sim) hb0 hb1 ha0 ha1 hk (fun id B x h1 h2 => .inl ⟨aj.bh h1, ⟨B, h1⟩, h2⟩) hld (fun y B x0 h1 _ _ => ⟨⟨B, h1⟩, rfl⟩) hre (fun i hi => by rw [hok] at hi; cases hi) hlate
theorem Hp {own : Nat -> Prop} {s : SV} {v : Value} (hv : DV φ H own s v) (h : AD s = true) : eqc v v = true := by
 cases hv <;> simp_all [AD, eqc]
theorem xd : ∀ {vs : List Value}, (∀ v ∈ vs, eqc v v = true) -> wW vs vs = true
 | [], _ => rfl
 | v :: vs, h => by
  simp only [wW, zab]; exact ⟨h v (by simp), xd (fun u hu => h u (by simp [hu]))⟩
theorem I5 {own : Nat -> Prop} {s : SV} {v : Value} (hv : DV φ H own s v) (h : sx s = true) : eqv v v = true := by
 cases hv with
 | agg l x' hx vx =>
  simp only [sx, zam] at h; simp only [eqv]; refine xd fun u hu => ?_
  obtain ⟨i, hi⟩ := zbB hu; have hlt : i < l.length := by
   have := (zal.1 hi).1; simp at this; omega
  have h1 := zae hlt; exact Hp (vx i _ u h1 (by simpa using hi)) (h _ (zaJ h1))
 | _ => simp_all [sx, AD, eqv, eqc]
theorem AW {own : Nat -> Prop} {p : SV} {v : Value} {y : Nat} (hp : DV φ H own p v) (h : nS p = some y) : ∃ x0 o, v = .pointer (some ⟨x0, o, none⟩) /\ φ y = some (some x0) := by
 unfold nS at h
 split at h
 . cases h; cases hp with
   | ptr _ _ _ _ x hx => exact ⟨x, _, rfl, hx⟩
 . cases h
theorem uo {t : TypeId} {p : SV} {k : SV -> Option R} {r : R} {y : Nat} (h : rY P S t p k = some r) (hy : nS p = some y) : ∃ B, S.get y = some B := by
 unfold nS at hy
 split at hy
 . cases hy; unfold rY at h
   split at h
   . unfold D1 at h; simp only at h
     split at h
     . exact ⟨_, by assumption⟩
     . exact ⟨_, by assumption⟩
     . exact ⟨_, by assumption⟩
     . cases h
   . cases h
 . cases hy
theorem wO {p : Nat -> Bool} {t u : TypeId} {s x v : Value} {H2 : ai} (h : ev P (cA H p rsE) t u s x = some (v, H2)) : ev P H t u s x = some (v, ct H H2) := by
 have hc : ∀ b off n cs, cr (cA H p rsE) b off n = some cs -> cr H b off n = some cs := by
  intro b off n cs hg; unfold cr at hg ⊢; cases hb : (cA H p rsE).get b with
  | none => simp [hb] at hg
  | some q => rw [(lZ hb).1]; simpa [hb] using hg
 have hs : ∀ size n x cs, aZ (cA H p rsE) size n x = some cs -> aZ H size n x = some cs := by
  intro size n x cs h; unfold aZ at h ⊢
  split at h
  . exact h
  . exact hc _ _ _ _ h
  . cases h
 have hset : ∀ b off vs H', dE (cA H p rsE) b off vs = some H' -> False := by
  intro b off vs H' h; unfold dE at h
  split at h
  . rename_i k hk; have hlt : b < H.size := ai.bh (H := cA H p rsE) hk
    split at h
    . rename_i hm; simp only [zab, aL] at hm; have : H.size <= b := hm.1.1; omega
    . cases h
  . cases h
 unfold ev at h ⊢
 split at h
 . rename_i htu; rw [if_pos htu]
   split at h
   . rename_i elem base sLen sCap a n c hu
     try simp only [hu]
     split at h
     . rename_i i hi
       try simp only [hi]
       split at h
       . rename_i z hz
         try simp only [hz]
         split at h
         . rename_i zc new hzc hnew
           try simp only [hzc, hs _ _ _ _ hnew]
           split at h
           . rename_i hcond; rw [if_pos hcond]
             split at h
             . cases h; rfl
             . split at h
               . cases h; rfl
               . rename_i b off sp
                 split at h
                 . rename_i hd; simp only [zag] at h; obtain ⟨H', h1, _⟩ := h; exact (hset _ _ _ _ h1).elim
                 . rename_i hd
                   try simp only [hd]
                   split at h
                   . rename_i old hold
                     try simp only [hs _ _ _ _ hold]
                     split at h
                     . split at h
                       . rename_i k hk; have hlt : b < H.size := ai.bh (H := cA H p rsE) hk
                         split at h
                         . rename_i hm; simp only [zab, aL] at hm; have : H.size <= b := hm.1.1.1.1; omega
                         . cases h
                       . cases h
                     . cases h; rfl
                   . cases h
           . cases h
         . cases h
       . cases h
     . cases h
   . cases h
 . cases h
theorem pH {p : Nat -> Bool} {cl : Cl} {ρ : Operand -> Option Value} {o : Oper} (ha : iT o = true) {v : Value} {H2 : ai} (h : opE P cl ρ o (cA H p rsE) = some (v, H2)) : opE P cl ρ o H = some (v, ct H H2) := by
 unfold iT at ha
 split at ha
 . rename_i c hc; unfold opE at h ⊢; rw [hc] at h ⊢
   split at ha
   . rename_i hb
     try simp only [hb] at h ⊢
     split at h
     . rename_i args hargs
       try simp only [gJ] at h ⊢
       split at h
       . exact wO h
       . cases h
     . cases h
   . cases ha
 . cases ha
theorem rK {own : Nat -> Prop} {a b : SV} {u v : Value} {x : Option R} {r : R} (ha : DV φ H own a u) (hb : DV φ H own b v) (h : E2 a b x = some r) : x = some r /\ eqc u v = true := by
 unfold E2 at h
 split at h
 . split at h
   . rename_i n k' m bb hk; cases ha; cases hb
     by_cases e : n = m
     . subst e; rw [zad rfl, zaG] at h; exact ⟨h, by simp only [eqc, hk, zba, beq_self_eq_true]⟩
     . rw [zaL e, zap] at h; cases h
   . cases h
 . cases ha; cases hb; rename_i x y; cases x <;> cases y <;> simp at h <;> exact ⟨h, rfl⟩
 . cases h
theorem rX {own : Nat -> Prop} : ∀ {l m : List SV} {us vs : List Value} {x : Option R} {r : R}, us.length = l.length -> (∀ (i : Nat) s u, l[i]? = some s -> us[i]? = some u -> DV φ H own s u) -> vs.length = m.length -> (∀ (i : Nat) s v, m[i]? = some s -> vs[i]? = some v -> DV φ H own s v) -> xy l m x = some r -> x = some r /\ wW us vs = true
 | [], [], us, vs, x, r, h1, _, h2, _, h => by
  rw [zau h1, zau h2]; exact ⟨h, rfl⟩
 | a :: l, b :: m, u :: us, v :: vs, x, r, h1, g1, h2, g2, h => by
  unfold xy at h; obtain ⟨h3, h4⟩ := rK (g1 0 a u rfl rfl) (g2 0 b v rfl rfl) h; obtain ⟨h5, h6⟩ := rX (by simpa using h1) (fun i s w e1 e2 => g1 (i + 1) s w e1 e2) (by simpa using h2) (fun i s w e1 e2 => g2 (i + 1) s w e1 e2) h3; exact ⟨h5, by simp only [wW, h4, h6, zb9]⟩
 | [], _ :: _, _, _, _, _, _, _, _, _, h => by simp [xy] at h
 | _ :: _, [], _, _, _, _, _, _, _, _, h => by simp [xy] at h
 | _ :: _, _ :: _, [], _, _, _, h1, _, _, _, _ => by simp at h1
 | _ :: _, _ :: _, _ :: _, [], _, _, _, _, h2, _, _ => by simp at h2
theorem GA {u v : Value} (h : eqc u v = true) : eqv u v = true := by
 unfold eqv
 split
 . simp [eqc] at h
 . exact h
theorem B3 {own : Nat -> Prop} {a b : SV} {u v : Value} {x : Option R} {r : R} (ha : DV φ H own a u) (hb : DV φ H own b v) (h : IK a b x = some r) : x = some r /\ eqv u v = true := by
 unfold IK at h
 split at h
 . split at h
   . cases ha with
     | agg l x1 hx vx =>
     cases hb with
     | agg m x2 hy vy =>
     exact rX (by simpa using hx.symm) (fun i s u e1 e2 => vx i s u e1 (by simpa using e2)) (by simpa using hy.symm) (fun i s u e1 e2 => vy i s u e1 (by simpa using e2)) h
   . cases h
 . obtain ⟨h1, h2⟩ := rK ha hb h; exact ⟨h1, GA h2⟩
theorem ny {φ' : Phi} {S' : aj} {H' : ai} (I : RI P A base φ S H rsS rsE) (he : Ext φ H (Own φ S) φ' H' (Own φ' S')) (hS : Sim φ' S' H') {j : Nat} : ∀ {l : List dS} {i : Nat} {k : List Nat -> Option R} {r : R}, l = rsS.drop i -> reS P S' A j l i k = some r ->
 ∃ oks, k oks = some r /\ ∀ m ∈ oks, ∃ b t pv v, rsE[m]? = some b /\ b.ld = some (t, pv) /\ bX P H' t pv = some v /\ eqv b.v v = true
 | [], i, k, r, _, h => ⟨[], h, fun m hm => by cases hm⟩
 | a :: l, i, k, r, hl, h => by
  have ha : rsS[i]? = some a := by
   have : (rsS.drop i)[0]? = some a := by rw [<- hl]; rfl
   rwa [zay, zbd] at this
  have hl' : l = rsS.drop (i + 1) := by rw [<- List.drop_drop, <- hl]; rfl
  unfold reS at h
  split at h
  . rename_i t p hre
    split at h
    . exact ny I he hS hl' h
    . have hi : i < rsE.length := by rw [<- I.len]; exact (zal.1 ha).1
      obtain ⟨pv, q1, q2, q3⟩ := I.res i a _ t p ha (zae hi) hre; obtain ⟨s, u, g1, g2, g3⟩ := j6 hS (q2.mono he) h; obtain ⟨h5, h6⟩ := B3 (q3.mono he) g2 g3; obtain ⟨oks, h7, h8⟩ := ny I he hS hl' h5; refine ⟨i :: oks, h7, fun m hm => ?_⟩; rcases zaV.1 hm with rfl | hm
      . exact ⟨_, t, pv, u, zae hi, q1, g1, h6⟩
      . exact h8 m hm
  . exact ny I he hS hl' h
theorem FF {φ' : Phi} {S' : aj} {H' : ai} (I : RI P A base φ S H rsS rsE) (he : Ext φ H (Own φ S) φ' H' (Own φ' S')) (hS : Sim φ' S' H') {j : Nat} {o : Oper} {k : List Nat -> Option R} {r : R} (h : reL P S' A j o rsS k = some r) :
 ∃ oks, k oks = some r /\ ∀ m ∈ oks, ∃ b t pv v, rsE[m]? = some b /\ b.ld = some (t, pv) /\ bX P H' t pv = some v /\ eqv b.v v = true := by
 unfold reL at h
 split at h
 . exact ⟨[], h, fun m hm => by cases hm⟩
 . exact ny I he hS (by simp) h
theorem sy {cx : oW R} (hT : dC P L O T) (hcx : nJ P L O cx) {ops : Array Oper} (htr : tI A ops.size) : ∀ {l : List Oper} {i : Nat} {fr : List SV} {S : aj} {rsS : List dS} {k : SSt -> Option R} {r : R} {φ : Phi} {H : ai} {rsE : List Rec} {fv : List Value},
 md P L T cx ops A l i ⟨fr, S⟩ rsS k = some r -> RI P A base φ S H rsS rsE -> DVL φ H (Own φ S) fr fv -> rsS.length = i -> i + l.length = ops.size ->
 ∃ φ' fr' S' fv' H' rsS' rsE', k ⟨fr', S'⟩ = some r /\ RI P A base φ' S' H' rsS' rsE' /\ Step φ S H φ' S' H' /\ DVL φ' H' (Own φ' S') fr' fv' /\ vm A (eU ops) rsS' = true /\
  ∃ N, eS P L (bs P L O N) ops A l i ⟨fv, H⟩ rsE = some (⟨fv', H'⟩, rsE')
 | [], i, fr, S, rsS, k, r, φ, H, rsE, fv, h, I, hf, hi, hn => by
  unfold md at h
  split at h
  . rename_i hl; exact ⟨φ, fr, S, fv, H, rsS, rsE, h, I, Step.refl I.sim, hf, hl, 0, rfl⟩
  . cases h
 | o :: l, i, fr, S, rsS, k, r, φ, H, rsE, fv, h, I, hf, hi, hn => by
  unfold md at h; have hilt : i < ops.size := by simp at hn; omega
  have hlen : rsS.length <= ops.size := by omega
  have step : ∀ {φ1 : Phi} {fr1 : List SV} {S1 : aj} {H1 : ai} {fv1 : List Value} {a : dS} {b : Rec}, RI P A base φ1 S1 H1 (rsS ++ [a]) (rsE ++ [b]) -> Step φ S H φ1 S1 H1 -> DVL φ1 H1 (Own φ1 S1) fr1 fv1 ->
   (∃ N, dW P L (bs P L O N) ops A i o ⟨fv, H⟩ rsE = some b) -> b.h1 = H1 -> fv1 = gI fv o.dst b.v -> md P L T cx ops A l (i + 1) ⟨fr1, S1⟩ (rsS ++ [a]) k = some r ->
   ∃ φ' fr' S' fv' H' rsS' rsE', k ⟨fr', S'⟩ = some r /\ RI P A base φ' S' H' rsS' rsE' /\ Step φ S H φ' S' H' /\ DVL φ' H' (Own φ' S') fr' fv' /\ vm A (eU ops) rsS' = true /\
    ∃ N, eS P L (bs P L O N) ops A (o :: l) i ⟨fv, H⟩ rsE = some (⟨fv', H'⟩, rsE') := by
   rintro φ1 fr1 S1 H1 fv1 a b I1 hst hf1 ⟨N, hrec⟩ rfl rfl hd
   obtain ⟨φ', fr', S', fv', H', rsS', rsE', g1, g2, g3, g4, g5, M, g6⟩ := sy hT hcx htr hd I1 hf1 (by simp [hi]) (by simp at hn ⊢; omega); refine ⟨φ', fr', S', fv', H', rsS', rsE', g1, g2, hst.trans g3, g4, g5, max N M, ?_⟩; rw [eS, oJ (cQ (Nat.le_max_left N M)) hrec]; exact jq (cQ (Nat.le_max_right N M)) g6
  obtain ⟨fr1, hf1, ⟨hw, h⟩ | ⟨hw, h⟩⟩ := tO hf h
  . have hρ : ∀ x s, gW fr1 x = some s -> ∃ v, cR fv x = some v /\ DV φ H (Own φ S) s v := fun x s hs => iO hf1 hs
    split at h
    ·
     rename_i hk; obtain ⟨s, S1, v, H1, ⟨N, ho⟩, _, hpure, hd, _⟩ := kS (L := L) hT hcx I.sim hρ (fun hp => absurd hk hp) h; obtain ⟨rfl, hv⟩ := hpure hk; exact step (a := ⟨.pure, S1.size, S1.size, none, none, .any, none, [], []⟩) (b := ⟨.pure, v, H, H, none⟩) (I.same rfl rfl rfl rfl trivial (by simp) (fun h => by cases h) (fun _ _ h => by cases h) rfl (fun h => by cases h)) (Step.refl I.sim) (iL hf1 o.dst hv) ⟨N, by unfold dW; simp only [hw, hk, ho]⟩ rfl rfl hd
    ·
     rename_i hk
     split at h
     . rename_i t a hop
       split at h
       . rename_i p hp; obtain ⟨pv, hpv, hdp⟩ := hρ a p hp; obtain ⟨he, hs⟩ := I.cA htr hilt hlen; obtain ⟨s, u, g1, g2, g3⟩ := j6 hs (hdp.mono he) h; have hfull : bX P H t pv = some u /\ DV φ H (Own φ S) s u := by
          have hmono : bX P H t pv = some u := by
           unfold bX at g1 ⊢
           split at g1
           . split at g1
             . rename_i hu hinf; have hc : ∀ b off n cs, cr (Ev.cA H (aW A i) rsE) b off n = some cs -> cr H b off n = some cs := by
                intro b off n cs hg; unfold cr at hg ⊢; cases hb : (Ev.cA H (aW A i) rsE).get b with
                | none => simp [hb] at hg
                | some q => rw [(lZ hb).1]; simpa [hb] using hg
               split at g1
               . rename_i ha
                 try simp only [ha]
                 simp only [zag] at g1 ⊢; obtain ⟨cs, c1, c2⟩ := g1; exact ⟨cs, hc _ _ _ _ c1, c2⟩
               . rename_i ha
                 try simp only [ha]
                 split at g1
                 . rename_i hcs; rw [hc _ _ _ _ hcs]; exact g1
                 . cases g1
             . cases g1
           . cases g1
          refine ⟨hmono, DV.mono (φ := φ.lH S) (φ' := φ) (H' := H) (own' := Own φ S) ⟨fun _ _ h => h, fun x c h1 h2 => ⟨(lZ h1).1, fun h3 => h2 (.inl h3)⟩, fun id x c' _ h => ⟨c', h, rfl⟩⟩ g2⟩
         have hlate : ∀ y, nS p = some y -> ∀ (j : Nat) (c : dS) (d : Rec), rsS[j]? = some c -> rsE[j]? = some d -> y < c.n0 -> calm rsS j rsS.length y -> ∃ t' p', some (t, pv) = some (t', p') /\ bX P (Ev.cA d.h0 (aW A rsS.length) (rsE.take j)) t' p' = some u := by
          intro y hy j c d hc hd hlt hcalm; obtain ⟨x0, o', e1, e2⟩ := AW hdp hy; obtain ⟨B, hB⟩ := uo h hy; obtain ⟨hB1, hB2⟩ := eK hB; have hv := I.seen htr hilt hlen hB1 hB2 e2; have hbk := I.back j c d hc hd y B x0 hB1 e2 hlt hcalm; refine ⟨t, pv, rfl, ?_⟩; subst e1; rw [rF (H := Ev.cA H (aW A i) rsE) ?_]
          . exact g1
          . rcases I.sim.blk y B hB1 with ⟨q1, _⟩ | ⟨x1, cc, q1, q2, _⟩
            . rw [e2] at q1; cases q1
            . rw [e2] at q1; cases q1; rw [sm q2 hv, hi]; exact sm (by rw [hbk]; exact q2) (A9 hv)
         exact step (a := ⟨.load, S.size, S.size, nS p, none, s, some (t, p), [], []⟩) (b := ⟨.load, u, H, H, some (t, pv)⟩) (I.same rfl rfl rfl rfl trivial (by simp) (fun _ => ⟨t, pv, rfl, fun hself => I5 hfull.2 hself, fun y hy => by
          obtain ⟨x0, o, e1, e2⟩ := AW hdp hy; refine ⟨x0, o, e1, e2, ?_, hfull.1⟩; obtain ⟨B, hB⟩ := uo h hy; exact ⟨B, (eK hB).1⟩⟩) (fun t' p' h => by cases h; exact ⟨pv, rfl, hdp, hfull.2⟩) rfl (fun _ y hy j c d hc hd hlt hcalm => hlate y hy j c d hc hd hlt hcalm)) (Step.refl I.sim) (iL hf1 o.dst hfull.2) ⟨0, by unfold dW; simp only [hw, hk, hop, hpv, g1]⟩ rfl rfl g3
       . cases h
     . cases h
    ·
     rename_i hk
     split at h
     . obtain ⟨he, hs⟩ := I.cA htr hilt hlen; obtain ⟨s, S1, v, H1, ⟨N, ho⟩, ⟨φ1, hst, hv⟩, _, hd, _⟩ := kS (L := L) hT hcx hs (fun x s hs => by
        obtain ⟨v, h1, h2⟩ := hρ x s hs; exact ⟨v, h1, h2.mono he⟩) (fun _ e => absurd e (pU _ _ _ _)) h
       have hfr := m9 (Bv hT.1 N) ho; obtain ⟨u1, u2, u3, u4, u5⟩ := I.ct hst hfr; have hext := u1.ext I.sim; refine step (φ1 := ⟨φ1.m, φ.ban⟩) (S1 := bN S S1) (H1 := Ev.ct H H1) (a := ⟨.quiet, S.size, S1.size, none, none, .any, none, [], []⟩) (b := ⟨.quiet, v, H, Ev.ct H H1, none⟩) ?_ u1 (iL (hf1.mono hext) o.dst (u2 s v hv)) ⟨N, by unfold dW; simp only [hw, hk, ho]⟩ rfl rfl hd; refine I.add u1 rfl rfl rfl rfl trivial (fun id B x h1 h2 => ?_) (fun h => by cases h) (fun y B x0 h1 h2 _ => ⟨⟨B, by rw [u5 y (aj.bh h1)]; exact h1⟩, u3 x0 (I.sim.lt y x0 h2)⟩) (fun _ _ h => by cases h) (fun _ h => by cases h) (fun h => by cases h); rcases u4 id B x h1 h2 with ⟨g1, g2, g3⟩ | ⟨g1, g2, g3, g4⟩
       . exact .inl ⟨g1, ⟨B, g2⟩, g3⟩
       . exact .inr ⟨g1, g2, .inl ⟨g3, g4⟩⟩
     ·
      rename_i hq; obtain ⟨he, hs⟩ := I.P0 (eV (aW A i) rsS 0); obtain ⟨s, S1, v, H1, ⟨N, ho⟩, ⟨φ1, hst, hv⟩, _, hd, _⟩ := kS (L := L) hT hcx hs (fun x s hs => by
       obtain ⟨v, h1, h2⟩ := hρ x s hs; exact ⟨v, h1, h2.mono he⟩) (fun _ e => absurd e (pU _ _ _ _)) h
      obtain ⟨u1, u2, u3⟩ := I.HU (fun id h => I.Pj _ h) hst; have hext := u1.ext I.sim; have happ : iT o = true := by
       unfold G9 at hq
       split at hq
       . rename_i c hc
         split at hq
         . rename_i hb _; unfold iT; rw [hc]; simp only [hb]
         . cases hq
       . cases hq
      have hrec : ∃ b : Rec, (∃ N, dW P L (bs P L O N) ops A i o ⟨fv, H⟩ rsE = some b) /\ b.h0 = H /\ b.h1 = H1 /\ b.v = v /\ kindOk .cE b.kind := by
       cases hv2 : opE P (bs P L O N) (cR fv) o (Ev.cA H (aW A i) rsE) with
       | none => exact ⟨⟨.cE, v, H, H1, none⟩, ⟨N, by unfold dW; simp only [hw, hk, hv2, happ, za7, ho]⟩, rfl, rfl, rfl, trivial⟩
       | some q =>
        obtain ⟨v2, H2⟩ := q; have := pH happ hv2; rw [ho] at this; cases this; exact ⟨⟨.quiet, v, H, Ev.ct H H2, none⟩, ⟨N, by unfold dW; simp only [hw, hk, hv2]⟩, rfl, rfl, rfl, trivial⟩
      obtain ⟨b, hrec, hb0, hb1, hbv, hbk⟩ := hrec; refine step (φ1 := ⟨φ1.m, φ.ban⟩) (S1 := bN S S1) (H1 := H1) (a := ⟨.cE, S.size, S1.size, none, none, .any, none, [], []⟩) (b := b) ?_ u1 (iL (hf1.mono hext) o.dst (u2 s v hv)) hrec hb1 (by rw [hbv]) hd; refine I.add u1 hb0 hb1 rfl rfl hbk (fun id B x h1 h2 => ?_) (fun h => by cases h) (fun y B x0 h1 h2 h3 => by have h4 := h3 rfl; simp [FJ, hidden] at h4) (fun _ _ h => by cases h) (fun _ h => by cases h) (fun h => by cases h); rcases u3 id B x h1 h2 with h | ⟨g1, g2, g3 | ⟨id0, B0, g3, g4, g5⟩⟩
      . exact .inl h
      . exact .inr ⟨g1, g2, .inl g3⟩
      . refine .inr ⟨g1, g2, .inr ?_⟩; rcases I.Lz id0 B0 x g3 g5 with g6 | ⟨j, m, ⟨r0, q1, q2, q3⟩, g7, g8⟩
        . exact .inl g6
        . refine .inr ⟨m, g7, ?_⟩; have hij : aW A i j = true := by
           cases hp : aW A i j with
           | true => rfl
           | false =>
            have := (ji (aW A i) rsS 0 id0).2 ⟨j, r0, q1, by rw [zaD]; exact hp, q2, q3⟩; rw [this] at g4; cases g4
          have hjn : j < ops.size := by
           have := (zal.1 q1).1; omega
          rw [hi]; rcases g8 with rfl | g8
          . exact hij
          . exact htr i j m hilt hjn hij g8
    ·
     rename_i hk; obtain ⟨he, hs⟩ := I.P0 (qU S fr1 o ++ eV (aW A i) rsS 0); obtain ⟨s, S1, v, H1, ⟨N, ho⟩, ⟨φ1, hst, hv⟩, _, hd, hstore⟩ := kS (L := L) hT hcx hs (fun x s hs => by
      obtain ⟨v, h1, h2⟩ := hρ x s hs; exact ⟨v, h1, h2.mono he⟩) (fun _ e => by
      have e : (qU S fr1 o ++ eV (aW A i) rsS 0) ++ S.hid = [] := e; simp only [List.append_eq_nil_iff] at e; exact (pU _ _ _ [] (by rw [zaK]; exact e.1.2)).elim) h
     obtain ⟨u1, u2, u3⟩ := I.HU (fun id h => iq (Hr h) (I.Pj _ h)) hst; have hext := u1.ext I.sim; obtain ⟨oks, hd, hoks⟩ := FF I hext u1.sim hd; refine step (φ1 := ⟨φ1.m, φ.ban⟩) (S1 := bN S S1) (H1 := H1) (b := ⟨.cE, v, H, H1, none⟩) ?_ u1 (iL (hf1.mono hext) o.dst (u2 s v hv)) ⟨N, by unfold dW; simp only [hw, hk, ho]⟩ rfl rfl hd; refine I.add u1 rfl rfl rfl rfl trivial (fun id B x h1 h2 => ?_) (fun h => by cases h) (fun y B x0 h1 h2 h3 => ?_) (fun _ _ h => by cases h) hoks (fun h => by cases h)
     . rcases u3 id B x h1 h2 with h | ⟨g1, g2, g3 | ⟨id0, B0, g3, g4, g5⟩⟩
       . exact .inl h
       . exact .inr ⟨g1, g2, .inl g3⟩
       . refine .inr ⟨g1, g2, .inr ?_⟩; rcases I.Lz id0 B0 x g3 g5 with g6 | ⟨j, m, ⟨r0, q1, q2, q3⟩, g7, g8⟩
         . exact .inl g6
         . refine .inr ⟨m, g7, ?_⟩; have hij : aW A i j = true := by
            cases hp : aW A i j with
            | true => rfl
            | false =>
             have := (ji (aW A i) rsS 0 id0).2 ⟨j, r0, q1, by rw [zaD]; exact hp, q2, q3⟩; rw [(gj g4).2] at this; cases this
           have hjn : j < ops.size := by
            have := (zal.1 q1).1; omega
           rw [hi]; rcases g8 with rfl | g8
           . exact hij
           . exact htr i j m hilt hjn hij g8
     . have hfar := h3 rfl; unfold FJ at hfar; rw [zbf] at hfar; rcases hfar with hfar | hfar
       case inr =>
        have hnone : (fB S (qU S fr1 o ++ eV (aW A i) rsS 0)).get y = none := by
         cases hg : (fB S (qU S fr1 o ++ eV (aW A i) rsS 0)).get y with
         | none => rfl
         | some C =>
          have := (gj (bG hg).2).1; have hfar : hidden (qU S fr1 o) y = true := hfar; rw [hfar] at this; cases this
        have hno : ¬ mB (φ.lH S) (fB S (qU S fr1 o ++ eV (aW A i) rsS 0)) x0 := by
         rintro ⟨id', B', _, q2, q3⟩
         have := I.sim.inj id' y B' B x0 (bG q2).1 h1 q3 h2; subst this; rw [q2] at hnone; cases hnone
        have hroot := hst.m7 y (show y < S.size from aj.bh h1) (.inr hnone); refine ⟨⟨B, ?_⟩, hst.fi x0 (I.sim.lt y x0 h2) hno⟩; obtain ⟨r1, r2⟩ := aj.aN h1; exact (aj.eE (S := bN S S1) (show y < S1.size from zat (aj.bh h1) hst.ssize) r2).trans (hroot.trans r1)
       obtain ⟨z, hz, hzy⟩ : ∃ z, (match o.op with | .store _ a _ => (match gW fr1 a with | some p => nS p | none => none) | _ => none) = some z /\ z ≠ y := by
        split at hfar
        . rename_i z hz; exact ⟨z, hz, by simpa using hfar⟩
        . cases hfar
       have hz2 : (match o.op with | .store _ a _ => (match gW fr1 a with | some p => nS p | none => none) | _ => none) = some z := hz; clear hz
       split at hz2
       . rename_i t a x hop
         split at hz2
         . rename_i p hp; obtain ⟨id, row, w, col, B', xz, rfl, rfl, g3, ⟨B0, g4⟩, g5⟩ := hstore t a x p hop hp; have hz3 : id = z := zbC hz2; subst hz3; have g6 := (bG g4).1; have hne : x0 ≠ xz := by
            rintro rfl
            exact hzy (I.sim.inj id y B0 B x0 g6 h1 g3 h2)
           refine ⟨⟨B, ?_⟩, g5 x0 hne⟩; obtain ⟨r1, r2⟩ := aj.aN h1; refine (aj.eE (S := bN S ((fB S (qU S fr1 o ++ eV (aW A i) rsS 0)).put id (some B'))) (show y < S.size from aj.bh h1) r2).trans ?_
           show ((fB S (qU S fr1 o ++ eV (aW A i) rsS 0)).put id (some B')).root.get y = some B; rw [aj.cz, if_neg (Ne.symm hzy)]; exact r1
         . cases hz2
       . cases hz2
  . exact step (a := ⟨.pure, S.size, S.size, none, none, .any, none, [], []⟩) (b := ⟨.pure, undef, H, H, none⟩) (I.same rfl rfl rfl rfl trivial (by simp) (fun h => by cases h) (fun _ _ h => by cases h) rfl (fun h => by cases h)) (Step.refl I.sim) (iL hf1 o.dst DV.undef) ⟨0, by unfold dW; simp only [hw]⟩ rfl rfl h
end
end
end
end Go.Proofs.YtdbkoeefnodejaaGreat.Ev
namespace Go.Proofs.YtdbkoeefnodejaaGreat.Ev
noncomputable section
noncomputable section
open Go
section
variable {R : Type} {P : Program} {L : List FuncId} {O : bj} {T : pb} {A : Array Nat} {base : Nat} {φ : Phi} {S : aj} {H : ai} {rsS : List dS} {rsE : List Rec}
theorem vo {B : Nat -> Bool} (I : RI P A base φ S H rsS rsE) (h : vm A B rsS = true) : nA P A B rsE = true := by
 unfold nA; rw [zam]
 rintro ⟨b, i⟩ hb
 rw [zam]
 rintro ⟨d, j⟩ hd
 have hbi : rsE[i]? = some b := by
  have := za1.1 hb; simpa using this
 have hdj : rsE[j]? = some d := by
  have := za1.1 hd; simpa using this
 have hi : i < rsS.length := by rw [I.len]; exact (zal.1 hbi).1
 have hj : j < rsS.length := by rw [I.len]; exact (zal.1 hdj).1
 have ha := zae hi; have hc := zae hj; generalize rsS[i] = a at ha; generalize rsS[j] = c at hc; have k1 := I.kinds i a b ha hbi; have k2 := I.kinds j c d hc hdj; have hp : zz A B rsS i a j c = true := by
  unfold vm at h; rw [zam] at h; have h := h (a, i) (za1.2 (by simpa using ha)); rw [zam] at h; exact h (c, j) (za1.2 (by simpa using hc))
 simp only; unfold vz; cases hdk : d.kind with
 | cE =>
  have hck : c.kind = .cE := by
   rw [hdk] at k2; cases hck : c.kind <;> rw [hck] at k2 <;> first | rfl | exact k2.elim
  unfold zz at hp; rw [hck] at hp; simp only at hp ⊢; cases hbk : b.kind with
  | pure => rfl
  | load =>
   have hak : a.kind = .load := by
    rw [hbk] at k1; cases hak : a.kind <;> rw [hak] at k1 <;> first | rfl | exact k1.elim
   rw [hak] at hp; simp only [zbf] at hp ⊢; rcases hp with hp | hp | (hp | hp) | hp
   . exact .inl (.inl hp)
   . exact .inl (.inr hp)
   . refine .inr ?_
     obtain ⟨hij, b', t, pv, v, e1, e2, e3, e4⟩ := I.oks j c d hc hdj i (by simpa using hp); rw [hbi] at e1; cases e1; rw [e2]; simp only; rw [if_neg (by omega), e3]; exact e4
   . refine .inr ?_
     simp only [zab, zac] at hp; obtain ⟨hij, hp⟩ := hp; obtain ⟨t, p, e1, e2, e3⟩ := I.Hj i a b ha hbi hak
     split at hp
     . rename_i y hy; simp only [zab, zam] at hp; obtain ⟨hself, hall⟩ := hp; obtain ⟨x0, o, rfl, _, _, e6⟩ := e3 y hy; have hcalm : calm rsS i j y := by
        intro m q h1 h2 h3 h4; have hmem : q ∈ (rsS.take (j + 1)).drop i := by
         refine zaJ (i := m - i) ?_
         rw [zay, zaq, if_pos (by omega), show i + (m - i) = m by omega]; exact h3
        have := hall q hmem; rw [h4] at this; exact this
       rw [e1]; simp only; rw [if_neg (by omega), e6 j d hij hdj hcalm]; exact e2 hself
     . cases hp
   . refine .inr ?_
     simp only [zab, zac] at hp; obtain ⟨hij, hp⟩ := hp
     split at hp
     . rename_i y hy; simp only [zab, zam, zac] at hp; obtain ⟨⟨hself, hyn⟩, hall⟩ := hp; have hcalm : calm rsS j i y := by
        intro m q h1 h2 h3 h4; have hmem : q ∈ (rsS.take (i + 1)).drop j := by
         refine zaJ (i := m - j) ?_
         rw [zay, zaq, if_pos (by omega), show j + (m - j) = m by omega]; exact h3
        have := hall q hmem; rw [h4] at this; exact this
       obtain ⟨t, p, e1, e2⟩ := I.MB i a b ha hbi hak y hy j c d hij hc hdj hyn hcalm; obtain ⟨_, _, _, e3, _⟩ := I.Hj i a b ha hbi hak; rw [e1]; simp only; rw [if_pos hij, e2]; exact e3 hself
     . cases hp
  | quiet =>
   have hak : a.kind = .quiet \/ a.kind = .cE := by
    rw [hbk] at k1; cases hak : a.kind <;> rw [hak] at k1 <;> first | exact .inl rfl | exact .inr rfl | exact k1.elim
   simp only; rcases hak with hak | hak <;> (rw [hak] at hp; dsimp only at hp)
   . simpa [Bool.or_assoc] using hp
   . rw [<- Bool.or_assoc] at hp; rw [hp, Bool.true_or]
  | cE =>
   have hak : a.kind = .cE := by
    rw [hbk] at k1; cases hak : a.kind <;> rw [hak] at k1 <;> first | rfl | exact k1.elim
   simp only; rw [hak] at hp; simpa [Bool.or_assoc] using hp
 | _ => rfl
theorem Step.HD {b : Nat -> Prop} (hb : ∀ x, φ.ban x -> b x) {φ' : Phi} {S' : aj} {H' : ai} (hst : Step ⟨φ.m, b⟩ S H φ' S' H') :
 Step φ S H ⟨φ'.m, φ.ban⟩ S' H' /\ ∀ s v, DV φ' H' (Own φ' S') s v -> DV ⟨φ'.m, φ.ban⟩ H' (Own ⟨φ'.m, φ.ban⟩ S') s v := by
 have hext : Ext φ' H' (Own φ' S') ⟨φ'.m, φ.ban⟩ H' (Own ⟨φ'.m, φ.ban⟩ S') := by
  refine ⟨fun _ _ h => h, fun x c h1 h2 => ⟨h1, fun h => h2 ?_⟩, fun id x c' _ h => ⟨c', h, rfl⟩⟩; rcases h with h | h
  . exact .inl (by rw [hst.ban]; exact hb x h)
  . exact .inr h
 refine ⟨⟨⟨?_, hst.sim.inj, hst.sim.fresh, hst.sim.lt, hst.sim.gH, hst.sim.cW, hst.sim.fL⟩, hst.le, rfl, hst.own, hst.fi, hst.len, hst.dQ, hst.cW, hst.fL, hst.ssize, hst.gH, hst.wG, hst.m7⟩, fun s v h => h.mono hext⟩; intro id B h; rcases hst.sim.blk id B h with h3 | ⟨x, c, h3, h4, h5, h6⟩
 . exact .inl h3
 . exact .inr ⟨x, c, h3, h4, h5, h6.mono hext⟩
theorem Sim.HD (hS : Sim φ S H) {b : Nat -> Prop} (hb : ∀ x, b x -> φ.ban x \/ H.size <= x) :
 Ext φ H (Own φ S) ⟨φ.m, b⟩ H (Own ⟨φ.m, b⟩ S) /\ Sim ⟨φ.m, b⟩ S H := by
 have hext : Ext φ H (Own φ S) ⟨φ.m, b⟩ H (Own ⟨φ.m, b⟩ S) := by
  refine ⟨fun _ _ h => h, fun x c h1 h2 => ⟨h1, fun h => ?_⟩, fun id x c' _ h => ⟨c', h, rfl⟩⟩; have hlt := ai.bh h1; rcases h with h | h
  . rcases hb x h with h | h
    . exact h2 (.inl h)
    . omega
  . exact h2 (.inr h)
 refine ⟨hext, ⟨?_, hS.inj, hS.fresh, hS.lt, hS.gH, hS.cW, hS.fL⟩⟩; intro id B h; rcases hS.blk id B h with h3 | ⟨x, c, h3, h4, h5, h6⟩
 . exact .inl h3
 . exact .inr ⟨x, c, h3, h4, h5, h6.mono hext⟩
theorem Bm {cx : oW R} (hT : dC P L O T) (hcx : nJ P L O cx) {ops : Array Oper} {fr : List SV} {fv : List Value} {k : SSt -> Option R} {r : R} (hS : Sim φ S H) (hf : DVL φ H (Own φ S) fr fv)
 (hst : gF ops (Region.before ops) fr.length = true) (htr : tq (Region.before ops) ops.size = true) (h : md P L T cx ops (Region.before ops) ops.toList 0 ⟨fr, S⟩ [] k = some r) :
 ∃ φ' fr' S' fv' H', k ⟨fr', S'⟩ = some r /\ Step φ S H φ' S' H' /\ DVL φ' H' (Own φ' S') fr' fv' /\ ∃ N, jG P L (bs P L O N) ops ⟨fv, H⟩ = some ⟨fv', H'⟩ := by
 have hb : ∀ x, (φ.ban x \/ H.size <= x) -> φ.ban x \/ H.size <= x := fun _ h => h
 obtain ⟨he, hs⟩ := hS.HD (b := fun x => φ.ban x \/ H.size <= x) hb; have I : RI P (Region.before ops) H.size ⟨φ.m, fun x => φ.ban x \/ H.size <= x⟩ S H [] [] := by
  refine ⟨hs, rfl, fun x hx => .inr hx, fun id B x _ h => .inl (hS.lt id x h), ?_, ?_, ?_, zao _, ?_, ?_, ?_, ?_, ?_, ?_⟩
  all_goals (intros; simp_all)
 obtain ⟨φ', fr', S', fv', H', rsS', rsE', g1, g2, g3, g4, g5, N, g6⟩ := sy hT hcx (CA htr) h I (hf.mono he) rfl (by simp); obtain ⟨h1, h2⟩ := Step.HD (φ := φ) (b := fun x => φ.ban x \/ H.size <= x) (fun x hx => .inl hx) g3; refine ⟨⟨φ'.m, φ.ban⟩, fr', S', fv', H', g1, h1, ⟨g4.1, fun i s v a b => h2 s v (g4.2 i s v a b)⟩, N, ?_⟩; unfold jG; rw [show (⟨fv, H⟩ : St).fr.length = fr.length from hf.1.symm, hst]; simp only [g6, vo g2 g5, za7]
theorem iM {cx : oW R} (hT : dC P L O T) (hcx : nJ P L O cx) {stop : List Nat -> Bool} {body : Code} : ∀ {n : Nat} {its : List Item} {fr : List SV} {S : aj} {k : List Item -> SSt -> Option R} {r : R} {φ : Phi} {H : ai} {fv : List Value},
 fC P L T cx stop n its ⟨fr, S⟩ k = some r -> cT body its -> NBh φ S H -> Sim φ S H -> DVL φ H (Own φ S) fr fv ->
 ∃ its' φ' fr' S' fv' H', k its' ⟨fr', S'⟩ = some r /\ cT body its' /\ Step φ S H φ' S' H' /\ DVL φ' H' (Own φ' S') fr' fv' /\ ∀ rv w, jf P L O rv its' ⟨fv', H'⟩ w -> jf P L O rv its ⟨fv, H⟩ w
 | 0, _, _, _, _, _, _, _, _, h, _, _, _, _ => by cases h
 | n + 1, its, fr, S, k, r, φ, H, fv, h, ha, hnb, hS, hf => by
  unfold fC at h; have same : ∀ {its2 : List Item}, cT body its2 -> fC P L T cx stop n its2 ⟨fr, S⟩ k = some r -> (∀ q, cF P L O its2 ⟨fv, H⟩ q -> cF P L O its ⟨fv, H⟩ q) ->
   ∃ its' φ' fr' S' fv' H', k its' ⟨fr', S'⟩ = some r /\ cT body its' /\ Step φ S H φ' S' H' /\ DVL φ' H' (Own φ' S') fr' fv' /\ ∀ rv w, jf P L O rv its' ⟨fv', H'⟩ w -> jf P L O rv its ⟨fv, H⟩ w := by
   intro its2 ha2 h2 hm; obtain ⟨i, φ', fr', S', fv', H', h1, h2, h3, h4, h5⟩ := iM hT hcx h2 ha2 hnb hS hf; exact ⟨i, φ', fr', S', fv', H', h1, h2, h3, h4, fun rv w hw => (h5 rv w hw).of hm⟩
  split at h
  . exact ⟨[], φ, fr, S, fv, H, h, ha, Step.refl hS, hf, fun _ _ h => h⟩
  . rename_i p c rest; have hc : nav body p = some c := by
     have := ha (.code p c) (by simp); simp only [Item.tag, Tag.item] at this; cases hn : nav body p with
     | none => rw [hn] at this; cases this
     | some c' => rw [hn] at this; cases this; rfl
    split at h
    . exact ⟨_, φ, fr, S, fv, H, h, ha, Step.refl hS, hf, fun _ _ h => h⟩
    split at h
    . exact same ha.tail h (fun q => .skip)
    . exact same ha.tail h (fun q => .label)
    . rename_i id ops d
      split at h
      . obtain ⟨φ1, fr1, S1, fv1, H1, g1, g2, g3, g4⟩ := oP hT hcx hnb hS hf h; obtain ⟨i, φ', fr', S', fv', H', h1, h2, h3, h4, h5⟩ := iM hT hcx g1 ha.tail (hnb.step g2) g2.sim g3; exact ⟨i, φ', fr', S', fv', H', h1, h2, g2.trans h3, h4, fun rv w hw => (h5 rv w hw).of fun q hq => .region (g4 _ q hq)⟩
      . split at h
        . rename_i hst; simp only [zab] at hst; obtain ⟨φ1, fr1, S1, fv1, H1, g1, g2, g3, g4⟩ := Bm hT hcx hS hf hst.1 hst.2 h; obtain ⟨i, φ', fr', S', fv', H', h1, h2, h3, h4, h5⟩ := iM hT hcx g1 ha.tail (hnb.step g2) g2.sim g3; exact ⟨i, φ', fr', S', fv', H', h1, h2, g2.trans h3, h4, fun rv w hw => (h5 rv w hw).of fun q hq => .draw g4 hq⟩
        . cases h
    . rename_i a b; exact same (.cons (by simp [Item.tag, Tag.item, nav, hc, child]) (.cons (by simp [Item.tag, Tag.item, nav, hc, child]) ha.tail)) h (fun q => .seq)
    . rename_i x a b
      split at h
      . rename_i t hx; obtain ⟨v, hv, hd⟩ := iO hf hx; cases hd
        split at h
        . exact same (.cons (by simp [Item.tag, Tag.item, nav, hc, child]) ha.tail) h (fun q => .cond (t := true) hv)
        . exact same (.cons (by simp [Item.tag, Tag.item, nav, hc, child]) ha.tail) h (fun q => .cond (t := false) hv)
      . cases h
    . rename_i id b; exact same (.cons (by simp [Item.tag, Tag.item, nav, hc, child]) (.cons (by simp [Item.tag, Tag.item]) ha.tail)) h (fun q => .block)
    . rename_i b; exact same (.cons (by simp [Item.tag, Tag.item, nav, hc, child]) ha.tail) h (fun q => .loop)
    . split at h
      . rename_i id r' hr; exact same (cT.leave hr ha.tail) h (fun q => .exit hr)
      . cases h
    . refine ⟨[], φ, fr, S, fv, H, h, (fun _ hi => by cases hi), Step.refl hS, hf, fun rv w hw => ?_⟩; obtain ⟨q, ⟨N, h1⟩, h2⟩ := hw; rw [bS] at h1; cases h1; exact ⟨_, .ret, h2⟩
    . cases h
  . rename_i p b rest; have hb : nav body (0 :: p) = some b := by
     have := ha (.lp p b) (by simp); simp only [Item.tag, Tag.item] at this; cases hn : nav body (0 :: p) with
     | none => rw [hn] at this; cases this
     | some c' => rw [hn] at this; cases this; rfl
    split at h
    . exact ⟨_, φ, fr, S, fv, H, h, ha, Step.refl hS, hf, fun _ _ h => h⟩
    . exact same (.cons (by simp only [Item.tag, Tag.item, hb]; rfl) ha) h (fun q => .round)
  . exact same ha.tail h (fun q => .blk)
  . cases h
theorem iH (hS : Sim φ S H) {fr : List SV} {fv : List Value} (hf : DVL φ H (Own φ S) fr fv) : ∀ {rv : List ResultVar} {k : List SV -> Option R} {r : R}, pt P S fr rv k = some r ->
 ∃ ss vs, eg P H fv rv = some vs /\ DVL φ H (Own φ S) ss vs /\ k ss = some r
 | [], k, r, h => ⟨[], [], rfl, .nil, h⟩
 | .tmp t :: rv, k, r, h => by
  obtain ⟨ss, vs, h1, h2, h3⟩ := iH hS hf (rv := rv) h; obtain ⟨v, h4, h5⟩ := iO (x := .tmp t) hf rfl; cases h4; exact ⟨_, _, by simp only [eg, h1], .cons h5 h2, h3⟩
 | .cell a t :: rv, k, r, h => by
  obtain ⟨v, h4, h5⟩ := iO (x := .tmp a) hf rfl; cases h4; obtain ⟨s, u, g1, g2, g3⟩ := j6 hS h5 h; obtain ⟨ss, vs, h1, h2, h3⟩ := iH hS hf (rv := rv) g3; exact ⟨_, _, by simp only [eg, g1, h1], .cons g2 h2, h3⟩
theorem sf {own : Nat -> Prop} {ss : List SV} {vs : List Value} (h : DVL φ H own ss vs) : DV φ H own (mU ss) (k8 vs) := by
 match ss, vs, h with
 | [], vs, h =>
  rw [h.nC]; exact .tup [] #[] rfl (fun i s v h => by simp at h)
 | [s], vs, h =>
  obtain ⟨v, rfl, h1⟩ := h.one; exact h1
 | a :: b :: ss, vs, h =>
  obtain ⟨v, vs1, rfl, h1, h2⟩ := h.gq; obtain ⟨w, vs2, rfl, h3, h4⟩ := h2.gq; exact .tup _ _ (by simpa using h.1) (fun i s v g1 g2 => h.2 i s v g1 (by simpa using g2))
theorem xI {own : Nat -> Prop} {args : List SV} {vs : List Value} (h : DVL φ H own args vs) (n : Nat) : DVL φ H own (args ++ List.replicate (n - args.length) (.tup [])) (vs ++ List.replicate (n - vs.length) undef) := by
 rw [h.1]; refine h.append ⟨by simp, fun i s v h1 h2 => ?_⟩; rw [List.getElem?_replicate] at h1 h2
 split at h1
 . rename_i hi; rw [if_pos hi] at h2; cases h1; cases h2; exact DV.undef
 . cases h1
theorem ry {kn : FuncId -> Bool} (hkn : ∀ g, kn g = false -> ∀ args H, O g args H = none) (hT : dC P L O T) : ∀ (n : Nat), nJ P L O (rL (R := R) P L T kn n)
 | 0, _, _, _, _, _, h, _, _, _, _, _, _ => by cases h
 | n + 1, g, args, S, k, r, h, φ, H, vs, hnb, hS, hd => by
  unfold rL at h
  split at h
  . cases h
  rename_i hk0
  split at h
  . rename_i fn hg
    split at h
    . rename_i c hb; obtain ⟨its, φ', fr', S', fv', H', hk, _, hst, hf, hm⟩ := iM hT (ry hkn hT n) h te hnb hS (xI hd fn.ntmps)
      split at hk
      . obtain ⟨ss, vs', g1, g2, g3⟩ := iH hst.sim hf hk; have hw : jf P L O fn.results.toList [] ⟨fv', H'⟩ (k8 vs', H') := ⟨(.normal, ⟨fv', H'⟩), .nil, by simp only [fin, g1]; rfl⟩
        obtain ⟨N, hN⟩ := jj (hkn g hk0 _ _) hg hb (hm _ _ hw); exact ⟨mU ss, S', N, k8 vs', H', hN, ⟨φ', hst, sf g2⟩, g3⟩
      . cases hk
    . cases h
  . cases h
end
end
end
end Go.Proofs.YtdbkoeefnodejaaGreat.Ev
namespace Go.Proofs.YtdbkoeefnodejaaGreat.Ev
noncomputable section
noncomputable section
open Go
inductive Un where
 | i (n : Int)
 | b (x : Bool)
 | l (xs : List Int)
 | d (xs : List Dat)
inductive VP where
 | any
 | int (k : IntKind)
 | bool
 | gR
 | dV
 | kX
 | ptr (j w col : Nat)
 | np (j w col : Nat)
 | buf (j w : Nat)
 | sl (j w : Nat)
 | ints (k : IntKind)
 | ag (l : List Sch)
 | dpt (l : List Sch)
 | fn (g : Nat) (x y : List VP)
 | agg (l : List VP)
mutual
def VP.size : VP -> Nat
 | .int _ => 1
 | .np _ _ _ => 1
 | .sl _ _ => 2
 | .bool => 1
 | .ints _ => 1
 | .ag _ => 1
 | .dpt _ => 1
 | .fn _ x y => VP.kW x + VP.kW y
 | .agg l => VP.kW l
 | _ => 0
def VP.kW : List VP -> Nat
 | [] => 0
 | p :: ps => p.size + VP.kW ps
end
mutual
def VP.to : VP -> List Un -> SV
 | .any, _ => .any
 | .int k, .i n :: _ => .i k n
 | .bool, .b x :: _ => .b x
 | .gR, _ => .gR
 | .dV, _ => .dV
 | .kX, _ => .kX
 | .ptr j w col, _ => .ptr j 0 w col
 | .np j w col, .i n :: _ => .np j w col n
 | .buf j w, _ => .buf j w false
 | .sl j w, .i off :: .i len :: _ => .sl j off.toNat len.toNat w
 | .ints k, .l xs :: _ => .deep (.ints k xs)
 | .ag s, .d xs :: _ => .deep (.ag s xs)
 | .dpt s, .d xs :: _ => .dp (.ag s xs) 0 0
 | .fn g x y, us => .fn g (VP.tos x us) (VP.tos y (us.drop (VP.kW x)))
 | .agg l, us => .agg (VP.tos l us)
 | _, _ => .any
def VP.tos : List VP -> List Un -> List SV
 | [], _ => []
 | p :: ps, us => p.to us :: VP.tos ps (us.drop p.size)
end
abbrev Sub := List (Nat × Option Nat)
def Sub.get : Sub -> Nat -> Option (Option Nat)
 | [], _ => none
 | (j, x) :: r, k => if k = j then some x else Sub.get r k
def Sub.bind (σ : Sub) (j : Nat) (x : Option Nat) : Option Sub :=
 match σ.get j with
 | none => some ((j, x) :: σ)
 | some y => match x, y with
  | some a, some b => if a = b then some σ else none
  | none, none => some σ
  | _, _ => none
def seen : SV -> Sub -> Option Sub
 | .buf id _ _, σ => σ.bind (1000000 + id) (some id)
 | .sl id _ _ _, σ => σ.bind (1000000 + id) (some id)
 | _, σ => some σ
def yX (S : aj) (k : IntKind) : SV -> Option (List Int)
 | .dV => some []
 | .deep (.ints k' xs) => if k = k' then some xs else none
 | .buf id w ex => match mf S (.buf id w ex) with | some (.ints k' xs) => if k = k' then some xs else none | _ => none
 | .sl id off len w => match mf S (.sl id off len w) with | some (.ints k' xs) => if k = k' then some xs else none | _ => none
 | _ => none
def zC (S : aj) (l : List Sch) : SV -> Option (List Dat)
 | .dV => some []
 | .deep (.ag l' xs) => match ee l l' with | true => some xs | false => none
 | .buf id w ex => match mf S (.buf id w ex) with | some (.ag l' xs) => (match ee l l' with | true => some xs | false => none) | _ => none
 | .sl id off len w => match mf S (.sl id off len w) with | some (.ag l' xs) => (match ee l l' with | true => some xs | false => none) | _ => none
 | _ => none
def Ak (S : aj) : Sch -> SV -> Option Dat
 | .int k, .i k' n => if k = k' then some (.n n) else none
 | .bool, .b x => some (.n (bif x then 1 else 0))
 | .ints k, s => (match yX S k s with | some xs => some (.r (xs.map .n)) | none => none)
 | .ag l, s => (match zC S l s with | some xs => some (.r xs) | none => none)
 | _, _ => none
def EP (S : aj) : List Sch -> List SV -> Option (List Dat)
 | [], [] => some []
 | a :: l, s :: ss => (match Ak S a s, EP S l ss with | some d, some r => some (d :: r) | _, _ => none)
 | _, _ => none
def D5 : List SV -> Sub -> Option Sub
 | [], σ => some σ
 | s :: ss, σ => (match seen s σ with | some τ => D5 ss τ | none => none)
section
variable (S : aj)
mutual
def VP.of : VP -> SV -> Sub -> Option (List Un × Sub)
 | .any, _, σ => some ([], σ)
 | .int k, .i k' n, σ => if k = k' then some ([.i n], σ) else none
 | .bool, .b x, σ => some ([.b x], σ)
 | .gR, .gR, σ => some ([], σ)
 | .dV, .dV, σ => some ([], σ)
 | .kX, .kX, σ => some ([], σ)
 | .ptr j w col, .ptr id row w' col', σ => if row = 0 /\ w = w' /\ col = col' /\ j < 1000000 then (match σ.bind j (some id) with | some τ => some ([], τ) | none => none) else none
 | .np _ _ _, .gR, σ => some ([.i (-1)], σ)
 | .np j w col, .ptr id row w' col', σ => if w = w' /\ col = col' /\ j < 1000000 then (match σ.bind j (some id) with | some τ => some ([.i (row : Int)], τ) | none => none) else none
 | .np j w col, .np id w' col' n, σ => if w = w' /\ col = col' /\ j < 1000000 then (match σ.bind j (some id) with | some τ => some ([.i n], τ) | none => none) else none
 | .buf j w, .buf id w' _, σ => if w = w' /\ j < 1000000 then (match σ.bind j (some id) with | some τ => some ([], τ) | none => none) else none
 | .sl j w, .sl id off len w', σ => if w = w' /\ j < 1000000 then (match σ.bind j (some id) with | some τ => some ([.i (off : Int), .i (len : Int)], τ) | none => none) else none
 | .buf j _, .dV, σ => if j < 1000000 then (match σ.bind j none with | some τ => some ([], τ) | none => none) else none
 | .ints k, s, σ => (match yX S k s, seen s σ with | some xs, some τ => some ([.l xs], τ) | _, _ => none)
 | .ag l, s, σ => (match zC S l s, seen s σ with | some xs, some τ => some ([.d xs], τ) | _, _ => none)
 | .dpt l, .dp c row col, σ => if row = 0 /\ col = 0 then (match c with | .ag l' xs => (match ee l l' with | true => some ([.d xs], σ) | false => none) | _ => none) else none
 | .dpt l, .ptr id row w col, σ => if row = 0 /\ col = 0 then (match S.get id with
  | some (.cells cs) => (match EP S l cs, D5 (.buf id w true :: cs) σ with | some r, some τ => some ([.d [.r r]], τ) | _, _ => none)
  | _ => none) else none
 | .fn g x y, .fn g' x' y', σ => if g = g' then
  (match VP.ofs x x' σ with
   | some (a, τ) => (match VP.ofs y y' τ with | some (c, υ) => some (a ++ c, υ) | none => none)
   | none => none) else none
 | .agg l, .agg l', σ => VP.ofs l l' σ
 | _, _, _ => none
def VP.ofs : List VP -> List SV -> Sub -> Option (List Un × Sub)
 | [], [], σ => some ([], σ)
 | p :: ps, s :: ss, σ =>
  (match p.of s σ with
   | some (a, τ) => (match VP.ofs ps ss τ with | some (c, υ) => some (a ++ c, υ) | none => none)
   | none => none)
 | _, _, _ => none
end
end
inductive BP where
 | cells (l : List VP)
 | ints (k : IntKind)
 | ag (l : List Sch)
 | dJ (j w col : Nat)
 | gone
def BP.size : BP -> Nat
 | .cells l => VP.kW l
 | .gone => 0
 | _ => 1
def BP.to : BP -> List Un -> Option aO
 | .cells l, us => some (.cells (VP.tos l us))
 | .ints k, .l xs :: _ => some (.cont (.ints k xs))
 | .ag s, .d xs :: _ => some (.cont (.ag s xs))
 | .dJ j w col, .l xs :: _ => some (.dJ j w col xs)
 | .gone, _ => none
 | _, _ => some (.cells [])
def BP.of (S : aj) : BP -> aO -> Sub -> Option (List Un × Sub)
 | .cells l, .cells l', σ => VP.ofs S l l' σ
 | .ints k, .cont (.ints k' xs), σ => if k = k' then some ([.l xs], σ) else none
 | .ag l, .cont (.ag l' xs), σ => (match ee l l' with | true => some ([.d xs], σ) | false => none)
 | .dJ j w col, .dJ id w' col' xs, σ => if w = w' /\ col = col' /\ j < 1000000 then (match σ.bind j (some id) with | some τ => some ([.l xs], τ) | none => none) else none
 | _, _, _ => none
mutual
def VP.Jh : VP -> List Un
 | .int _ => [.i 0]
 | .np _ _ _ => [.i (-1)]
 | .sl _ _ => [.i 0, .i 0]
 | .bool => [.b false]
 | .ints _ => [.l []]
 | .ag _ => [.d []]
 | .dpt _ => [.d []]
 | .fn _ x y => VP.vY x ++ VP.vY y
 | .agg l => VP.vY l
 | _ => []
def VP.vY : List VP -> List Un
 | [] => []
 | p :: ps => p.Jh ++ VP.vY ps
end
def BP.nil : BP -> List Un
 | .cells l => VP.vY l
 | .ints _ => [.l []]
 | .ag _ => [.d []]
 | .dJ _ _ _ => [.l []]
 | .gone => []
def BP.hJ : BP -> Bool
 | .gone => true
 | _ => false
def mW (S : aj) : Nat -> List BP -> Sub -> Option (List Un × Sub)
 | _, [], σ => some ([], σ)
 | j, p :: ps, σ =>
  match p.hJ with
  | true => mW S (j + 1) ps σ
  | false =>
   match σ.get j with
   | some (some id) =>
    (match S.get id with
     | some B => (match p.of S B σ with
      | some (a, τ) => (match mW S (j + 1) ps τ with | some (c, υ) => some (a ++ c, υ) | none => none)
      | none => none)
     | none => none)
   | some none => (match mW S (j + 1) ps σ with | some (c, υ) => some (p.nil ++ c, υ) | none => none)
   | none => (match mW S (j + 1) ps ((j, none) :: σ) with | some (c, υ) => some (p.nil ++ c, υ) | none => none)
def cY : List BP -> List Un -> List (Option aO)
 | [], _ => []
 | p :: ps, us => p.to us :: cY ps (us.drop p.size)
def aj.nT (S : aj) (b : Option aO) : aj := { S with size := S.size + 1, root := S.root.put b (S.size + 1) S.size }
def fI (l : List (Option aO)) : aj := l.foldl aj.nT ⟨0, .e, 0, []⟩
def Sub.keys (σ : Sub) (n lk lock : Nat) : Bool := σ.all fun p => decide (1000000 <= p.1) || (decide (p.1 < n) && (match p.2 with | some id => (decide (p.1 < lk) || decide (lock <= id)) | none => true))
def Sub.apart : Sub -> Bool
 | [] => true
 | (j, x) :: r => (match x with
  | some a => r.all fun p => (match p.2 with | some c => a != c | none => true) || p.1 == j
  | none => true) && Sub.apart r
def idn (K : List Nat) : Sub := K.map fun j => (j, some j)
structure Pn where
 LC : List VP
 bQ : List BP
 lk : Nat
def Pn.size (p : Pn) : Nat := VP.kW p.LC
def Pn.of (p : Pn) (σ0 : Sub) (vs : List SV) (S : aj) : Option (List Un × Sub) :=
 match VP.ofs S p.LC vs σ0 with
 | some (a, σ) =>
  (match mW S 0 p.bQ σ with
   | some (c, τ) => if Sub.keys τ p.bQ.length p.lk S.lock = true /\ Sub.apart τ = true /\ (p.bQ.length <= 1000000 /\ p.lk <= p.bQ.length) /\ (σ0.all fun q => decide (q.1 < p.bQ.length)) = true then some (a ++ c, τ) else none
   | none => none)
 | none => none
def Pn.eP (p : Pn) (us : List Un) : List SV := VP.tos p.LC us
def Pn.cd (p : Pn) (us : List Un) : aj := { fI (cY p.bQ (us.drop p.size)) with lock := p.lk }
def bA (en ex : Pn) : List Nat := (List.range en.bQ.length).filter fun j => match ex.bQ[j]? with | some b => !b.hJ | none => false
def Sub.le (σ τ : Sub) : Prop := ∀ j x, σ.get j = some x -> τ.get j = some x
theorem Sub.le_refl (σ : Sub) : Sub.le σ σ := fun _ _ h => h
theorem Sub.le_trans {a b c : Sub} (h : Sub.le a b) (k : Sub.le b c) : Sub.le a c := fun j x hx => k j x (h j x hx)
theorem Sub.jk {σ τ : Sub} {j : Nat} {x : Option Nat} (h : σ.bind j x = some τ) : Sub.le σ τ /\ τ.get j = some x := by
 unfold Sub.bind at h
 split at h
 . rename_i hn; cases h; refine ⟨fun k y hk => ?_, by simp [Sub.get]⟩; simp only [Sub.get]
   split
   . rename_i e; subst e; rw [hn] at hk; cases hk
   . exact hk
 . rename_i y hy
   split at h
   . split at h
     . rename_i e; cases h; subst e; exact ⟨Sub.le_refl _, hy⟩
     . cases h
   . cases h; exact ⟨Sub.le_refl _, hy⟩
   . cases h
section
variable {φ : Phi} {S : aj} {H : ai}
def Phi.sub (φ : Phi) (ban : Nat -> Prop) (τ : Sub) (n : Nat) : Phi := ⟨fun j => if j < n then (match τ.get j with | some (some id) => φ id | some none => some none | none => none) else none, ban⟩
def flat : SV -> Prop
 | .i _ _ => True
 | .b _ => True
 | .deep _ => True
 | _ => False
theorem Gv (s : Sch) (d : Dat) : flat (pQ s d) := by cases s <;> trivial
theorem iS {c : aF} {r j : Nat} {s : SV} (h : (c.row r)[j]? = some s) : flat s := by
 cases c with
 | ints k xs =>
  simp only [aF.row] at h; cases j with
  | zero => simp at h; subst h; trivial
  | succ j => simp at h
 | ag l xs =>
  simp only [aF.row] at h; rw [fY] at h; cases hl : l[j]? with
  | none => rw [hl] at h; cases h
  | some sc => rw [hl] at h; cases h; exact Gv _ _
theorem DV.lS {own own' : Nat -> Prop} {φ' : Phi} (ho : ∀ x, own' x -> own x) {s : SV} {v : Value} (h : DV φ H own s v) : flat s -> DV φ' H own' s v := by
 induction h with
 | i k n => intro _; exact .i k n
 | b x => intro _; exact .b x
 | cy c h => intro _; exact .cy c h
 | deep c x o sp cap blk hs hc hb hx hl _ ih =>
  intro _; exact .deep c x o sp cap blk hs hc hb (fun h => hx (ho x h)) hl (fun r hr j s hj v hv => ih r hr j s hj v hv (iS hj))
 | _ => intro h; exact h.elim
theorem jr (hS : Sim φ S H) {s : SV} {v : Value} {c : aF} (hv : DV φ H (Own φ S) s v) (h : mf S s = some c) (hs : ∀ c, s ≠ .deep c) {φ' : Phi} {own' : Nat -> Prop}
 (hcell : ∀ s v, flat s -> DV φ H (Own φ S) s v -> DV φ' H own' s v) (hout : ∀ id x, (∃ B, S.get id = some B) -> φ id = some (some x) -> (∃ w ex, s = .buf id w ex) \/ (∃ o n w, s = .sl id o n w) -> ¬ own' x) : DV φ' H own' (.deep c) v := by
 have reg : ∀ (c : aF) (x o : Nat) (sp : Option Nat) (cap : Nat) (blk : Blk), H.get x = some blk -> Rgn φ H (Own φ S) c blk.cells o -> c.len <= cap -> (sp = none \/ sp = some c.w) -> ¬ own' x -> DV φ' H own' (.deep c) (.slice (some ⟨x, o, sp⟩) c.len cap) := by
  intro c x o sp cap blk hb hr hc hsp hx; exact .deep c x o sp cap blk hsp hc hb hx hr.1 (fun r hr' j s hs v hv => hcell s v (iS hs) (hr.2 r hr' j s hs v hv))
 unfold mf at h
 split at h
 . rename_i id w ex
   split at h
   . rename_i d hB
     split at h
     . rename_i hw; simp only [zab, zaE, zac] at hw; cases h; cases hv with
       | buf _ _ _ x n sp hx hn hsp =>
        rcases hS.blk _ _ hB with ⟨h0, _⟩ | ⟨y, d, h1, h2, _, h4⟩
        . rw [hx] at h0; cases h0
        . rw [hx] at h1; cases h1; have e1 := hn d (ai.aN h2).1; have e2 := h4.1; have : n = c.len := by
           rw [e1, hw.1] at e2; exact zbJ (by omega) e2
          subst this; refine reg c x 0 sp _ d h2 (BV.rgn h4) (zao _) ?_ (hout id x ⟨_, hB⟩ hx (.inl ⟨w, ex, rfl⟩)); rcases hsp with h | ⟨_, h, _⟩
          . exact .inl h
          . exact .inr (by rw [h, hw.1])
       | dx _ _ hx =>
        rcases hS.blk _ _ hB with ⟨_, h0⟩ | ⟨y, d, h1, _⟩
        . exact .cy _ h0
        . rw [hx] at h1; cases h1
     . cases h
   . cases h
 . rename_i id off len w
   split at h
   . rename_i d hB
     split at h
     . rename_i hw; simp only [zab, zaE, zac] at hw; cases h; cases hv with
       | sl _ _ _ _ x o sp cap hx ho hsp hc hin =>
        rcases hS.blk _ _ hB with ⟨h0, _⟩ | ⟨y, b, h1, h2, _, h4⟩
        . rw [hx] at h0; cases h0
        . rw [hx] at h1; cases h1; obtain ⟨i1, i2⟩ := hin b (ai.aN h2).1; have e2 := h4.1; have hle : off + len <= d.len := by
           rw [e2, hw.1, <- za8] at i2; exact Nat.le_of_mul_le_mul_right i2 (by omega)
          have hcut := (BV.rgn h4).cut hle; have hl := d.iF hle; have hsp' : sp = none \/ sp = some (d.cut off len).w := by rw [d.Es, <- hw.1]; exact hsp
          have hx' := hout id x ⟨_, hB⟩ hx (.inr ⟨off, len, w, rfl⟩); rcases ho with h0 | h0
          . subst h0; have := reg (d.cut off 0) x o sp cap b h2 ⟨by rw [hl]; omega, fun r hr => by rw [hl] at hr; omega⟩ (by rw [hl]; omega) hsp' hx'; rw [hl] at this; exact this
          . rw [zaD, <- hw.1, <- h0] at hcut; have := reg (d.cut off len) x o sp cap b h2 hcut (by rw [hl]; exact hc) hsp' hx'; rw [hl] at this; exact this
       | dj _ _ hx =>
        rcases hS.blk _ _ hB with ⟨_, h0⟩ | ⟨y, b, h1, _⟩
        . have h0 : d.len = 0 := h0; exact .cy _ (d.iF (by omega))
        . rw [hx] at h1; cases h1
     . cases h
   . cases h
 . exact absurd rfl (hs _)
 . cases h
theorem zR {s : SV} {σ τ : Sub} (h : seen s σ = some τ) : Sub.le σ τ /\ ∀ id, ((∃ w ex, s = .buf id w ex) \/ (∃ o n w, s = .sl id o n w)) -> τ.get (1000000 + id) = some (some id) := by
 unfold seen at h
 split at h
 . obtain ⟨h1, h2⟩ := Sub.jk h; refine ⟨h1, ?_⟩
   rintro id (⟨w, ex, e⟩ | ⟨o, n, w, e⟩)
   . cases e; exact h2
   . cases e
 . obtain ⟨h1, h2⟩ := Sub.jk h; refine ⟨h1, ?_⟩
   rintro id (⟨w, ex, e⟩ | ⟨o, n, w, e⟩)
   . cases e
   . cases e; exact h2
 . rename_i h1 h2; cases h; refine ⟨Sub.le_refl _, ?_⟩
   rintro id (⟨w, ex, e⟩ | ⟨o, n, w, e⟩)
   . exact absurd e (h1 id w ex)
   . exact absurd e (h2 id o n w)
theorem o3 (hS : Sim φ S H) {k : IntKind} {s : SV} {xs : List Int} (h : yX S k s = some xs) {φ' : Phi} {own' : Nat -> Prop} (ho : ∀ x, own' x -> Own φ S x)
 (hout : ∀ id x, (∃ B, S.get id = some B) -> φ id = some (some x) -> (∃ w ex, s = .buf id w ex) \/ (∃ o n w, s = .sl id o n w) -> ¬ own' x) {v : Value} (hv : DV φ H (Own φ S) s v) : DV φ' H own' (.deep (.ints k xs)) v := by
 have hcell : ∀ s v, flat s -> DV φ H (Own φ S) s v -> DV φ' H own' s v := fun s v hf hd => hd.lS ho hf
 unfold yX at h
 split at h
 . cases h; cases hv; exact .cy _ rfl
 . split at h
   . rename_i e; cases h; subst e; exact hv.lS ho trivial
   . cases h
 . split at h
   . rename_i hvw
     split at h
     . rename_i e; cases h; subst e; exact jr hS hv hvw (fun c e => by cases e) hcell hout
     . cases h
   . cases h
 . split at h
   . rename_i hvw
     split at h
     . rename_i e; cases h; subst e; exact jr hS hv hvw (fun c e => by cases e) hcell hout
     . cases h
   . cases h
 . cases h
theorem o7 (hS : Sim φ S H) {l : List Sch} {s : SV} {xs : List Dat} (h : zC S l s = some xs) {φ' : Phi} {own' : Nat -> Prop} (ho : ∀ x, own' x -> Own φ S x)
 (hout : ∀ id x, (∃ B, S.get id = some B) -> φ id = some (some x) -> (∃ w ex, s = .buf id w ex) \/ (∃ o n w, s = .sl id o n w) -> ¬ own' x) {v : Value} (hv : DV φ H (Own φ S) s v) : DV φ' H own' (.deep (.ag l xs)) v := by
 have hcell : ∀ s v, flat s -> DV φ H (Own φ S) s v -> DV φ' H own' s v := fun s v hf hd => hd.lS ho hf
 unfold zC at h
 split at h
 . cases h; cases hv; exact .cy _ rfl
 . split at h
   . rename_i e; cases h; have := gG.2 _ _ e; subst this; exact hv.lS ho trivial
   . cases h
 . split at h
   . rename_i hvw
     split at h
     . rename_i e; cases h; have := gG.2 _ _ e; subst this; exact jr hS hv hvw (fun c e => by cases e) hcell hout
     . cases h
   . cases h
 . split at h
   . rename_i hvw
     split at h
     . rename_i e; cases h; have := gG.2 _ _ e; subst this; exact jr hS hv hvw (fun c e => by cases e) hcell hout
     . cases h
   . cases h
 . cases h
theorem Cc : ∀ {ss : List SV} {σ τ : Sub}, D5 ss σ = some τ -> Sub.le σ τ /\ ∀ s ∈ ss, ∀ id, ((∃ w ex, s = .buf id w ex) \/ (∃ o n w, s = .sl id o n w)) -> τ.get (1000000 + id) = some (some id)
 | [], σ, τ, h => by cases h; exact ⟨Sub.le_refl _, fun s hs => by simp at hs⟩
 | a :: ss, σ, τ, h => by
  simp only [D5] at h
  split at h
  . rename_i τ' h1; obtain ⟨a1, a2⟩ := zR h1; obtain ⟨b1, b2⟩ := Cc h; refine ⟨Sub.le_trans a1 b1, fun s hs id he => ?_⟩; rcases zaV.1 hs with rfl | hs
    . exact b1 _ _ (a2 id he)
    . exact b2 s hs id he
  . cases h
theorem yA (hS : Sim φ S H) {c : Sch} {s : SV} {d : Dat} (h : Ak S c s = some d) {φ' : Phi} {own' : Nat -> Prop} (ho : ∀ x, own' x -> Own φ S x)
 (hout : ∀ id x, (∃ B, S.get id = some B) -> φ id = some (some x) -> (∃ w ex, s = .buf id w ex) \/ (∃ o n w, s = .sl id o n w) -> ¬ own' x) {v : Value} (hv : DV φ H (Own φ S) s v) : DV φ' H own' (pQ c d) v := by
 unfold Ak at h
 split at h
 . split at h
   . rename_i e; subst e; cases h; cases hv; exact .i _ _
   . cases h
 . rename_i x; cases h; cases hv; have : (Dat.int (.n (bif x then 1 else 0)) != 0) = x := by cases x <;> rfl
   simp only [pQ, this]; exact .b x
 . split at h
   . rename_i xs h1; cases h; have := o3 hS h1 (φ' := φ') ho hout hv; have e : (xs.map Dat.n).map Dat.int = xs := by rw [List.map_map]; exact List.map_id xs
     simp only [pQ, Dat.sub, e]; exact this
   . cases h
 . split at h
   . rename_i xs h1; cases h; exact o7 hS h1 (φ' := φ') ho hout hv
   . cases h
 . cases h
theorem Bz : ∀ {l : List Sch} {ss : List SV} {r : List Dat}, EP S l ss = some r -> l.length = ss.length /\ r.length = ss.length /\ ∀ (j : Nat) c s d, l[j]? = some c -> ss[j]? = some s -> r[j]? = some d -> Ak S c s = some d
 | [], [], r, h => by cases h; exact ⟨rfl, rfl, fun j c s d h => by simp at h⟩
 | [], _ :: _, _, h => by cases h
 | _ :: _, [], _, h => by cases h
 | a :: l, s :: ss, r, h => by
  simp only [EP] at h
  split at h
  . rename_i d q h1 h2; cases h; obtain ⟨g1, g2, g3⟩ := Bz h2; refine ⟨by simp [g1], by simp [g2], fun j c s' d' a1 a2 a3 => ?_⟩; cases j with
    | zero => simp at a1 a2 a3; subst a1; subst a2; subst a3; exact h1
    | succ j => exact g3 j c s' d' (by simpa using a1) (by simpa using a2) (by simpa using a3)
  . cases h
structure F4 (φ : Phi) (S : aj) (own' : Nat -> Prop) (n : Nat) (υ : Sub) : Prop where
 keys : ∀ (j : Nat) y, υ.get j = some y -> j < n \/ 1000000 <= j
 out : ∀ (id x : Nat), υ.get (1000000 + id) = some (some id) -> (∃ B, S.get id = some B) -> φ id = some (some x) -> ¬ own' x
def Fits (φ : Phi) (S : aj) (H : ai) (ban : Nat -> Prop) (n : Nat) (own' : Nat -> Prop) (υ : Sub) (s s' : SV) : Prop := ∀ v, DV φ H (Own φ S) s v -> DV (φ.sub ban υ n) H own' s' v
theorem Phi.oK {ban : Nat -> Prop} {υ : Sub} {n j : Nat} {y : Option Nat} {own' : Nat -> Prop} (hf : F4 φ S own' n υ) (hj : j < 1000000) (h : υ.get j = some y) : (φ.sub ban υ n) j = (match y with | some id => φ id | none => some none) := by
 have hn : j < n := by
  rcases hf.keys j y h with h | h <;> omega
 unfold Phi.sub; simp only [if_pos hn, h]; cases y <;> rfl
section
variable {ban : Nat -> Prop} {n : Nat} {own' : Nat -> Prop}
theorem Fits.agg {υ : Sub} {ss ss' : List SV} (hl : ss'.length = ss.length) (h : ∀ (i : Nat) s s', ss[i]? = some s -> ss'[i]? = some s' -> Fits φ S H ban n own' υ s s') : Fits φ S H ban n own' υ (.agg ss) (.agg ss') := by
 intro v hv; cases hv with
 | agg l x' hx vx =>
  refine .agg _ _ (by rw [hl]; exact hx) (fun i s v h1 h2 => ?_); have hi : i < ss.length := by rw [<- hl]; exact (zal.1 h1).1
  exact h i _ s (zae hi) h1 v (vx i _ v (zae hi) h2)
theorem Fits.fn {υ : Sub} {g : Nat} {x y x2 y2 : List SV} (hl : x2.length = x.length) (hm : y2.length = y.length) (h : ∀ (i : Nat) s s', x[i]? = some s -> x2[i]? = some s' -> Fits φ S H ban n own' υ s s')
 (k : ∀ (i : Nat) s s', y[i]? = some s -> y2[i]? = some s' -> Fits φ S H ban n own' υ s s') : Fits φ S H ban n own' υ (.fn g x y) (.fn g x2 y2) := by
 intro v hv; cases hv with
 | fn _ _ _ x' y' hx hy vx vy =>
  refine .fn g _ _ _ _ (by rw [hl]; exact hx) (by rw [hm]; exact hy) (fun i s v h1 h2 => ?_) (fun i s v h1 h2 => ?_)
  . have hi : i < x.length := by rw [<- hl]; exact (zal.1 h1).1
    exact h i _ s (zae hi) h1 v (vx i _ v (zae hi) h2)
  . have hi : i < y.length := by rw [<- hm]; exact (zal.1 h1).1
    exact k i _ s (zae hi) h1 v (vy i _ v (zae hi) h2)
def No (φ : Phi) (S : aj) (H : ai) (ban : Nat -> Prop) (n : Nat) (own' : Nat -> Prop) (υ : Sub) (ss ss' : List SV) : Prop := ss'.length = ss.length /\ ∀ (i : Nat) s s', ss[i]? = some s -> ss'[i]? = some s' -> Fits φ S H ban n own' υ s s'
mutual
theorem RK (hS : Sim φ S H) (ho : ∀ x, own' x -> Own φ S x) : ∀ (p : VP) (s : SV) (σ τ : Sub) (a : List Un), VP.of S p s σ = some (a, τ) ->
 Sub.le σ τ /\ a.length = p.size /\ ∀ υ, Sub.le τ υ -> F4 φ S own' n υ -> ∀ rest, Fits φ S H ban n own' υ s (p.to (a ++ rest))
 | .any, s, σ, τ, a, h => by
  simp only [VP.of, zaj, zaO] at h; obtain ⟨rfl, rfl⟩ := h; exact ⟨Sub.le_refl _, rfl, fun _ _ _ _ v _ => .any v⟩
 | .int k, s, σ, τ, a, h => by
  cases s <;> simp only [VP.of] at h <;> try (cases h; done)
  split at h
  . rename_i e; cases h; subst e; exact ⟨Sub.le_refl _, rfl, fun _ _ _ _ v hv => by cases hv; exact .i _ _⟩
  . cases h
 | .bool, s, σ, τ, a, h => by
  cases s <;> simp only [VP.of] at h <;> try (cases h; done)
  cases h; exact ⟨Sub.le_refl _, rfl, fun _ _ _ _ v hv => by cases hv; exact .b _⟩
 | .gR, s, σ, τ, a, h => by
  cases s <;> simp only [VP.of] at h <;> try (cases h; done)
  cases h; exact ⟨Sub.le_refl _, rfl, fun _ _ _ _ v hv => by cases hv; exact .gR⟩
 | .dV, s, σ, τ, a, h => by
  cases s <;> simp only [VP.of] at h <;> try (cases h; done)
  cases h; exact ⟨Sub.le_refl _, rfl, fun _ _ _ _ v hv => by cases hv; exact .dV⟩
 | .kX, s, σ, τ, a, h => by
  cases s <;> simp only [VP.of] at h <;> try (cases h; done)
  cases h; exact ⟨Sub.le_refl _, rfl, fun _ _ _ _ v hv => by cases hv; exact .kX⟩
 | .ptr j w col, s, σ, τ, a, h => by
  cases s <;> simp only [VP.of] at h <;> try (cases h; done)
  split at h
  . rename_i e; obtain ⟨rfl, rfl, rfl, hj⟩ := e
    split at h
    . rename_i τ' hb; cases h; obtain ⟨h1, h2⟩ := Sub.jk hb; refine ⟨h1, rfl, fun υ hle hf rest v hv => ?_⟩; cases hv with
      | ptr _ _ _ _ x hx => exact .ptr j 0 w col x (by rw [Phi.oK hf hj (hle _ _ h2)]; exact hx)
    . cases h
  . cases h
 | .np j w col, s, σ, τ, a, h => by
  cases s <;> simp only [VP.of] at h <;> try (cases h; done)
  . cases h; exact ⟨Sub.le_refl _, rfl, fun _ _ _ _ v hv => by cases hv; exact .je _ _ _ _ (by omega)⟩
  . split at h
    . rename_i e; obtain ⟨rfl, rfl, hj⟩ := e
      split at h
      . rename_i τ' hb; cases h; obtain ⟨h1, h2⟩ := Sub.jk hb; refine ⟨h1, rfl, fun υ hle hf rest v hv => ?_⟩; cases hv with
        | ptr _ _ _ _ x hx => exact .np j w col x _ (by omega) (by rw [Phi.oK hf hj (hle _ _ h2)]; exact hx)
      . cases h
    . cases h
  . split at h
    . rename_i e; obtain ⟨rfl, rfl, hj⟩ := e
      split at h
      . rename_i τ' hb; cases h; obtain ⟨h1, h2⟩ := Sub.jk hb; refine ⟨h1, rfl, fun υ hle hf rest v hv => ?_⟩; cases hv with
        | je _ _ _ _ hn => exact .je j w col _ hn
        | np _ _ _ x _ hn hx => exact .np j w col x _ hn (by rw [Phi.oK hf hj (hle _ _ h2)]; exact hx)
      . cases h
    . cases h
 | .sl j w, s, σ, τ, a, h => by
  cases s <;> simp only [VP.of] at h <;> try (cases h; done)
  split at h
  . rename_i e; obtain ⟨rfl, hj⟩ := e
    split at h
    . rename_i τ' hb; cases h; obtain ⟨h1, h2⟩ := Sub.jk hb; refine ⟨h1, rfl, fun υ hle hf rest v hv => ?_⟩; have hat := Phi.oK (ban := ban) hf hj (hle _ _ h2); cases hv with
      | sl _ _ _ _ x o sp cap hx ho hs hc hin => exact .sl j _ _ w x o sp cap (by rw [hat]; exact hx) ho hs hc hin
      | dj _ _ hx => exact .dj j w (by rw [hat]; exact hx)
    . cases h
  . cases h
 | .buf j w, s, σ, τ, a, h => by
  cases s <;> simp only [VP.of] at h <;> try (cases h; done)
  . split at h
    . rename_i hj
      split at h
      . rename_i τ' hb; cases h; obtain ⟨h1, h2⟩ := Sub.jk hb; refine ⟨h1, rfl, fun υ hle hf rest v hv => ?_⟩; cases hv; exact .dx j w (by rw [Phi.oK hf hj (hle _ _ h2)])
      . cases h
    . cases h
  . split at h
    . rename_i e; obtain ⟨rfl, hj⟩ := e
      split at h
      . rename_i τ' hb; cases h; obtain ⟨h1, h2⟩ := Sub.jk hb; refine ⟨h1, rfl, fun υ hle hf rest v hv => ?_⟩; have hat := Phi.oK (ban := ban) hf hj (hle _ _ h2); cases hv with
        | buf _ _ _ x n sp hx hn hs =>
         refine .buf j _ false x n sp (by rw [hat]; exact hx) hn ?_
         rcases hs with h | ⟨_, h⟩
         . exact .inl h
         . exact .inr ⟨rfl, h⟩
        | dx _ _ hx => exact .dx j _ (by rw [hat]; exact hx)
      . cases h
    . cases h
 | .ints k, s, σ, τ, a, h => by
  simp only [VP.of] at h
  split at h
  . rename_i xs τ' h1 h2; cases h; obtain ⟨g1, g2⟩ := zR h2; refine ⟨g1, rfl, fun υ hle hf rest v hv => ?_⟩; exact o3 hS h1 ho (fun id x hB hx hs => hf.out id x (hle _ _ (g2 id hs)) hB hx) hv
  . cases h
 | .ag l, s, σ, τ, a, h => by
  simp only [VP.of] at h
  split at h
  . rename_i xs τ' h1 h2; cases h; obtain ⟨g1, g2⟩ := zR h2; refine ⟨g1, rfl, fun υ hle hf rest v hv => ?_⟩; exact o7 hS h1 ho (fun id x hB hx hs => hf.out id x (hle _ _ (g2 id hs)) hB hx) hv
  . cases h
 | .dpt l, s, σ, τ, a, h => by
  cases s <;> simp only [VP.of] at h <;> try (cases h; done)
  . rename_i id row w col
    split at h
    . rename_i e; obtain ⟨rfl, rfl⟩ := e
      split at h
      . rename_i cs hB
        split at h
        . rename_i r τ' h1 h2; cases h; obtain ⟨g1, g2⟩ := Cc h2; obtain ⟨k1, k2, k3⟩ := Bz h1; refine ⟨g1, rfl, fun υ hle hf rest v hv => ?_⟩; cases hv with
          | ptr _ _ _ _ x hx =>
           rcases hS.blk _ _ hB with ⟨q0, _⟩ | ⟨y, c, q1, q2, _, q4⟩
           . rw [hx] at q0; cases q0
           . rw [hx] at q1; cases q1; have hout : ∀ s ∈ cs, ∀ id x, (∃ B, S.get id = some B) -> φ id = some (some x) -> (∃ w ex, s = .buf id w ex) \/ (∃ o n w, s = .sl id o n w) -> ¬ own' x :=
              fun s hs id x hB hx he => hf.out id x (hle _ _ (g2 s (zaQ _ hs) id he)) hB hx
             have hno : ¬ own' x := hf.out id x (hle _ _ (g2 _ (List.mem_cons_self ..) id (.inl ⟨_, _, rfl⟩))) ⟨_, hB⟩ hx; have hcl : cs.length = c.cells.length := q4.1; rw [show 0 * w + 0 = 0 + 0 * (aF.ag l [.r r]).w + 0 by simp]; refine .dp (.ag l [.r r]) 0 0 x 0 c q2 hno (by simp [aF.len, aF.w]; omega) (fun rr hr j s' hs' u hu => ?_); have hr : rr = 0 := by simp [aF.len] at hr; exact hr
             subst hr; simp only [aF.row, zaI, fY, zb7, zaD] at hs' hu; have hj : j < cs.length := by rw [hcl]; exact (zal.1 hu).1
             have hlj : l[j]? = some l[j] := zae (by omega); rw [hlj, zbc] at hs'; cases hs'; have hrj : r[j]? = some r[j] := zae (by omega); have hd : (Dat.r r).fld j = r[j] := by simp [Dat.fld, Dat.sub, zah, hrj]
             have hsj : cs[j]? = some cs[j] := zae hj
             try rw [hd]
             exact yA hS (k3 j _ _ _ hlj hsj hrj) ho (hout _ (zbx _)) (q4.2 j _ u hsj hu)
        . cases h
      . cases h
    . cases h
  . split at h
    . rename_i e; obtain ⟨rfl, rfl⟩ := e
      split at h
      . split at h
        . rename_i e; cases h; have := gG.2 _ _ e; subst this; refine ⟨Sub.le_refl _, rfl, fun _ _ _ _ v hv => ?_⟩; cases hv with
          | dp _ _ _ x o blk hb hno hl hc => exact .dp _ 0 0 x o blk hb (fun h => hno (ho x h)) hl (fun r hr j s hs v hv => (hc r hr j s hs v hv).lS ho (iS hs))
        . cases h
      . cases h
    . cases h
 | .fn g x y, s, σ, τ, a, h => by
  cases s <;> simp only [VP.of] at h <;> try (cases h; done)
  split at h
  . rename_i e; subst e
    split at h
    . rename_i c τ1 h1
      split at h
      . rename_i d τ2 h2; cases h; obtain ⟨a1, a2, a3⟩ := qq hS ho x _ _ _ _ h1; obtain ⟨b1, b2, b3⟩ := qq hS ho y _ _ _ _ h2; refine ⟨Sub.le_trans a1 b1, by simp [VP.size, a2, b2], fun υ hle hf rest => ?_⟩; simp only [VP.to, zaA]; rw [<- a2, zbz]; obtain ⟨c1, c2⟩ := a3 υ (Sub.le_trans b1 hle) hf (d ++ rest); obtain ⟨d1, d2⟩ := b3 υ hle hf rest; exact Fits.fn c1 d1 c2 d2
      . cases h
    . cases h
  . cases h
 | .agg l, s, σ, τ, a, h => by
  cases s <;> simp only [VP.of] at h <;> try (cases h; done)
  obtain ⟨a1, a2, a3⟩ := qq hS ho l _ _ _ _ h; refine ⟨a1, by simp [VP.size, a2], fun υ hle hf rest => ?_⟩; obtain ⟨c1, c2⟩ := a3 υ hle hf rest; exact Fits.agg c1 c2
theorem qq (hS : Sim φ S H) (ho : ∀ x, own' x -> Own φ S x) : ∀ (ps : List VP) (ss : List SV) (σ τ : Sub) (a : List Un), VP.ofs S ps ss σ = some (a, τ) ->
 Sub.le σ τ /\ a.length = VP.kW ps /\ ∀ υ, Sub.le τ υ -> F4 φ S own' n υ -> ∀ rest, No φ S H ban n own' υ ss (VP.tos ps (a ++ rest))
 | [], ss, σ, τ, a, h => by
  cases ss <;> simp only [VP.ofs] at h <;> try (cases h; done)
  cases h; exact ⟨Sub.le_refl _, rfl, fun _ _ _ _ => ⟨rfl, fun i s s' h1 h2 => by simp at h1⟩⟩
 | p :: ps, ss, σ, τ, a, h => by
  cases ss <;> simp only [VP.ofs] at h <;> try (cases h; done)
  rename_i s ss
  split at h
  . rename_i c τ1 h1
    split at h
    . rename_i d τ2 h2; cases h; obtain ⟨a1, a2, a3⟩ := RK hS ho p _ _ _ _ h1; obtain ⟨b1, b2, b3⟩ := qq hS ho ps _ _ _ _ h2; refine ⟨Sub.le_trans a1 b1, by simp [VP.kW, a2, b2], fun υ hle hf rest => ?_⟩; simp only [VP.tos, zaA]; rw [<- a2, zbz]; have c1 := a3 υ (Sub.le_trans b1 hle) hf (d ++ rest); obtain ⟨d1, d2⟩ := b3 υ hle hf rest; refine ⟨by simp [d1], fun i u u' h3 h4 => ?_⟩; cases i with
      | zero =>
       simp at h3 h4; subst h3; subst h4; exact c1
      | succ i =>
       simp only [zaS] at h3 h4; exact d2 i u u' h3 h4
    . cases h
  . cases h
end
end
end
end
end
end Go.Proofs.YtdbkoeefnodejaaGreat.Ev
namespace Go.Proofs.YtdbkoeefnodejaaGreat.Ev
noncomputable section
noncomputable section
open Go
theorem aj.Dc (S : aj) (b : Option aO) (k : Nat) : (S.nT b).root.get k = if k = S.size then b else S.root.get k :=
 STr.eC _ _ _ _ _ (Nat.lt_succ_self _)
theorem foldl_push : ∀ (l : List (Option aO)) (S : aj), (l.foldl aj.nT S).size = S.size + l.length /\ (l.foldl aj.nT S).lock = S.lock /\ (l.foldl aj.nT S).hid = S.hid /\
 ∀ j, (l.foldl aj.nT S).root.get j = if S.size <= j /\ j < S.size + l.length then (l[j - S.size]?).join else S.root.get j
 | [], S => by
  refine ⟨by simp, rfl, rfl, fun j => ?_⟩; rw [if_neg (by simp)]; rfl
 | b :: l, S => by
  obtain ⟨h1, h2, h3, h4⟩ := foldl_push l (S.nT b); have hs : (S.nT b).size = S.size + 1 := rfl; refine ⟨by simp only [zbM, zaf]; rw [h1, hs]; omega, h2, h3, fun j => ?_⟩; simp only [zbM, zaf]; rw [h4, hs, aj.Dc]
  by_cases h : S.size + 1 <= j /\ j < S.size + 1 + l.length
  . rw [if_pos h, if_pos (by omega), show j - S.size = (j - (S.size + 1)) + 1 by omega, zaS]
  . rw [if_neg h]
    by_cases e : j = S.size
    . rw [if_pos e, if_pos (by omega), e]; simp
    . rw [if_neg e, if_neg (by omega)]
theorem j9 (l : List (Option aO)) : (fI l).size = l.length := by
 have := (foldl_push l ⟨0, .e, 0, []⟩).1; simpa [fI] using this
theorem C3 (l : List (Option aO)) : (fI l).hid = [] := (foldl_push l ⟨0, .e, 0, []⟩).2.2.1
theorem tZ (l : List (Option aO)) (j : Nat) : (fI l).get j = (l[j]?).join := by
 by_cases h : j < l.length
 . rw [aj.eE (by rw [j9]; exact h) (by rw [C3]; rfl)]; have := (foldl_push l ⟨0, .e, 0, []⟩).2.2.2 j; unfold fI; rw [this, if_pos ⟨zbY _, by simpa using h⟩]; simp
 . rw [zaN (by omega)]; unfold aj.get; rw [if_neg (by rw [j9]; exact h)]; rfl
theorem m6 {l : List (Option aO)} {j : Nat} {B : aO} (h : (fI l).get j = some B) : l[j]? = some (some B) := by
 rw [tZ] at h; cases hl : l[j]? with
 | none => rw [hl] at h; cases h
 | some x => rw [hl] at h; simp at h; rw [h]
section
variable {φ : Phi} {S : aj} {H : ai} {ban : Nat -> Prop} {n : Nat} {own' : Nat -> Prop}
def Told (φ : Phi) (S : aj) (H : ai) (ban : Nat -> Prop) (n : Nat) (own' : Nat -> Prop) (υ : Sub) (B : aO) (B' : Option aO) : Prop :=
 ∀ C, B' = some C -> (∀ cs, BV φ H (Own φ S) B cs -> BV (φ.sub ban υ n) H own' C cs) /\ (B.empty -> C.empty)
theorem Jf (hS : Sim φ S H) (ho : ∀ x, own' x -> Own φ S x) {p : BP} {B : aO} {σ τ : Sub} {a : List Un} (h : BP.of S p B σ = some (a, τ)) :
 Sub.le σ τ /\ a.length = p.size /\ ∀ υ, Sub.le τ υ -> F4 φ S own' n υ -> ∀ rest, Told φ S H ban n own' υ B (p.to (a ++ rest)) := by
 unfold BP.of at h
 split at h
 . rename_i l l'; obtain ⟨h1, h2, h3⟩ := qq (n := n) (ban := ban) hS ho l l' _ _ _ h; refine ⟨h1, h2, fun υ hle hf rest C hC => ?_⟩; cases hC; refine ⟨fun cs hB => ?_, fun _ => trivial⟩; obtain ⟨c1, c2⟩ := h3 υ hle hf rest; refine ⟨by rw [c1]; exact hB.1, fun i s v g1 g2 => ?_⟩; have hi : i < l'.length := by rw [<- c1]; exact (zal.1 g1).1
   exact c2 i _ s (zae hi) g1 v (hB.2 i _ v (zae hi) g2)
 . split at h
   . rename_i e; cases h; subst e; refine ⟨Sub.le_refl _, rfl, fun υ hle hf rest C hC => ?_⟩; cases hC; refine ⟨fun cs hB => ?_, fun e => e⟩; exact ⟨hB.1, fun r hr j s hs v hv => (hB.2 r hr j s hs v hv).lS ho (iS hs)⟩
   . cases h
 . split at h
   . rename_i e; cases h; have := gG.2 _ _ e; subst this; refine ⟨Sub.le_refl _, rfl, fun υ hle hf rest C hC => ?_⟩; cases hC; refine ⟨fun cs hB => ?_, fun e => e⟩; exact ⟨hB.1, fun r hr j s hs v hv => (hB.2 r hr j s hs v hv).lS ho (iS hs)⟩
   . cases h
 . split at h
   . rename_i e; obtain ⟨rfl, rfl, hj⟩ := e
     split at h
     . rename_i τ' hb; cases h; obtain ⟨h1, h2⟩ := Sub.jk hb; refine ⟨h1, rfl, fun υ hle hf rest C hC => ?_⟩; cases hC; refine ⟨fun cs hB => ⟨hB.1, fun r v hr hv => ?_⟩, fun e => e⟩; have := hB.2 r v hr hv; cases this with
       | je _ _ _ _ hn => exact .je _ _ _ _ hn
       | np _ _ _ x _ hn hx => exact .np _ _ _ x _ hn (by rw [Phi.oK hf hj (hle _ _ h2)]; exact hx)
     . cases h
   . cases h
 . cases h
mutual
theorem Gy : ∀ (p : VP), p.Jh.length = p.size
 | .int _ => rfl
 | .np _ _ _ => rfl
 | .sl _ _ => rfl
 | .bool => rfl
 | .ints _ => rfl
 | .ag _ => rfl
 | .dpt _ => rfl
 | .fn _ x y => by simp [VP.Jh, VP.size, kZ x, kZ y]
 | .agg l => by simp [VP.Jh, VP.size, kZ l]
 | .any => rfl
 | .gR => rfl
 | .dV => rfl
 | .kX => rfl
 | .ptr _ _ _ => rfl
 | .buf _ _ => rfl
theorem kZ : ∀ (l : List VP), (VP.vY l).length = VP.kW l
 | [] => rfl
 | p :: ps => by simp [VP.vY, VP.kW, Gy p, kZ ps]
end
theorem GM (p : BP) : p.nil.length = p.size /\ ∀ rest C, p.to (p.nil ++ rest) = some C -> C.empty := by
 cases p with
 | cells l => exact ⟨kZ l, fun rest C h => by cases h; trivial⟩
 | ints k => exact ⟨rfl, fun rest C h => by cases h; rfl⟩
 | ag l => exact ⟨rfl, fun rest C h => by cases h; rfl⟩
 | dJ j w col => exact ⟨rfl, fun rest C h => by cases h; rfl⟩
 | gone => exact ⟨rfl, fun rest C h => by cases h⟩
theorem qf : ∀ (ps : List BP) (us : List Un), (cY ps us).length = ps.length
 | [], _ => rfl
 | p :: ps, us => by simp [cY, qf ps]
theorem xA {p : BP} (h : p.hJ = true) (us : List Un) : p.size = 0 /\ p.to us = none := by
 cases p <;> simp [BP.hJ] at h
 exact ⟨rfl, rfl⟩
theorem bind_none {σ : Sub} {j : Nat} (h : σ.get j = none) : Sub.le σ ((j, none) :: σ) /\ Sub.get ((j, none) :: σ) j = some none := by
 refine ⟨fun k y hk => ?_, by simp [Sub.get]⟩; simp only [Sub.get]
 split
 . rename_i e; subst e; rw [h] at hk; cases hk
 . exact hk
theorem iN (hS : Sim φ S H) (ho : ∀ x, own' x -> Own φ S x) : ∀ {ps : List BP} {j : Nat} {σ τ : Sub} {a : List Un}, mW S j ps σ = some (a, τ) ->
 Sub.le σ τ /\ ∀ υ, Sub.le τ υ -> F4 φ S own' n υ -> ∀ rest, ∀ i B', (cY ps (a ++ rest))[i]? = some (some B') ->
  (υ.get (j + i) = some none /\ B'.empty) \/ ∃ id B, υ.get (j + i) = some (some id) /\ S.get id = some B /\ (∀ cs, BV φ H (Own φ S) B cs -> BV (φ.sub ban υ n) H own' B' cs) /\ (B.empty -> B'.empty)
 | [], j, σ, τ, a, h => by
  simp only [mW, zaj, zaO] at h; obtain ⟨rfl, rfl⟩ := h; exact ⟨Sub.le_refl _, fun υ _ _ rest i B' hi => by simp [cY] at hi⟩
 | p :: ps, j, σ, τ, a, h => by
  simp only [mW] at h
  split at h
  . rename_i hg; obtain ⟨b1, b2⟩ := iN hS ho h; refine ⟨b1, fun υ hle hf rest i B' hi => ?_⟩; obtain ⟨g1, g2⟩ := xA hg (a ++ rest); cases i with
    | zero =>
     simp only [cY, zbp, zaj, g2] at hi; cases hi
    | succ i =>
     simp only [cY, zaS, g1, zbS] at hi; have := b2 υ hle hf rest i B' hi
     rwa [show j + 1 + i = j + (i + 1) by omega] at this
  . split at h
    . rename_i id hid
      split at h
      . rename_i B hB
        split at h
        . rename_i c τ1 h1
          split at h
          . rename_i d τ2 h2; cases h; obtain ⟨a1, a2, a3⟩ := Jf (n := n) (ban := ban) hS ho h1; obtain ⟨b1, b2⟩ := iN hS ho h2; refine ⟨Sub.le_trans a1 b1, fun υ hle hf rest i B' hi => ?_⟩; cases i with
            | zero =>
             simp only [cY, zbp, zaj] at hi; rw [zaA] at hi; obtain ⟨c1, c2⟩ := a3 υ (Sub.le_trans b1 hle) hf (d ++ rest) B' hi; exact .inr ⟨id, B, hle _ _ (b1 _ _ (a1 _ _ hid)), hB, c1, c2⟩
            | succ i =>
             simp only [cY, zaS] at hi; rw [zaA, <- a2, zbz] at hi; have := b2 υ hle hf rest i B' hi
             rwa [show j + 1 + i = j + (i + 1) by omega] at this
          . cases h
        . cases h
      . cases h
    . rename_i hid
      split at h
      . rename_i d τ2 h2; cases h; obtain ⟨a2, a3⟩ := GM p; obtain ⟨b1, b2⟩ := iN hS ho h2; refine ⟨b1, fun υ hle hf rest i B' hi => ?_⟩; cases i with
        | zero =>
         simp only [cY, zbp, zaj] at hi; rw [zaA] at hi; exact .inl ⟨hle _ _ (b1 _ _ hid), a3 _ _ hi⟩
        | succ i =>
         simp only [cY, zaS] at hi; rw [zaA, <- a2, zbz] at hi; have := b2 υ hle hf rest i B' hi
         rwa [show j + 1 + i = j + (i + 1) by omega] at this
      . cases h
    . rename_i hid
      split at h
      . rename_i d τ2 h2; cases h; obtain ⟨a2, a3⟩ := GM p; obtain ⟨b1, b2⟩ := iN hS ho h2; obtain ⟨e1, e2⟩ := bind_none hid; refine ⟨Sub.le_trans e1 b1, fun υ hle hf rest i B' hi => ?_⟩; cases i with
        | zero =>
         simp only [cY, zbp, zaj] at hi; rw [zaA] at hi; exact .inl ⟨hle _ _ (b1 _ _ e2), a3 _ _ hi⟩
        | succ i =>
         simp only [cY, zaS] at hi; rw [zaA, <- a2, zbz] at hi; have := b2 υ hle hf rest i B' hi
         rwa [show j + 1 + i = j + (i + 1) by omega] at this
      . cases h
theorem EJ : ∀ {σ : Sub} {j : Nat} {y : Option Nat}, σ.get j = some y -> (j, y) ∈ σ
 | [], j, y, h => by cases h
 | (i, x) :: σ, j, y, h => by
  simp only [Sub.get] at h
  split at h
  . rename_i e; cases h; subst e; simp
  . exact zaQ _ (EJ h)
theorem qS : ∀ {σ : Sub}, Sub.apart σ = true -> ∀ {j k id : Nat}, σ.get j = some (some id) -> σ.get k = some (some id) -> j = k
 | [], _, _, _, _, h, _ => by cases h
 | (i, x) :: r, ha, j, k, id, h1, h2 => by
  simp only [Sub.apart, zab] at ha; obtain ⟨ha1, ha2⟩ := ha; have mem : ∀ {σ : Sub} {j : Nat} {y : Option Nat}, σ.get j = some y -> (j, y) ∈ σ := by
   intro σ
   induction σ with
   | nil => intro j y h; cases h
   | cons p σ ih =>
    intro j y h; obtain ⟨i, x⟩ := p; simp only [Sub.get] at h
    split at h
    . rename_i e; cases h; subst e; simp
    . exact zaQ _ (ih h)
  simp only [Sub.get] at h1 h2
  by_cases e1 : j = i
  . by_cases e2 : k = i
    . rw [e1, e2]
    . rw [if_pos e1] at h1; rw [if_neg e2] at h2; cases h1; simp only [zam, zbf, zaE] at ha1; rcases ha1 _ (mem h2) with h | h
      . simp at h
      . exact absurd h e2
  . rw [if_neg e1] at h1
    by_cases e2 : k = i
    . rw [if_pos e2] at h2; cases h2; simp only [zam, zbf, zaE] at ha1; rcases ha1 _ (mem h1) with h | h
      . simp at h
      . exact absurd h e1
    . rw [if_neg e2] at h2; exact qS ha2 h1 h2
theorem th {σ : Sub} {n lk lock : Nat} (h : Sub.keys σ n lk lock = true) {j : Nat} {y : Option Nat} (hj : σ.get j = some y) : 1000000 <= j \/ (j < n /\ ∀ id, y = some id -> lk <= j -> lock <= id) := by
 have mem : ∀ {σ : Sub} {j : Nat} {y : Option Nat}, σ.get j = some y -> (j, y) ∈ σ := by
  intro σ
  induction σ with
  | nil => intro j y h; cases h
  | cons p σ ih =>
   intro j y h; obtain ⟨i, x⟩ := p; simp only [Sub.get] at h
   split at h
   . rename_i e; cases h; subst e; simp
   . exact zaQ _ (ih h)
 simp only [Sub.keys, zam] at h; have := h _ (mem hj); simp only [zbf, zab, zac] at this; rcases this with h | ⟨h1, h2⟩
 . exact .inl h
 . refine .inr ⟨h1, ?_⟩
   rintro id rfl hlk
   have h2 : j < lk \/ lock <= id := by simpa using h2
   omega
theorem ju : ∀ {ps : List BP} {j : Nat} {σ τ : Sub} {a : List Un}, mW S j ps σ = some (a, τ) -> (∀ σ1 σ2 p B b, BP.of S p B σ1 = some (b, σ2) -> Sub.le σ1 σ2) ->
 Sub.le σ τ /\ ∀ i p, ps[i]? = some p -> p.hJ = false -> τ.get (j + i) = some none \/ ∃ id B, τ.get (j + i) = some (some id) /\ S.get id = some B
 | [], j, σ, τ, a, h, _ => by
  simp only [mW, zaj, zaO] at h; obtain ⟨rfl, rfl⟩ := h; exact ⟨Sub.le_refl _, fun i p hi => by simp at hi⟩
 | p :: ps, j, σ, τ, a, h, hle => by
  simp only [mW] at h
  split at h
  . rename_i hg; obtain ⟨b1, b2⟩ := ju h hle; refine ⟨b1, fun i q hi hq => ?_⟩; cases i with
    | zero => simp at hi; subst hi; rw [hg] at hq; cases hq
    | succ i =>
     have := b2 i q (by simpa using hi) hq
     rwa [show j + 1 + i = j + (i + 1) by omega] at this
  . split at h
    . rename_i id hid
      split at h
      . rename_i B hB
        split at h
        . rename_i c τ1 h1
          split at h
          . rename_i d τ2 h2; cases h; have a1 := hle _ _ _ _ _ h1; obtain ⟨b1, b2⟩ := ju h2 hle; refine ⟨Sub.le_trans a1 b1, fun i q hi hq => ?_⟩; cases i with
            | zero => exact .inr ⟨id, B, b1 _ _ (a1 _ _ hid), hB⟩
            | succ i =>
             have := b2 i q (by simpa using hi) hq
             rwa [show j + 1 + i = j + (i + 1) by omega] at this
          . cases h
        . cases h
      . cases h
    . rename_i hid
      split at h
      . rename_i d τ2 h2; cases h; obtain ⟨b1, b2⟩ := ju h2 hle; refine ⟨b1, fun i q hi hq => ?_⟩; cases i with
        | zero => exact .inl (b1 _ _ hid)
        | succ i =>
         have := b2 i q (by simpa using hi) hq
         rwa [show j + 1 + i = j + (i + 1) by omega] at this
      . cases h
    . rename_i hid
      split at h
      . rename_i d τ2 h2; cases h; obtain ⟨b1, b2⟩ := ju h2 hle; obtain ⟨e1, e2⟩ := bind_none hid; refine ⟨Sub.le_trans e1 b1, fun i q hi hq => ?_⟩; cases i with
        | zero => exact .inl (b1 _ _ e2)
        | succ i =>
         have := b2 i q (by simpa using hi) hq
         rwa [show j + 1 + i = j + (i + 1) by omega] at this
      . cases h
theorem oC : ∀ {ps : List BP} {us : List Un} {j : Nat} {B : aO}, (cY ps us)[j]? = some (some B) -> ∃ p, ps[j]? = some p /\ p.hJ = false
 | [], us, j, B, h => by simp [cY] at h
 | p :: ps, us, 0, B, h => by
  simp only [cY, zbp, zaj] at h; refine ⟨p, by simp, ?_⟩; cases hg : p.hJ with
  | false => rfl
  | true => rw [(xA hg us).2] at h; cases h
 | p :: ps, us, j + 1, B, h => by
  simp only [cY, zaS] at h; simpa using oC h
theorem MN {p : Pn} {σ0 : Sub} {vs : List SV} {us : List Un} {τ : Sub} (h : p.of σ0 vs S = some (us, τ)) (hS : Sim φ S H) (hban : ∀ x, ban x -> Own φ S x)
 (hv : ∀ (id x : Nat) B, τ.get (1000000 + id) = some (some id) -> S.get id = some B -> φ id = some (some x) -> ¬ ban x) :
 Sim (φ.sub ban τ p.bQ.length) (p.cd us) H /\ (∀ ws, DVL φ H (Own φ S) vs ws -> DVL (φ.sub ban τ p.bQ.length) H (Own (φ.sub ban τ p.bQ.length) (p.cd us)) (p.eP us) ws) /\
 (∀ x, dU (φ.sub ban τ p.bQ.length) (p.cd us) x -> ∃ (j id : Nat) (B : aO), j < p.bQ.length /\ τ.get j = some (some id) /\ S.get id = some B /\ φ id = some (some x)) /\
 (∀ j id, j < p.bQ.length -> τ.get j = some (some id) -> (φ.sub ban τ p.bQ.length) j = φ id) /\ Sub.le σ0 τ /\ Sub.apart τ = true /\ Sub.keys τ p.bQ.length p.lk S.lock = true /\ (∀ q ∈ σ0, q.1 < p.bQ.length) /\
 (∀ x, mB (φ.sub ban τ p.bQ.length) (p.cd us) x -> ∃ (j id : Nat) (B : aO), p.lk <= j /\ j < p.bQ.length /\ τ.get j = some (some id) /\ S.lock <= id /\ S.get id = some B /\ φ id = some (some x)) := by
 unfold Pn.of at h
 split at h
 . rename_i a σ h1
   split at h
   . rename_i c τ' h2
     split at h
     . rename_i hc; obtain ⟨hk, hap, hn, hin⟩ := hc; cases h; have hdummy : ∀ σ1 σ2 (p : BP) B b, BP.of S p B σ1 = some (b, σ2) -> Sub.le σ1 σ2 := fun σ1 σ2 p B b hb =>
        (Jf (φ := φ) (H := H) (ban := fun _ => False) (n := 0) (own' := fun _ => False) hS (fun _ h => h.elim) hb).1
       obtain ⟨hle2, hids⟩ := ju h2 hdummy; have hsz : (p.cd (a ++ c)).size = p.bQ.length := by show (fI _).size = _; rw [j9, qf]
       have hgetn : ∀ j B, (p.cd (a ++ c)).get j = some B -> j < p.bQ.length := fun j B h => by have := aj.bh h; omega
       have hat : ∀ j, j < p.bQ.length -> ∀ y, τ.get j = some y -> (φ.sub ban τ p.bQ.length) j = (match y with | some id => φ id | none => some none) := by
        intro j hj y hy; unfold Phi.sub; simp only [if_pos hj, hy]; cases y <;> rfl
       have hownw : ∀ x, mB (φ.sub ban τ p.bQ.length) (p.cd (a ++ c)) x -> ∃ (j id : Nat) (B : aO), p.lk <= j /\ j < p.bQ.length /\ τ.get j = some (some id) /\ S.lock <= id /\ S.get id = some B /\ φ id = some (some x) := by
        rintro x ⟨j, B, g0, g1, g2⟩
        have hj := hgetn j B g1; obtain ⟨q, q1, q2⟩ := oC (m6 g1); rcases hids j q q1 q2 with g3 | ⟨id, B0, g3, g4⟩
        . rw [zaD] at g3; rw [hat j hj _ g3] at g2; cases g2
        . rw [zaD] at g3; rw [hat j hj _ g3] at g2; have g0 : p.lk <= j := g0; refine ⟨j, id, B0, g0, hj, g3, ?_, g4, g2⟩; rcases th hk g3 with h | ⟨_, h⟩
          . have := hn.1; omega
          . exact h id rfl g0
       have hown0 : ∀ x, dU (φ.sub ban τ p.bQ.length) (p.cd (a ++ c)) x -> ∃ (j id : Nat) (B : aO), j < p.bQ.length /\ τ.get j = some (some id) /\ S.get id = some B /\ φ id = some (some x) := by
        rintro x ⟨j, B, g1, g2⟩
        have hj := hgetn j B g1; obtain ⟨q, q1, q2⟩ := oC (m6 g1); rcases hids j q q1 q2 with g3 | ⟨id, B0, g3, g4⟩
        . rw [zaD] at g3; rw [hat j hj _ g3] at g2; cases g2
        . rw [zaD] at g3; rw [hat j hj _ g3] at g2; exact ⟨j, id, B0, hj, g3, g4, g2⟩
       have hown : ∀ x, Own (φ.sub ban τ p.bQ.length) (p.cd (a ++ c)) x -> Own φ S x := by
        rintro x (hx | hx)
        . exact hban x hx
        . obtain ⟨j, id, B, _, _, g1, g2⟩ := hown0 x hx; exact .inr ⟨id, B, g1, g2⟩
       have hfine : F4 φ S (Own (φ.sub ban τ p.bQ.length) (p.cd (a ++ c))) p.bQ.length τ := by
        refine ⟨fun j y hy => ?_, fun id x hid ⟨B, hB⟩ hx => ?_⟩
        . rcases th hk hy with h | ⟨h, _⟩
          . exact .inr h
          . exact .inl h
        . rintro (hb | hb)
          . exact hv id x B hid hB hx hb
          . obtain ⟨j, id', B', g0, g1, g2, g3⟩ := hown0 x hb; have := hS.inj id id' B B' x hB g2 hx g3; subst this; have := qS hap hid g1; omega
       obtain ⟨hle1, ha, hvals⟩ := qq (n := p.bQ.length) (ban := ban) hS hown p.LC vs _ _ _ h1; obtain ⟨_, hblks⟩ := iN (n := p.bQ.length) (ban := ban) hS hown h2; have hblk : ∀ j B', (p.cd (a ++ c)).get j = some B' -> (τ.get j = some none /\ B'.empty) \/ ∃ id B, τ.get j = some (some id) /\ S.get id = some B /\
        (∀ cs, BV φ H (Own φ S) B cs -> BV (φ.sub ban τ p.bQ.length) H (Own (φ.sub ban τ p.bQ.length) (p.cd (a ++ c))) B' cs) /\ (B.empty -> B'.empty) := by
        intro j B' hB'; have hB' := m6 hB'; have := hblks τ (Sub.le_refl _) hfine [] j B' (by
         rw [zaK]; have e : (a ++ c).drop p.size = c := by
          unfold Pn.size; rw [<- ha, zbz]
         rw [e] at hB'; exact hB')
        rwa [zaD] at this
       refine ⟨⟨?_, ?_, ?_, ?_, ?_, hS.cW, hS.fL⟩, ?_, hown0, fun j id hj hid => hat j hj _ hid, Sub.le_trans hle1 hle2, hap, hk, fun q hq => by simpa using zam.1 hin q hq, hownw⟩
       . intro j B' hB'; have hj := hgetn j B' hB'; rcases hblk j B' hB' with ⟨g1, g2⟩ | ⟨id, B, g1, g2, g3, g4⟩
         . exact .inl ⟨hat j hj _ g1, g2⟩
         . have e := hat j hj _ g1; rcases hS.blk id B g2 with ⟨g5, g6⟩ | ⟨x, d, g5, g6, g7, g8⟩
           . exact .inl ⟨by rw [e]; exact g5, g4 g6⟩
           . refine .inr ⟨x, d, by rw [e]; exact g5, g6, fun hlk => g7 ?_, g3 _ g8⟩; have hlk : p.lk <= j := hlk; rcases th hk g1 with h | ⟨_, h⟩
             . have := hn.1; omega
             . exact h id rfl hlk
       . intro j j' B B' x g1 g2 g3 g4; have hj := hgetn j B g1; have hj' := hgetn j' B' g2; rcases hblk j B g1 with ⟨e1, _⟩ | ⟨id, C, e1, e2, _⟩
         . rw [hat j hj _ e1] at g3; cases g3
         . rcases hblk j' B' g2 with ⟨f1, _⟩ | ⟨id', C', f1, f2, _⟩
           . rw [hat j' hj' _ f1] at g4; cases g4
           . rw [hat j hj _ e1] at g3; rw [hat j' hj' _ f1] at g4; have := hS.inj id id' C C' x e2 f2 g3 g4; subst this; exact qS hap e1 f1
       . intro j hj; rw [hsz] at hj; unfold Phi.sub; simp only [if_neg (show ¬ j < p.bQ.length by omega)]
       . intro j x hx; unfold Phi.sub at hx; simp only at hx
         split at hx
         . split at hx
           . rename_i id _; exact hS.lt id x hx
           . cases hx
           . cases hx
         . cases hx
       . rw [hsz]; exact hn.2
       . intro ws hws; obtain ⟨c1, c2⟩ := hvals τ hle2 hfine c; refine ⟨by unfold Pn.eP; rw [c1]; exact hws.1, fun i s v g1 g2 => ?_⟩; have hi : i < vs.length := by rw [<- c1]; exact (zal.1 g1).1
         exact c2 i _ s (zae hi) g1 v (hws.2 i _ v (zae hi) g2)
     . cases h
   . cases h
 . cases h
theorem GY {p : Pn} {σ0 : Sub} {vs : List SV} {us : List Un} {τ : Sub} (h : p.of σ0 vs S = some (us, τ)) : p.bQ.length <= 1000000 := by
 unfold Pn.of at h
 split at h
 . split at h
   . split at h
     . rename_i hc; exact hc.2.2.1.1
     . cases h
   . cases h
 . cases h
theorem KI {p : Pn} {σ0 : Sub} {vs : List SV} {us : List Un} {τ : Sub} (h : p.of σ0 vs S = some (us, τ)) (hS : Sim φ S H) (hgn : p.bQ.any BP.hJ = false) {j id : Nat} (hj : j < p.bQ.length) (hid : τ.get j = some (some id)) : ∃ B, S.get id = some B := by
 unfold Pn.of at h
 split at h
 . rename_i a σ h1
   split at h
   . rename_i c τ' h2
     split at h
     . rename_i hc; cases h; have hdummy : ∀ σ1 σ2 (p : BP) B b, BP.of S p B σ1 = some (b, σ2) -> Sub.le σ1 σ2 := fun σ1 σ2 p B b hb =>
        (Jf (φ := φ) (H := H) (ban := fun _ => False) (n := 0) (own' := fun _ => False) hS (fun _ h => h.elim) hb).1
       obtain ⟨_, hids⟩ := ju h2 hdummy; have hq : p.bQ[j]? = some p.bQ[j] := zae hj; cases hg : (p.bQ[j]).hJ with
       | false =>
        rcases hids j _ hq hg with g3 | ⟨id', B0, g3, g4⟩
        . rw [zaD, hid] at g3; cases g3
        . rw [zaD, hid] at g3; cases g3; exact ⟨B0, g4⟩
       | true =>
        have := List.any_eq_false.1 hgn _ (zbx hj); exact absurd hg this
     . cases h
   . cases h
 . cases h
end
end
end
end Go.Proofs.YtdbkoeefnodejaaGreat.Ev
namespace Go.Proofs.YtdbkoeefnodejaaGreat.Ev
noncomputable section
noncomputable section
open Go
structure pq (K : List Nat) (φ : Phi) (S : aj) (H : ai) (φ' : Phi) (S' : aj) (H' : ai) : Prop where
 sim : Sim φ' S' H'
 ban : φ'.ban = φ.ban
 own : ∀ x, x < H.size -> dU φ' S' x -> dU φ S x
 AN : ∀ x, x < H.size -> mB φ' S' x -> mB φ S x
 fi : ∀ x, x < H.size -> ¬ mB φ S x -> H'.get x = H.get x
 len : ∀ x c', x < H.size -> H'.root.get x = some c' -> ∃ c, H.root.get x = some c /\ c'.cells.length = c.cells.length
 dQ : H.size <= H'.size
 cW : H'.lock = H.lock
 fL : H'.hid = H.hid
 ent : ∀ j, j ∈ K -> ∀ y, φ j = some y -> φ' j = some y
section
variable {K : List Nat} {φ φ' φ'' : Phi} {S S' S'' : aj} {H H' H'' : ai}
theorem pq.trans (a : pq K φ S H φ' S' H') (b : pq K φ' S' H' φ'' S'' H'') : pq K φ S H φ'' S'' H'' where
 sim := b.sim
 ban := b.ban.trans a.ban
 own x h1 h2 := a.own x h1 (b.own x (zat h1 a.dQ) h2)
 AN x h1 h2 := a.AN x h1 (b.AN x (zat h1 a.dQ) h2)
 fi x h1 h2 := (b.fi x (zat h1 a.dQ) (fun h => h2 (a.AN x h1 h))).trans (a.fi x h1 h2)
 len x c' h1 h2 := by
  obtain ⟨c1, h3, h4⟩ := b.len x c' (zat h1 a.dQ) h2; obtain ⟨c2, h5, h6⟩ := a.len x c1 h1 h3; exact ⟨c2, h5, h4.trans h6⟩
 dQ := zax a.dQ b.dQ
 cW := b.cW.trans a.cW
 fL := b.fL.trans a.fL
 ent j hj y h := b.ent j hj y (a.ent j hj y h)
theorem Step.since (h : Step φ S H φ' S' H') : pq K φ S H φ' S' H' :=
 ⟨h.sim, h.ban, h.own, fun x hx => h.AN hx, h.fi, h.len, h.dQ, h.cW, h.fL, fun j _ y hy => h.le j y hy⟩
theorem NB.since (hn : NB φ S H) (h : pq K φ S H φ' S' H') : NB φ' S' H' := fun x hx => by
 rw [h.ban] at hx; obtain ⟨a, b⟩ := hn x hx; exact ⟨zat a h.dQ, fun ho => b (h.own x a ho)⟩
theorem EL : ∀ {K : List Nat} {j : Nat}, j ∈ K -> (idn K).get j = some (some j)
 | i :: K, j, h => by
  simp only [idn, zaX, Sub.get]
  by_cases e : j = i
  . rw [if_pos e, e]
  . rw [if_neg e]; refine EL (K := K) ?_
    rcases zaV.1 h with h | h
    . exact absurd h e
    . exact h
theorem uA {p : Pn} {vs : List SV} {us : List Un} {τ : Sub} (h : p.of (idn K) vs S = some (us, τ)) (hnb : NB φ S H) (hS : Sim φ S H) :
 ∃ φ', pq K φ S H φ' (p.cd us) H /\ ∀ ws, DVL φ H (Own φ S) vs ws -> DVL φ' H (Own φ' (p.cd us)) (p.eP us) ws := by
 obtain ⟨h1, h2, h3, h4, h5, _, h6, h7, h8⟩ := MN (ban := φ.ban) h hS (fun x hx => .inl hx) (fun id x B _ hB hx hb => (hnb x hb).2 ⟨id, B, hB, hx⟩); refine ⟨_, ⟨h1, rfl, fun x _ hx => ?_, fun x _ hx => ?_, fun _ _ _ => rfl, fun x c' _ h => ⟨c', h, rfl⟩, zao _, rfl, rfl, fun j hj y hy => ?_⟩, h2⟩
 . obtain ⟨j, id, B, _, _, g1, g2⟩ := h3 x hx; exact ⟨id, B, g1, g2⟩
 . obtain ⟨j, id, B, _, _, _, g0, g1, g2⟩ := h8 x hx; exact ⟨id, B, g0, g1, g2⟩
 . rw [h4 j j (h7 (j, some j) (za3.2 ⟨j, hj, rfl⟩)) (h5 _ _ (EL hj))]; exact hy
end
structure aT where
 tags : List Tag
 pat : Pn
 F : List Un -> Option (List Un)
def ME (ex : Pn) (K : List Nat) (vs : List SV) (S : aj) : Option (List Un) :=
 match ex.of (idn K) vs S with
 | some (us, _) => some us
 | none => none
def aT.at (t : aT) (K : List Nat) (s : SSt) : Option (List Un) :=
 match t.pat.of (idn K) s.fr s.hp with
 | some (us, _) => t.F us
 | none => none
def DG (P : Program) (rv : List ResultVar) (ex : Pn) (K : List Nat) (W : List aT) (its : List Item) (s : SSt) : Option (List Un) :=
 match its with
 | [] => pt P s.hp s.fr rv fun vs => ME ex K vs s.hp
 | _ =>
  match W.find? fun t => decide (t.tags = its.map Item.tag) with
  | some t => t.at K s
  | none => none
section
variable {P : Program} {L : List FuncId} {O : bj} {kn : FuncId -> Bool} {T : pb} {K : List Nat} {ex : Pn} {rv : List ResultVar} {body : Code}
def OU (P : Program) (L : List FuncId) (O : bj) (rv : List ResultVar) (ex : Pn) (K : List Nat) (its : List Item) (fv : List Value) (H : ai) (φ : Phi) (S : aj) (ys : List Un) : Prop :=
 ∃ y H' φ', jf P L O rv its ⟨fv, H⟩ (y, H') /\ pq K φ S H φ' (ex.cd ys) H' /\ DV φ' H' (Own φ' (ex.cd ys)) (mU (ex.eP ys)) y
def v8 (P : Program) (L : List FuncId) (O : bj) (rv : List ResultVar) (ex : Pn) (K : List Nat) (body : Code) (t : aT) : Prop :=
 ∀ its φ fr S fv H ys, cT body its -> its.map Item.tag = t.tags -> NB φ S H -> Sim φ S H -> DVL φ H (Own φ S) fr fv -> t.at K ⟨fr, S⟩ = some ys -> OU P L O rv ex K its fv H φ S ys
theorem C4 {W : List aT} (hW : ∀ t ∈ W, v8 P L O rv ex K body t) {its : List Item} {φ : Phi} {fr : List SV} {S : aj} {fv : List Value} {H : ai} {ys : List Un}
 (ha : cT body its) (hnb : NB φ S H) (hS : Sim φ S H) (hf : DVL φ H (Own φ S) fr fv) (h : DG P rv ex K W its ⟨fr, S⟩ = some ys) : OU P L O rv ex K its fv H φ S ys := by
 unfold DG at h
 split at h
 . obtain ⟨ss, vs, h1, h2, h3⟩ := iH hS hf h; unfold ME at h3
   split at h3
   . rename_i us τ hof; cases h3; obtain ⟨φ', g1, g2⟩ := uA hof hnb hS; exact ⟨k8 vs, H, φ', ⟨(.normal, ⟨fv, H⟩), .nil, by simp only [fin, h1]; rfl⟩, g1, sf (g2 vs h2)⟩
   . cases h3
 . split at h
   . rename_i t ht; have hd := List.find?_some ht; exact hW t (List.mem_of_find?_eq_some ht) its φ fr S fv H ys ha (zak hd).symm hnb hS hf h
   . cases h
theorem HA (hkn : ∀ g, kn g = false -> ∀ args H, O g args H = none) (hT : dC P L O T) {W : List aT} (hW : ∀ t ∈ W, v8 P L O rv ex K body t) {d n : Nat} {stop : List Nat -> Bool} {its : List Item} {φ : Phi} {fr : List SV} {S : aj} {fv : List Value} {H : ai} {ys : List Un}
 (ha : cT body its) (hnb : NB φ S H) (hS : Sim φ S H) (hf : DVL φ H (Own φ S) fr fv) (h : fC P L T (rL P L T kn d) stop n its ⟨fr, S⟩ (DG P rv ex K W) = some ys) : OU P L O rv ex K its fv H φ S ys := by
 obtain ⟨its', φ1, fr1, S1, fv1, H1, hk, ha1, hst, hf1, hm⟩ := iM hT (ry hkn hT d) h ha (fun _ => hnb) hS hf; obtain ⟨y, H', φ', g1, g2, g3⟩ := C4 hW ha1 (hnb.step hst) hst.sim hf1 hk; exact ⟨y, H', φ', hm _ _ g1, hst.since.trans g2, g3⟩
theorem aT.step (hkn : ∀ g, kn g = false -> ∀ args H, O g args H = none) (hT : dC P L O T) {W : List aT} {t : aT} {p : List Nat} {rest : List Tag} {its : List Item} {b : Code} {d n : Nat} {stop : List Nat -> Bool}
 (ht : t.tags = .lp p :: rest) (hi : fm body rest = some its) (hb : nav body (0 :: p) = some b) (hW : ∀ t ∈ W, v8 P L O rv ex K body t)
 (h : ∀ us ys, t.F us = some ys -> fC P L T (rL P L T kn d) stop n (.code (0 :: p) b :: .lp p b :: its) ⟨t.pat.eP us, t.pat.cd us⟩ (DG P rv ex K W) = some ys) : v8 P L O rv ex K body t := by
 intro its' φ fr S fv H ys ha htag hnb hS hf hat; obtain ⟨a1, a2⟩ := iG hi; have hl : Tag.item body (.lp p) = some (.lp p b) := by simp [Tag.item, hb]
 have : its' = .lp p b :: its := by
  refine cT.same ha (.cons (i := .lp p b) hl a1) ?_
  rw [htag, ht]; simp [Item.tag, a2]
 subst this; unfold aT.at at hat
 split at hat
 . rename_i us τ hof; obtain ⟨φ1, g1, g2⟩ := uA hof hnb hS; obtain ⟨y, H', φ', k1, k2, k3⟩ := HA hkn hT hW (.cons (by simp [Item.tag, Tag.item, hb]) (.cons (i := .lp p b) hl a1)) (hnb.since g1) g1.sim (g2 fv hf) (h us ys hat); exact ⟨y, H', φ', k1.of fun q hq => .round hq, g1.trans k2, k3⟩
 . cases hat
def vt (P : Program) (L : List FuncId) (O : bj) (g : FuncId) (en ex : Pn) (us ys : List Un) : Prop :=
 ∀ φ H vs, NB φ (en.cd us) H -> Sim φ (en.cd us) H -> DVL φ H (Own φ (en.cd us)) (en.eP us) vs ->
  ∃ N y H' φ', bs P L O N g vs H = some (y, H') /\ pq (bA en ex) φ (en.cd us) H φ' (ex.cd ys) H' /\ DV φ' H' (Own φ' (ex.cd ys)) (mU (ex.eP ys)) y
end
class Uns (A : Type) where
 enc : A -> List Un
 dec : List Un -> Option (A × List Un)
 ok : ∀ us a r, dec us = some (a, r) -> us = enc a ++ r
instance : Uns Int := ⟨fun n => [.i n], fun us => match us with | .i n :: r => some (n, r) | _ => none, fun us a r h => by split at h <;> simp_all⟩
instance : Uns Bool := ⟨fun n => [.b n], fun us => match us with | .b n :: r => some (n, r) | _ => none, fun us a r h => by split at h <;> simp_all⟩
instance : Uns (List Int) := ⟨fun n => [.l n], fun us => match us with | .l n :: r => some (n, r) | _ => none, fun us a r h => by split at h <;> simp_all⟩
instance : Uns (List Dat) := ⟨fun n => [.d n], fun us => match us with | .d n :: r => some (n, r) | _ => none, fun us a r h => by split at h <;> simp_all⟩
instance : Uns Unit := ⟨fun _ => [], fun us => some ((), us), fun us a r h => by simp_all⟩
instance {A B : Type} [Uns A] [Uns B] : Uns (A × B) := ⟨fun p => Uns.enc p.1 ++ Uns.enc p.2,
 fun us => match (Uns.dec us : Option (A × List Un)) with | some (a, r) => (match (Uns.dec r : Option (B × List Un)) with | some (b, s) => some ((a, b), s) | none => none) | none => none,
 fun us p r h => by
  split at h
  . rename_i a r1 h1
    split at h
    . rename_i b s h2; cases h; rw [Uns.ok _ _ _ h1, Uns.ok _ _ _ h2, zaA]
    . cases h
  . cases h⟩
abbrev Uns.via {A B : Type} [Uns B] (f : A -> B) (g : B -> A) (h : ∀ b, f (g b) = b) : Uns A := ⟨fun a => Uns.enc (f a), fun us => match (Uns.dec us : Option (B × List Un)) with | some (b, r) => some (g b, r) | none => none, fun us a r e => by
 split at e
 . rename_i b r1 h1; cases e; rw [Uns.ok _ _ _ h1, h]
 . cases e⟩
def onU {A : Type} {R : Type _} [Uns A] (f : A -> Option R) (us : List Un) : Option R :=
 match (Uns.dec us : Option (A × List Un)) with
 | some (a, r) => (match r with | [] => f a | _ => none)
 | none => none
theorem mQ {A : Type} {R : Type _} [Uns A] {f : A -> Option R} {us : List Un} {r : R} (h : onU f us = some r) : ∃ a, us = Uns.enc a /\ f a = some r := by
 unfold onU at h
 split at h
 . rename_i a s h1
   split at h
   . exact ⟨a, by rw [Uns.ok _ _ _ h1]; simp, h⟩
   . cases h
 . cases h
structure aD where
 T : pb
 g : FuncId
 en : Pn
 ex : Pn
 un : List (List Nat)
def Md : List Nat -> List Nat -> Bool
 | [], [] => true
 | a :: r, b :: s => a == b && Md r s
 | _, _ => false
def RC : List Nat -> Bool
 | d :: _ => d == 9
 | [] => false
def zn (un : List (List Nat)) (p : List Nat) : Bool :=
 match RC p with
 | true => un.any fun q => Md p q
 | false => !(un.any fun q => Md p q)
def frm (n : Nat) (l : List (Nat × VP)) : List VP := (List.range n).map fun i => (l.lookup i).getD .any
section
variable (P : Program) (L : List FuncId) (O : bj) (kn : FuncId -> Bool) (F : aD)
def aD.body : Code := il (cB P F.g)
def aD.rv : List ResultVar := (cB P F.g).results.toList
def aD.K : List Nat := bA F.en F.ex
def aD.eX (t : aT) : Prop := v8 P L O (F.rv P) F.ex F.K (F.body P) t
def aD.Cn (tg : List Tag) (pat : Pn) (us : List Un) (W : List aT) : Option (List Un) :=
 match tg with
 | .lp p :: rest =>
  (match nav (F.body P) (0 :: p), fm (F.body P) rest with
   | some b, some its => fC P L F.T (rL P L F.T kn 20) (zn F.un) 100000 (.code (0 :: p) b :: .lp p b :: its) ⟨pat.eP us, pat.cd us⟩ (DG P (F.rv P) F.ex F.K W)
   | _, _ => none)
 | _ => none
def aD.cutAt (p : List Nat) (rest : List Tag) (pat : Pn) (us : List Un) (W : List aT) : Option (List Un) :=
 match nav (F.body P) p, fm (F.body P) rest with
 | some c, some its => fC P L F.T (rL P L F.T kn 20) (zn (F.un.filter fun q => !(Md (9 :: p) q))) 100000 (.code p c :: its) ⟨pat.eP us, pat.cd us⟩ (DG P (F.rv P) F.ex F.K W)
 | _, _ => none
def aD.Ct (us : List Un) (W : List aT) : Option (List Un) :=
 fC P L F.T (rL P L F.T kn 20) (zn F.un) 100000 [.code [] (F.body P)] ⟨F.en.eP us ++ List.replicate ((cB P F.g).ntmps - (F.en.eP us).length) (.tup []), F.en.cd us⟩ (DG P (F.rv P) F.ex F.K W)
end
def bp {A : Type} (Fs : (A -> Option (List Un)) -> A -> Option (List Un)) : Nat -> A -> Option (List Un)
 | 0 => fun _ => none
 | n + 1 => Fs (bp Fs n)
section
variable {P : Program} {L : List FuncId} {O : bj} {kn : FuncId -> Bool} {F : aD}
theorem ay {A : Type} [Uns A] (hkn : ∀ g, kn g = false -> ∀ args H, O g args H = none) (hT : dC P L O F.T) {tg : List Tag} {pat : Pn} {Fs : (A -> Option (List Un)) -> A -> Option (List Un)} (W : (A -> Option (List Un)) -> List aT)
 (hW : ∀ k, F.eX P L O ⟨tg, pat, onU k⟩ -> ∀ t ∈ W k, F.eX P L O t)
 (G : ∀ k a, F.Cn P L kn tg pat (Uns.enc a) (W k) = Fs k a) (n : Nat) : F.eX P L O ⟨tg, pat, onU (bp Fs n)⟩ := by
 induction n with
 | zero =>
  intro its φ fr S fv H ys _ _ _ _ _ hv; unfold aT.at at hv
  split at hv
  . obtain ⟨a, _, h⟩ := mQ hv; cases h
  . cases hv
 | succ n ih =>
  intro its φ fr S fv H ys ha htag hnb hS hf hat; have hat0 := hat; unfold aT.at at hat
  split at hat
  . obtain ⟨a, _, h⟩ := mQ hat; have h : Fs (bp Fs n) a = some ys := h; rw [<- G] at h; unfold aD.Cn at h
    split at h
    . rename_i p rest
      split at h
      . rename_i b its2 hb hi; refine aT.step (W := W (bp Fs n)) (d := 20) (n := 100000) (stop := zn F.un) hkn hT rfl hi hb (hW _ ih) (fun us zs hv => ?_) its φ fr S fv H ys ha htag hnb hS hf hat0; obtain ⟨a', e, hv2⟩ := mQ (f := bp Fs (n + 1)) hv; have hv2 : Fs (bp Fs n) a' = some zs := hv2; rw [<- G] at hv2; unfold aD.Cn at hv2; simp only [hb, hi] at hv2; rw [e]; exact hv2
      . cases h
    . cases h
  . cases hat
theorem xo {A : Type} [Uns A] (hkn : ∀ g, kn g = false -> ∀ args H, O g args H = none) (hT : dC P L O F.T) {p : List Nat} {rest : List Tag} {pat : Pn} {Fs : A -> Option (List Un)} (W : List aT)
 (hW : ∀ t ∈ W, F.eX P L O t) (G : ∀ a, F.cutAt P L kn p rest pat (Uns.enc a) W = Fs a) : F.eX P L O ⟨.code p :: rest, pat, onU Fs⟩ := by
 intro its φ fr S fv H ys ha htag hnb hS hf hat; unfold aT.at at hat
 split at hat
 . rename_i us τ hof; obtain ⟨a, e, h⟩ := mQ (f := Fs) hat; rw [<- G] at h; unfold aD.cutAt at h
   split at h
   . rename_i c its2 hc hi; obtain ⟨a1, a2⟩ := iG hi; have hl : Tag.item (F.body P) (.code p) = some (.code p c) := by simp [Tag.item, hc]
     have : its = .code p c :: its2 := by
      refine cT.same ha (.cons (i := .code p c) hl a1) ?_
      rw [htag]; simp [Item.tag, a2]
     subst this; subst e; obtain ⟨φ1, g1, g2⟩ := uA hof hnb hS; obtain ⟨y, H', φ', k1, k2, k3⟩ := HA hkn hT hW (.cons (i := .code p c) hl a1) (hnb.since g1) g1.sim (g2 fv hf) h; exact ⟨y, H', φ', k1, g1.trans k2, k3⟩
   . cases h
 . cases hat
theorem aD.MO (hkn : ∀ g, kn g = false -> ∀ args H, O g args H = none) (hT : dC P L O F.T) {us ys : List Un} {W : List aT} (hk : kn F.g = false) (hg : (P.funcs[F.g]?).isSome = true) (hb : (cB P F.g).body.isSome = true)
 (hW : ∀ t ∈ W, F.eX P L O t) (h : F.Ct P L kn us W = some ys) : vt P L O F.g F.en F.ex us ys := by
 obtain ⟨fn, hg⟩ := zbu.1 hg; have hf : cB P F.g = fn := by simp [cB, hg]
 unfold aD.eX aD.body aD.rv aD.K at hW; unfold aD.Ct aD.body aD.rv aD.K at h; rw [hf] at hb hW h; obtain ⟨c, hb⟩ := zbu.1 hb; have hc : il fn = c := by simp [il, hb]
 rw [hc] at hW h; intro φ H vs hnb hS hd; obtain ⟨y, H', φ', h1, h2, h3⟩ := HA hkn hT hW te hnb hS (xI hd fn.ntmps) h; obtain ⟨N, hN⟩ := jj (hkn F.g hk _ _) hg hb h1; exact ⟨N, y, H', φ', hN, h2, h3⟩
end
end
end
end Go.Proofs.YtdbkoeefnodejaaGreat.Ev
namespace Go.Proofs.YtdbkoeefnodejaaGreat.Ev
noncomputable section
noncomputable section
open Go
mutual
def zV (ρ : Nat -> Nat) : SV -> SV
 | .ptr id row w col => .ptr (ρ id) row w col
 | .buf id w ex => .buf (ρ id) w ex
 | .sl id off len w => .sl (ρ id) off len w
 | .np id w col n => .np (ρ id) w col n
 | .fn g x y => .fn g (ml ρ x) (ml ρ y)
 | .agg l => .agg (ml ρ l)
 | .tup l => .tup (ml ρ l)
 | v => v
def ml (ρ : Nat -> Nat) : List SV -> List SV
 | [] => []
 | v :: l => zV ρ v :: ml ρ l
end
mutual
def uZ : SV -> Bool
 | .deep _ => false
 | .dp _ _ _ => false
 | .fn _ x y => iz x && iz y
 | .agg l => iz l
 | .tup l => iz l
 | _ => true
def iz : List SV -> Bool
 | [] => true
 | v :: l => uZ v && iz l
end
def Sch.flat : Sch -> Bool
 | .int _ => true
 | .bool => true
 | _ => false
def GX : aF -> Bool
 | .ints _ _ => true
 | .ag l _ => l.all Sch.flat
def As (ρ : Nat -> Nat) : aO -> aO
 | .cells l => .cells (ml ρ l)
 | .cont c => .cont c
 | .dJ id w col rows => .dJ (ρ id) w col rows
def IM : aO -> Bool
 | .cells l => iz l
 | .cont c => GX c
 | .dJ _ _ _ _ => true
theorem eN (ρ : Nat -> Nat) : ∀ (l : List SV) (i : Nat), (ml ρ l)[i]? = (l[i]?).map (zV ρ)
 | [], i => by simp [ml]
 | v :: l, 0 => by simp [ml]
 | v :: l, i + 1 => by simp only [ml, zaS]; exact eN ρ l i
theorem eL (ρ : Nat -> Nat) : ∀ (l : List SV), (ml ρ l).length = l.length
 | [] => rfl
 | v :: l => by simp [ml, eL ρ l]
theorem iC : ∀ {l : List SV} {i : Nat} {s : SV}, iz l = true -> l[i]? = some s -> uZ s = true
 | [], i, s, _, h => by simp at h
 | v :: l, 0, s, hl, h => by simp only [iz, zab] at hl; simp at h; subst h; exact hl.1
 | v :: l, i + 1, s, hl, h => by simp only [iz, zab] at hl; exact iC hl.2 (by simpa using h)
theorem Ho {c : aF} (h : GX c = true) {r j : Nat} {s : SV} (hs : (c.row r)[j]? = some s) : (∃ k n, s = .i k n) \/ ∃ x, s = .b x := by
 cases c with
 | ints k xs =>
  simp only [aF.row] at hs; cases j with
  | zero => simp at hs; subst hs; exact .inl ⟨_, _, rfl⟩
  | succ j => simp at hs
 | ag l xs =>
  simp only [aF.row] at hs; rw [fY] at hs; cases hl : l[j]? with
  | none => rw [hl] at hs; cases hs
  | some sc =>
   rw [hl] at hs; cases hs; simp only [GX, zam] at h; have := h sc (zaJ hl); cases sc with
   | int k => exact .inl ⟨_, _, rfl⟩
   | bool => exact .inr ⟨_, rfl⟩
   | ints k => cases this
   | ag l => cases this
section
variable {φ φ' φ'' : Phi} {H H' : ai} {own own' : Nat -> Prop} {ρ : Nat -> Nat}
theorem DV.ren (hρ : ∀ j y, φ j = some y -> φ' (ρ j) = some y) {s : SV} {v : Value} (h : DV φ H own s v) : uZ s = true -> DV φ' H own' (zV ρ s) v := by
 induction h with
 | any v => intro _; exact .any v
 | i k n => intro _; exact .i k n
 | b x => intro _; exact .b x
 | str s => intro _; exact .str s
 | gR => intro _; exact .gR
 | dV => intro _; exact .dV
 | kX => intro _; exact .kX
 | wj => intro _; exact .wj
 | ptr id row w col x h => intro _; exact .ptr _ row w col x (hρ _ _ h)
 | buf id w ex x n sp h hn hs => intro _; exact .buf _ w ex x n sp (hρ _ _ h) hn hs
 | dx id w h => intro _; exact .dx _ w (hρ _ _ h)
 | sl id off len w x o sp cap h ho hs hc hin => intro _; exact .sl _ off len w x o sp cap (hρ _ _ h) ho hs hc hin
 | dj id w h => intro _; exact .dj _ w (hρ _ _ h)
 | cy c h => intro h; cases h
 | deep c x o sp cap blk hs hc hb ho hl _ ih => intro h; cases h
 | dp c row col x o blk hb ho hl _ ih => intro h; cases h
 | je id w col n hn => intro _; exact .je _ w col n hn
 | np id w col x n hn h => intro _; exact .np _ w col x n hn (hρ _ _ h)
 | fn g x y x' y' hx hy _ _ ix iy =>
  intro h; simp only [uZ, zab] at h; refine .fn g _ _ x' y' (by rw [eL]; exact hx) (by rw [eL]; exact hy) (fun i s v h1 h2 => ?_) (fun i s v h1 h2 => ?_)
  . rw [eN, zag] at h1; obtain ⟨u, h3, rfl⟩ := h1; exact ix i u v h3 h2 (iC h.1 h3)
  . rw [eN, zag] at h1; obtain ⟨u, h3, rfl⟩ := h1; exact iy i u v h3 h2 (iC h.2 h3)
 | agg l x' hx _ ix =>
  intro h; refine .agg _ x' (by rw [eL]; exact hx) (fun i s v h1 h2 => ?_); rw [eN, zag] at h1; obtain ⟨u, h3, rfl⟩ := h1; exact ix i u v h3 h2 (iC (by simpa [uZ] using h) h3)
 | tup l x' hx _ ix =>
  intro h; refine .tup _ x' (by rw [eL]; exact hx) (fun i s v h1 h2 => ?_); rw [eN, zag] at h1; obtain ⟨u, h3, rfl⟩ := h1; exact ix i u v h3 h2 (iC (by simpa [uZ] using h) h3)
theorem uW {s : SV} (h : flat s) : zV ρ s = s := by cases s <;> first | rfl | exact h.elim
theorem DV.Ou (hρ : ∀ j y, φ j = some y -> φ' (ρ j) = some y) (ho : ∀ x c, H.get x = some c -> ¬ own x -> ¬ own' x) {s : SV} {v : Value} (h : DV φ H own s v) : DV φ' H own' (zV ρ s) v := by
 induction h with
 | any v => exact .any v
 | i k n => exact .i k n
 | b x => exact .b x
 | str s => exact .str s
 | gR => exact .gR
 | dV => exact .dV
 | kX => exact .kX
 | wj => exact .wj
 | ptr id row w col x h => exact .ptr _ row w col x (hρ _ _ h)
 | buf id w ex x n sp h hn hs => exact .buf _ w ex x n sp (hρ _ _ h) hn hs
 | dx id w h => exact .dx _ w (hρ _ _ h)
 | sl id off len w x o sp cap h h1 hs hc hin => exact .sl _ off len w x o sp cap (hρ _ _ h) h1 hs hc hin
 | dj id w h => exact .dj _ w (hρ _ _ h)
 | cy c h => exact .cy c h
 | deep c x o sp cap blk hs hc hb h1 hl _ ih =>
  refine .deep c x o sp cap blk hs hc hb (ho x blk hb h1) hl (fun r hr j s hj v hv => ?_); have := ih r hr j s hj v hv
  rwa [uW (iS hj)] at this
 | dp c row col x o blk hb h1 hl _ ih =>
  refine .dp c row col x o blk hb (ho x blk hb h1) hl (fun r hr j s hj v hv => ?_); have := ih r hr j s hj v hv
  rwa [uW (iS hj)] at this
 | je id w col n hn => exact .je _ w col n hn
 | np id w col x n hn h => exact .np _ w col x n hn (hρ _ _ h)
 | fn g x y x' y' hx hy _ _ ix iy =>
  refine .fn g _ _ x' y' (by rw [eL]; exact hx) (by rw [eL]; exact hy) (fun i s v h1 h2 => ?_) (fun i s v h1 h2 => ?_)
  . rw [eN, zag] at h1; obtain ⟨u, h3, rfl⟩ := h1; exact ix i u v h3 h2
  . rw [eN, zag] at h1; obtain ⟨u, h3, rfl⟩ := h1; exact iy i u v h3 h2
 | agg l x' hx _ ix =>
  refine .agg _ x' (by rw [eL]; exact hx) (fun i s v h1 h2 => ?_); rw [eN, zag] at h1; obtain ⟨u, h3, rfl⟩ := h1; exact ix i u v h3 h2
 | tup l x' hx _ ix =>
  refine .tup _ x' (by rw [eL]; exact hx) (fun i s v h1 h2 => ?_); rw [eN, zag] at h1; obtain ⟨u, h3, rfl⟩ := h1; exact ix i u v h3 h2
theorem BV.ren (hρ : ∀ j y, φ j = some y -> φ' (ρ j) = some y) {B : aO} {cs : List Value} (h : BV φ H own B cs) (hl : IM B = true \/ ∀ x c, H.get x = some c -> ¬ own x -> ¬ own' x) : BV φ' H own' (As ρ B) cs := by
 cases B with
 | cells l =>
  refine ⟨by rw [eL]; exact h.1, fun i s v h1 h2 => ?_⟩; rw [eN, zag] at h1; obtain ⟨u, h3, rfl⟩ := h1; rcases hl with hl | hl
  . exact (h.2 i u v h3 h2).ren hρ (iC hl h3)
  . exact (h.2 i u v h3 h2).Ou hρ hl
 | cont c =>
  refine ⟨h.1, fun r hr j s hs v hv => ?_⟩; have := h.2 r hr j s hs v hv; rcases hl with hl | hl
  . rcases Ho hl hs with ⟨k, n, rfl⟩ | ⟨x, rfl⟩
    . cases this; exact .i _ _
    . cases this; exact .b _
  . have := this.Ou (ρ := ρ) hρ hl
    rwa [uW (iS hs)] at this
 | dJ id w col rows =>
  refine ⟨h.1, fun r v hr hv => ?_⟩; have := h.2 r v hr hv; cases this with
  | je _ _ _ _ hn => exact .je _ _ _ _ hn
  | np _ _ _ x _ hn hx => exact .np _ _ _ x _ hn (hρ _ _ hx)
theorem Da {B : aO} (h : B.empty) : (As ρ B).empty := by cases B <;> exact h
end
def eW : List (Nat × Option aO) -> Nat -> Option (Option aO)
 | [], _ => none
 | (j, b) :: r, k => if k = j then some b else eW r k
def jo : List (Nat × Option aO) -> aj -> aj
 | [], S => S
 | (j, b) :: r, S => (jo r S).put j b
theorem nR : ∀ (l : List (Nat × Option aO)) (S : aj), (jo l S).size = S.size /\ (jo l S).lock = S.lock /\ (jo l S).hid = S.hid
 | [], S => ⟨rfl, rfl, rfl⟩
 | p :: r, S => nR r S
theorem lK : ∀ (l : List (Nat × Option aO)) (S : aj) (k : Nat), (jo l S).root.get k = match eW l k with | some b => b | none => S.root.get k
 | [], S, k => rfl
 | (j, b) :: r, S, k => by
  simp only [jo, eW]; rw [aj.cz]
  split
  . rfl
  . exact lK r S k
theorem nv : ∀ {l : List (Nat × Option aO)} {k : Nat} {b : Option aO}, eW l k = some b -> (k, b) ∈ l
 | [], k, b, h => by cases h
 | (j, c) :: r, k, b, h => by
  simp only [eW] at h
  split at h
  . rename_i e; cases h; subst e; simp
  . exact zaQ _ (nv h)
theorem gr : ∀ {l : List (Nat × Option aO)} {k : Nat}, eW l k = none -> ∀ b, (k, b) ∉ l
 | [], k, h, b => by simp
 | (j, c) :: r, k, h, b => by
  simp only [eW] at h
  split at h
  . cases h
  . rename_i e; intro hm; rcases zaV.1 hm with hm | hm
    . cases hm; exact e rfl
    . exact gr h b hm
def wN (K : List Nat) (τ : Sub) (j : Nat) : Option Nat := match K.contains j with | true => (match τ.get j with | some (some id) => some id | _ => none) | false => none
def jy (K : List Nat) (τ : Sub) (n j : Nat) : Nat := match wN K τ j with | some id => id | none => n + j
def zi (lk : Nat) (K : List Nat) (τ : Sub) (ρ : Nat -> Nat) (Bs : List (Option aO)) (n : Nat) : List (Nat × Option aO) :=
 (List.range n).filterMap fun j => match decide (lk <= j) with
  | true => (match τ.get j with | some (some id) => some (id, match K.contains j with | true => ((Bs[j]?).join).map (As ρ) | false => none) | _ => none)
  | false => none
def o8 (τ : Sub) : List (Nat × Option aO) := τ.filterMap fun p => match decide (1000000 <= p.1) with | true => (match p.2 with | some id => some (id, none) | none => none) | false => none
def Gj (τ : Sub) (S : aj) : Bool := (o8 τ).all fun p => decide (S.lock <= p.1) && (S.get p.1).isSome
def jC (lk : Nat) (K : List Nat) (τ : Sub) (ρ : Nat -> Nat) : Nat -> List (Option aO) -> List (Option aO)
 | _, [] => []
 | j, b :: r => (match decide (lk <= j) with
  | true => (match wN K τ j with | some _ => none | none => b.map (As ρ))
  | false => none) :: jC lk K τ ρ (j + 1) r
theorem xe (lk : Nat) (K : List Nat) (τ : Sub) (ρ : Nat -> Nat) : ∀ (j : Nat) (l : List (Option aO)), (jC lk K τ ρ j l).length = l.length
 | _, [] => rfl
 | j, b :: r => by simp [jC, xe lk K τ ρ]
theorem yc {lk : Nat} {K : List Nat} {τ : Sub} {ρ : Nat -> Nat} : ∀ {l : List (Option aO)} {j i : Nat} {B : aO}, (jC lk K τ ρ j l)[i]? = some (some B) -> (wN K τ (j + i) = none /\ lk <= j + i) /\ ∃ C, l[i]? = some (some C) /\ B = As ρ C
 | [], j, i, B, h => by simp [jC] at h
 | b :: r, j, 0, B, h => by
  simp only [jC, zbp, zaj] at h
  split at h
  . rename_i hl
    split at h
    . cases h
    . rename_i e; rw [zag] at h; obtain ⟨C, rfl, rfl⟩ := h; exact ⟨⟨e, zak hl⟩, C, by simp, rfl⟩
  . cases h
 | b :: r, j, i + 1, B, h => by
  simp only [jC, zaS] at h; obtain ⟨h1, C, h2, h3⟩ := yc h; exact ⟨by rw [show j + (i + 1) = j + 1 + i by omega]; exact h1, C, by simpa using h2, h3⟩
theorem ve : ∀ {ps : List BP} {us : List Un} {j : Nat} {p : BP}, ps[j]? = some p -> p.hJ = false -> ∃ B, (cY ps us)[j]? = some (some B)
 | [], us, j, p, h, _ => by simp at h
 | q :: ps, us, 0, p, h, hg => by
  simp only [zbp, zaj] at h; subst h; simp only [cY, zbp, zaj]; unfold BP.to
  split <;> first | exact ⟨_, rfl⟩ | cases hg
 | q :: ps, us, j + 1, p, h, hg => by
  simp only [cY, zaS]; exact ve (by simpa using h) hg
def mX (gd : List (Nat × Option aO)) (news : List (Option aO)) (S : aj) : aj := news.foldl aj.nT (jo gd S)
inductive Ys : Type 1 where
 | now (ys : List Un)
 | bind (B : Type) (b : B) (enc : B -> List Un)
def Ys.us : Ys -> List Un
 | .now ys => ys
 | .bind _ b enc => enc b
structure mo where
 en : Pn
 ex : Pn
 f : List Un -> Option (Bool × Ys)
def MM : Option aO -> Bool
 | some B => IM B
 | none => true
def mo.lean (e : mo) (ys : List Un) : Bool := iz (e.ex.eP ys) && (cY e.ex.bQ (ys.drop e.ex.size)).all MM
def Nd (en ex : Pn) : Bool := (List.range en.lk).all (fun j => (bA en ex).contains j) && decide (ex.lk <= en.lk)
def mo.run (e : mo) (args : List SV) (S : aj) : Option (Bool × CQ) :=
 match e.en.bQ.any BP.hJ || !Nd e.en e.ex, e.en.of [] args S with
 | false, some (us, τ) =>
  (match e.f us with
   | some (c, .bind B b enc) =>
    (match e.lean (enc b) with
     | true => some (c, .bind B b fun u => (zV (jy (bA e.en e.ex) τ S.size) (mU (e.ex.eP (enc u))),
      mX (zi e.en.lk (bA e.en e.ex) τ (jy (bA e.en e.ex) τ S.size) (cY e.ex.bQ ((enc u).drop e.ex.size)) e.en.bQ.length) (jC e.en.lk (bA e.en e.ex) τ (jy (bA e.en e.ex) τ S.size) 0 (cY e.ex.bQ ((enc u).drop e.ex.size))) S))
     | false => none)
   | some (c, .now ys) =>
    (match e.lean ys with
     | true => some (c, .now (zV (jy (bA e.en e.ex) τ S.size) (mU (e.ex.eP ys)))
      (mX (zi e.en.lk (bA e.en e.ex) τ (jy (bA e.en e.ex) τ S.size) (cY e.ex.bQ (ys.drop e.ex.size)) e.en.bQ.length) (jC e.en.lk (bA e.en e.ex) τ (jy (bA e.en e.ex) τ S.size) 0 (cY e.ex.bQ (ys.drop e.ex.size))) S))
     | false =>
      (match S.hid.isEmpty && Gj τ S with
       | true => some (c, .now (zV (jy (bA e.en e.ex) τ S.size) (mU (e.ex.eP ys)))
        (mX (zi e.en.lk (bA e.en e.ex) τ (jy (bA e.en e.ex) τ S.size) (cY e.ex.bQ (ys.drop e.ex.size)) e.en.bQ.length ++ o8 τ) (jC e.en.lk (bA e.en e.ex) τ (jy (bA e.en e.ex) τ S.size) 0 (cY e.ex.bQ (ys.drop e.ex.size))) S))
       | false => none))
   | none => none)
 | _, _ => none
section
variable {P : Program} {L : List FuncId} {O : bj} {φ : Phi} {S : aj} {H : ai}
theorem DD {l : List SV} (h : iz l = true) : uZ (mU l) = true := by
 match l, h with
 | [], _ => rfl
 | [s], h => simp only [iz, za6] at h; exact h
 | a :: b :: l, h => exact h
theorem EO {en ex : Pn} {j : Nat} (h : j ∈ bA en ex) : j < en.bQ.length /\ ∃ b, ex.bQ[j]? = some b /\ b.hJ = false := by
 simp only [bA, List.mem_filter, zbs] at h; refine ⟨h.1, ?_⟩; have h2 := h.2
 split at h2
 . rename_i b hb; exact ⟨b, hb, by simpa using h2⟩
 . cases h2
theorem oy {en ex : Pn} {g : FuncId} {us ys : List Un} {τ : Sub} {args : List SV} (hE : vt P L O g en ex us ys) (hof : en.of [] args S = some (us, τ)) (hgn : en.bQ.any BP.hJ = false) (hlo : Nd en ex = true) (ln : Bool) (gd : List (Nat × Option aO))
 (hln : ln = true -> iz (ex.eP ys) = true /\ (cY ex.bQ (ys.drop ex.size)).all MM = true)
 (hnl : ln = false -> NB φ S H /\ (∀ p ∈ o8 τ, S.lock <= p.1 /\ (S.get p.1).isSome = true))
 (hpairs : gd = zi en.lk (bA en ex) τ (jy (bA en ex) τ S.size) (cY ex.bQ (ys.drop ex.size)) en.bQ.length ++ (bif ln then [] else o8 τ))
 {vs : List Value} (hS : Sim φ S H) (hd : DVL φ H (Own φ S) args vs) :
 ∃ N y H', bs P L O N g vs H = some (y, H') /\ Got φ S H (mX gd (jC en.lk (bA en ex) τ (jy (bA en ex) τ S.size) 0 (cY ex.bQ (ys.drop ex.size))) S) (zV (jy (bA en ex) τ S.size) (mU (ex.eP ys))) H' y := by
 generalize hρ : jy (bA en ex) τ S.size = ρ at hpairs ⊢; generalize hBs : cY ex.bQ (ys.drop ex.size) = Bs at hpairs hln ⊢; simp only [Nd, zab, zac] at hlo; obtain ⟨hlo1, hlo2⟩ := hlo; have hlkK : ∀ j, j < en.lk -> j ∈ bA en ex := fun j hj => by
  have := zam.1 hlo1 j (zbs.2 hj); simpa using this
 have hmemH : ∀ j id, en.lk <= j -> j < en.bQ.length -> τ.get j = some (some id) -> ∃ b, (id, b) ∈ gd := by
  intro j id hl hj hid; refine ⟨(match (bA en ex).contains j with | true => ((Bs[j]?).join).map (As ρ) | false => none), ?_⟩; rw [hpairs]; refine zbI _ (zbO.2 ⟨j, zbs.2 hj, ?_⟩); rw [zad hl, hid]
 have hmemV : ln = false -> ∀ id, τ.get (1000000 + id) = some (some id) -> (id, none) ∈ gd := by
  intro hl id hid; rw [hpairs, hl]; refine zbN _ (zbO.2 ⟨(1000000 + id, some id), EJ hid, ?_⟩); simp
 let ban1 : Nat -> Prop := fun x => ln = false /\ (φ.ban x \/ ∃ k C, S.get k = some C /\ φ k = some (some x) /\ eW gd k = none /\ ∀ j, j < en.bQ.length -> τ.get j ≠ some (some k))
 obtain ⟨hS1, hd1, ho1, hp1, _, hap, hkeys, _, ho1W⟩ := MN (ban := ban1) hof hS (fun x hx => by
  rcases hx.2 with h | ⟨k, C, h1, h2, _⟩
  . exact .inl h
  . exact .inr ⟨k, C, h1, h2⟩) (fun id x B hid hB hx hb => by
  obtain ⟨hl, hb⟩ := hb; rcases hb with hb | ⟨k, C, h1, h2, h3, _⟩
  . exact ((hnl hl).1 x hb).2 ⟨id, B, hB, hx⟩
  . have := hS.inj id k B C x hB h1 hx h2; subst this; exact gr h3 _ (hmemV hl id hid))
 generalize hφ1 : φ.sub ban1 τ en.bQ.length = φ1 at hS1 hd1 ho1 hp1 ho1W; have hb1 : φ1.ban = ban1 := by rw [<- hφ1]; rfl
 have hnb1 : NB φ1 (en.cd us) H := by
  intro x hx; rw [hb1] at hx; obtain ⟨hl, hx⟩ := hx; rcases hx with hx | ⟨k, C, h1, h2, h3, h9⟩
  . obtain ⟨a, b⟩ := (hnl hl).1 x hx; refine ⟨a, fun h => b ?_⟩; obtain ⟨j, id, B, _, _, g3, g4⟩ := ho1 x h; exact ⟨id, B, g3, g4⟩
  . refine ⟨hS.lt k x h2, fun h => ?_⟩; obtain ⟨j, id, B, g1, g2, g3, g4⟩ := ho1 x h; have := hS.inj k id C B x h1 g3 h2 g4; subst this; exact h9 j g1 g2
 obtain ⟨N, y, H', φ', hcall, hsin, hdv⟩ := hE φ1 H vs hnb1 hS1 (hd1 vs hd); refine ⟨N, y, H', hcall, ?_⟩; have hBl : Bs.length = ex.bQ.length := by rw [<- hBs, qf]
 have hxh : ex.cd ys = { fI Bs with lock := ex.lk } := by unfold Pn.cd; rw [hBs]
 rw [hxh] at hsin hdv; have hS2 := hsin.sim; have hgetB : ∀ (j : Nat) (B : aO), Bs[j]? = some (some B) -> ({ fI Bs with lock := ex.lk } : aj).get j = some B := fun j B h => by
  show (fI Bs).get j = some B; rw [tZ, h]; rfl
 have hpl : ∀ j id, wN (bA en ex) τ j = some id -> j ∈ bA en ex /\ j < en.bQ.length /\ τ.get j = some (some id) /\ ρ j = id := by
  intro j id h; have h0 := h; unfold wN at h
  split at h
  . rename_i hk; have hk : j ∈ bA en ex := by simpa using hk
    split at h
    . rename_i id' hid; cases h; refine ⟨hk, (EO hk).1, hid, ?_⟩; rw [<- hρ]; unfold jy; rw [h0]
    . cases h
  . cases h
 have hnp : ∀ j, wN (bA en ex) τ j = none -> ρ j = S.size + j := by
  intro j h; rw [<- hρ]; unfold jy; rw [h]
 have hid : ∀ j id, j < en.bQ.length -> τ.get j = some (some id) -> (en.lk <= j -> S.lock <= id) /\ (∃ B, S.get id = some B) := by
  intro j id hj h; refine ⟨fun hl => ?_, ?_⟩
  . rcases th hkeys h with h | ⟨_, h⟩
    . have := GY hof; omega
    . exact h id rfl hl
  . exact KI hof hS hgn hj h
 let φ2 : Phi := ⟨fun k => if k < S.size then φ k else φ' (k - S.size), φ.ban⟩
 have hφ2lt : ∀ k, k < S.size -> φ2 k = φ k := fun k h => if_pos h
 have hφ2ge : ∀ k, S.size <= k -> φ2 k = φ' (k - S.size) := fun k h => if_neg (by omega)
 have hlt2 : ∀ z y, φ z = some y -> z < S.size := by
  intro z y h; rcases zb4 z S.size with h1 | h1
  . exact h1
  . rw [hS.fresh z h1] at h; cases h
 have hsame : ∀ j id, wN (bA en ex) τ j = some id -> ∃ y, φ id = some y /\ φ' j = some y := by
  intro j id h; obtain ⟨h1, h2, h3, h4⟩ := hpl j id h; obtain ⟨_, B, hB⟩ := hid j id h2 h3; have e := hp1 j id h2 h3; rcases hS.blk id B hB with ⟨k1, _⟩ | ⟨x, d, k1, _⟩
  . exact ⟨_, k1, hsin.ent j h1 _ (by rw [e]; exact k1)⟩
  . exact ⟨_, k1, hsin.ent j h1 _ (by rw [e]; exact k1)⟩
 have hρφ : ∀ j y, φ' j = some y -> φ2 (ρ j) = some y := by
  intro j y h; cases hi : wN (bA en ex) τ j with
  | some id =>
   obtain ⟨y', k1, k2⟩ := hsame j id hi; rw [(hpl j id hi).2.2.2, hφ2lt _ (hlt2 _ _ k1), k1]; rw [k2] at h; exact h
  | none =>
   rw [hnp j hi, hφ2ge _ (by omega), show S.size + j - S.size = j by omega]; exact h
 have hle : ∀ z y, φ z = some y -> φ2 z = some y := fun z y h => by rw [hφ2lt z (hlt2 z y h)]; exact h
 generalize hSS : mX gd (jC en.lk (bA en ex) τ ρ 0 Bs) S = SS; obtain ⟨f1, f2, f3⟩ := nR gd S; have fr := foldl_push (jC en.lk (bA en ex) τ ρ 0 Bs) (jo gd S); rw [show (jC en.lk (bA en ex) τ ρ 0 Bs).foldl aj.nT (jo gd S) = SS from hSS] at fr; obtain ⟨r1, r2, r3, r4⟩ := fr; rw [f1] at r1 r4; rw [f2] at r2; rw [f3] at r3; rw [xe] at r1 r4; have hget : ∀ (k : Nat) (C : aO), SS.get k = some C -> (∃ (j : Nat) (B : aO), (Bs[j]? = some (some B) /\ en.lk <= j) /\ C = As ρ B /\ ρ j = k) \/ (k < S.size /\ eW gd k = none /\ S.get k = some C) := by
  intro k C hk; have h1 := aj.bh hk; obtain ⟨h2, h3⟩ := aj.aN hk; rw [r4] at h2; rw [r3] at h3
  by_cases hge : S.size <= k
  . rw [if_pos ⟨hge, by rw [r1] at h1; exact h1⟩] at h2; obtain ⟨g1, B, g2, g3⟩ := yc (i := k - S.size) (B := C) (by
     cases hx : (jC en.lk (bA en ex) τ ρ 0 Bs)[k - S.size]? with
     | none => rw [hx] at h2; cases h2
     | some o => rw [hx] at h2; simp at h2; rw [h2])
    rw [zaD] at g1; exact .inl ⟨_, B, ⟨g2, g1.2⟩, g3, by rw [hnp _ g1.1]; omega⟩
  . rw [if_neg (by omega), lK] at h2; cases hl : eW gd k with
    | none =>
     rw [hl] at h2; exact .inr ⟨by omega, rfl, (aj.eE (by omega) h3).trans h2⟩
    | some b =>
     rw [hl] at h2; have h2 : b = some C := h2; subst h2; have hm := nv hl; rw [hpairs] at hm; rcases zbk.1 hm with hm | hm
     . obtain ⟨j, hj, hj2⟩ := zbO.1 hm; have hj := zbs.1 hj
       split at hj2
       . rename_i hlj; have hlj := zak hlj
         split at hj2
         . rename_i id hid'; simp only [zaj, zaO] at hj2; obtain ⟨rfl, hj3⟩ := hj2
           split at hj3
           . rename_i hk; rw [zag] at hj3; obtain ⟨B, g1, g2⟩ := hj3; have hi : wN (bA en ex) τ j = some id := by unfold wN; rw [hk, hid']
             refine .inl ⟨j, B, ⟨?_, hlj⟩, g2.symm, (hpl j id hi).2.2.2⟩; cases hx : Bs[j]? with
             | none => rw [hx] at g1; cases g1
             | some o => rw [hx] at g1; simp at g1; rw [g1]
           . cases hj3
         . cases hj2
       . cases hj2
     . exfalso; cases ln with
       | true => simp at hm
       | false =>
        have hm : (k, some C) ∈ o8 τ := hm; obtain ⟨p, _, hp⟩ := zbO.1 hm
        split at hp
        . split at hp
          . simp at hp
          . cases hp
        . cases hp
 have hownC : ∀ x, x < H.size -> dU φ' { fI Bs with lock := ex.lk } x -> ∃ (j id : Nat) (B : aO), j < en.bQ.length /\ τ.get j = some (some id) /\ S.get id = some B /\ φ id = some (some x) := fun x hx h => ho1 x (hsin.own x hx h)
 have hcls : ∀ (k : Nat) (C : aO) (x : Nat), SS.get k = some C -> φ2 k = some (some x) -> (∃ (j : Nat) (B : aO), (Bs[j]? = some (some B) /\ en.lk <= j) /\ φ' j = some (some x) /\ ρ j = k) \/ (k < S.size /\ eW gd k = none /\ S.get k = some C /\ φ k = some (some x)) := by
  intro k C x hk hx; rcases hget k C hk with ⟨j, B, h1, _, h3⟩ | ⟨hlt, hno, h2⟩
  . refine .inl ⟨j, B, h1, ?_, h3⟩; rcases hS2.blk j B (hgetB j B h1.1) with ⟨g1, _⟩ | ⟨x', _, g1, _⟩
    . have := hρφ j _ g1; rw [h3, hx] at this; cases this
    . have := hρφ j _ g1; rw [h3, hx] at this; cases this; exact g1
  . rw [hφ2lt k hlt] at hx; exact .inr ⟨hlt, hno, h2, hx⟩
 have hown : ∀ x, x < H.size -> dU φ2 SS x -> dU φ S x := by
  rintro x hx ⟨k, C, g1, g2⟩
  rcases hcls k C x g1 g2 with ⟨j, B, h1, h2, _⟩ | ⟨_, _, h2, h3⟩
  . obtain ⟨_, id, B', _, _, h5, h6⟩ := hownC x hx ⟨j, B, hgetB j B h1.1, h2⟩; exact ⟨id, B', h5, h6⟩
  . exact ⟨k, C, h2, h3⟩
 have ho1' : ∀ x, mB φ1 (en.cd us) x -> mB φ S x := fun x h => by
  obtain ⟨_, id, B', _, _, _, h4, h5, h6⟩ := ho1W x h; exact ⟨id, B', h4, h5, h6⟩
 have hkeep : ∀ x, x < H.size -> ¬ mB φ S x -> H'.get x = H.get x := fun x hx h => hsin.fi x hx (fun h' => h (ho1' x h'))
 have hext : Ext φ H (Own φ S) φ2 H' (Own φ2 SS) := by
  refine ⟨hle, fun x c h1 h2 => ?_, fun id x c' h1 h2 => hsin.len x c' (hS.lt id x h1) h2⟩; have hx := ai.bh h1; refine ⟨by rw [hkeep x hx (fun h => h2 (.inr h.toI))]; exact h1, ?_⟩
  rintro (h | h)
  . exact h2 (.inl h)
  . exact h2 (.inr (hown x hx h))
 have hdeep : ln = false -> ∀ x c, H'.get x = some c -> ¬ Own φ' { fI Bs with lock := ex.lk } x -> ¬ Own φ2 SS x := by
  intro hl x c _ hno ho; have hbn : φ'.ban = ban1 := hsin.ban.trans hb1; rcases ho with ho | ⟨k, C, g1, g2⟩
  . exact hno (.inl (by rw [hbn]; exact ⟨hl, .inl ho⟩))
  . rcases hcls k C x g1 g2 with ⟨j, B, h1, h2, _⟩ | ⟨_, h1, h2, h3⟩
    . exact hno (.inr ⟨j, B, hgetB j B h1.1, h2⟩)
    . by_cases hj : ∃ j, j < en.bQ.length /\ τ.get j = some (some k)
      . obtain ⟨j, g3, g4⟩ := hj; rcases zb4 j en.lk with hlj | hlj
        . have hK := hlkK j hlj; obtain ⟨_, b, hb, hbg⟩ := EO hK; obtain ⟨B, hB⟩ := ve (us := ys.drop ex.size) hb hbg; rw [hBs] at hB; exact hno (.inr ⟨j, B, hgetB j B hB, hsin.ent j hK _ (by rw [hp1 j k g3 g4]; exact h3)⟩)
        . obtain ⟨b, hb⟩ := hmemH j k hlj g3 g4; exact gr h1 b hb
      . exact hno (.inl (by rw [hbn]; exact ⟨hl, .inr ⟨k, C, h2, h3, h1, fun j g3 g4 => hj ⟨j, g3, g4⟩⟩⟩))
 have hleanB : ∀ (j : Nat) (B : aO), Bs[j]? = some (some B) -> IM B = true \/ ∀ x c, H'.get x = some c -> ¬ Own φ' { fI Bs with lock := ex.lk } x -> ¬ Own φ2 SS x := by
  intro j B hj; cases ln with
  | true => exact .inl (zam.1 (hln rfl).2 _ (zaJ hj))
  | false => exact .inr (hdeep rfl)
 have hnew : ∀ (j : Nat) (B : aO), Bs[j]? = some (some B) -> en.lk <= j -> (φ2 (ρ j) = some none /\ (As ρ B).empty) \/ ∃ x c, φ2 (ρ j) = some (some x) /\ φ' j = some (some x) /\ H'.get x = some c /\ H'.lock <= x /\ BV φ2 H' (Own φ2 SS) (As ρ B) c.cells := by
  intro j B hj hlj; rcases hS2.blk j B (hgetB j B hj) with ⟨h1, h2⟩ | ⟨x, c, h1, h2, h3, h4⟩
  . exact .inl ⟨hρφ j _ h1, Da h2⟩
  . exact .inr ⟨x, c, hρφ j _ h1, h1, h2, h3 (zax hlo2 hlj), h4.ren hρφ (hleanB j B hj)⟩
 have hstay : ∀ (k : Nat) (C : aO) (x : Nat) (c : Blk), eW gd k = none -> S.get k = some C -> φ k = some (some x) -> H.get x = some c -> H'.get x = some c := by
  intro k C x c hno h1 h2 h3; rw [hsin.fi x (hS.lt k x h2) ?_]
  . exact h3
  . intro h; obtain ⟨j, id, B, g0, g1, g2, _, g3, g4⟩ := ho1W x h; have := hS.inj k id C B x h1 g3 h2 g4; subst this; obtain ⟨b, hb⟩ := hmemH j k g0 g1 g2; exact gr hno b hb
 have hcross : ∀ (j : Nat) (B : aO) (k : Nat) (C : aO) (x : Nat), (Bs[j]? = some (some B) /\ en.lk <= j) -> φ' j = some (some x) -> eW gd k = none -> S.get k = some C -> φ k = some (some x) -> False := by
  intro j B k C x h1 h2 h4 h5 h6; obtain ⟨i, z, B', gl, g0, g1, _, g2, g3⟩ := ho1W x (hsin.AN x (hS.lt k x h6) ⟨j, B, zax hlo2 h1.2, hgetB j B h1.1, h2⟩); have := hS.inj k z C B' x h5 g2 h6 g3; subst this; obtain ⟨b, hb⟩ := hmemH i k gl g0 g1; exact gr h4 b hb
 have hstep : Step φ S H φ2 SS H' := by
  refine ⟨⟨?_, ?_, ?_, ?_, ?_, by rw [hsin.cW]; exact zax hS.cW hsin.dQ, fun x hx => by rw [hsin.fL]; exact hS.fL x (zax hsin.dQ hx)⟩, hle, rfl, hown, hkeep, hsin.len, hsin.dQ, hsin.cW, hsin.fL, by omega, r2, r3, ?_⟩
  . intro k C hk; rcases hget k C hk with ⟨j, B, h1, rfl, h3⟩ | ⟨hlt, hno, h2⟩
    . rw [<- h3]; rcases hnew j B h1.1 h1.2 with ⟨g1, g2⟩ | ⟨x, c, g1, _, g2, g4, g3⟩
      . exact .inl ⟨g1, g2⟩
      . exact .inr ⟨x, c, g1, g2, fun _ => g4, g3⟩
    . rcases hS.blk k C h2 with ⟨g1, g2⟩ | ⟨x, c, g1, g2, g3, g4⟩
      . exact .inl ⟨hle _ _ g1, g2⟩
      . exact .inr ⟨x, c, hle _ _ g1, hstay k C x c hno h2 g1 g2, fun h => by rw [hsin.cW]; exact g3 (by rw [<- r2]; exact h), g4.mono hext⟩
  . intro k k' C C' x h1 h2 h3 h4; rcases hcls k C x h1 h3 with ⟨j, B, a1, a2, a3⟩ | ⟨a1, a2, a3, a4⟩
    . rcases hcls k' C' x h2 h4 with ⟨j', B', b1, b2, b3⟩ | ⟨b1, b2, b3, b4⟩
      . have := hS2.inj j j' B B' x (hgetB _ _ a1.1) (hgetB _ _ b1.1) a2 b2; subst this; rw [<- a3, <- b3]
      . exact (hcross j B k' C' x a1 a2 b2 b3 b4).elim
    . rcases hcls k' C' x h2 h4 with ⟨j', B', b1, b2, b3⟩ | ⟨b1, b2, b3, b4⟩
      . exact (hcross j' B' k C x b1 b2 a2 a3 a4).elim
      . exact hS.inj k k' C C' x a3 b3 a4 b4
  . intro k hk; rw [r1] at hk; rw [hφ2ge k (by omega)]; exact hS2.fresh _ (by show (fI Bs).size <= _; rw [j9]; omega)
  . intro k x hx
    by_cases hk : k < S.size
    . rw [hφ2lt k hk] at hx; exact zat (hS.lt k x hx) hsin.dQ
    . rw [hφ2ge k (by omega)] at hx; exact hS2.lt _ x hx
  . rw [r1, r2]; have := hS.gH; omega
  . intro k h1 h2; rw [r4, if_neg (by omega), lK]; cases hl : eW gd k with
    | none => rfl
    | some b =>
     exfalso; have hm := nv hl; rw [hpairs] at hm; have hbad : S.lock <= k /\ ∃ B, S.get k = some B := by
      rcases zbk.1 hm with hm | hm
      . obtain ⟨j, hj, hj2⟩ := zbO.1 hm; have hj := zbs.1 hj
        split at hj2
        . rename_i hlj
          split at hj2
          . rename_i id hid'; simp only [zaj, zaO] at hj2; obtain ⟨rfl, _⟩ := hj2; exact ⟨(hid j id hj hid').1 (zak hlj), (hid j id hj hid').2⟩
          . cases hj2
        . cases hj2
      . cases ln with
        | true => simp at hm
        | false =>
         obtain ⟨g1, g2⟩ := (hnl rfl).2 _ hm; exact ⟨g1, zbu.1 g2⟩
     obtain ⟨b1, B0, b2⟩ := hbad; rcases h2 with h2 | h2
     . omega
     . rw [b2] at h2; cases h2
 refine ⟨φ2, hstep, ?_⟩; cases ln with
 | true => exact hdv.ren hρφ (DD (hln rfl).1)
 | false => exact hdv.Ou hρφ (hdeep rfl)
theorem mo.sound {e : mo} {g : FuncId} (hE : ∀ us Y, e.f us = some (true, Y) -> vt P L O g e.en e.ex us Y.us) {args : List SV} {a : CQ} (h : e.run args S = some (true, a))
 {vs : List Value} (hnb : NBh φ S H) (hS : Sim φ S H) (hd : DVL φ H (Own φ S) args vs) : ∃ N y H', bs P L O N g vs H = some (y, H') /\ Got φ S H a.hp a.val H' y := by
 unfold mo.run at h
 split at h
 case h_2 => cases h
 rename_i us τ hgn0 hof; simp only [zbZ, Bool.not_eq_false'] at hgn0; obtain ⟨hgn, hlo⟩ := hgn0
 split at h
 case h_3 => cases h
 case h_1 =>
  rename_i c B b enc hf
  split at h
  . rename_i hl; simp only [zaj, zaO] at h; obtain ⟨rfl, rfl⟩ := h; simp only [mo.lean, zab] at hl; exact oy (hE us _ hf) hof hgn hlo true _ (fun _ => hl) (fun h => by cases h) (by simp [Ys.us]) hS hd
  . cases h
 rename_i c ys hf
 split at h
 . rename_i hl; simp only [zaj, zaO] at h; obtain ⟨rfl, rfl⟩ := h; simp only [mo.lean, zab] at hl; exact oy (hE us _ hf) hof hgn hlo true _ (fun _ => hl) (fun h => by cases h) (by simp [Ys.us]) hS hd
 . split at h
   . rename_i hv; simp only [zab, List.isEmpty_iff] at hv; simp only [zaj, zaO] at h; obtain ⟨rfl, rfl⟩ := h; refine oy (hE us _ hf) hof hgn hlo false _ (fun h => by cases h) (fun _ => ⟨hnb hv.1, fun p hp => ?_⟩) rfl hS hd; have := zam.1 hv.2 p hp; simpa using this
   . cases h
end
end
end
end Go.Proofs.YtdbkoeefnodejaaGreat.Ev
namespace Go.Proofs.YtdbkoeefnodejaaGreat.Ev
noncomputable section
noncomputable section
open Go
def scE : SV -> Option Value
 | .i k n => some (.int k n)
 | .b x => some (.bool x)
 | _ => none
def KQ : List SV -> Option (List Value)
 | [] => some []
 | s :: l => match scE s with | some v => (match KQ l with | some vs => some (v :: vs) | none => none) | none => none
def Pk : SV -> Option Value
 | .agg l => match KQ l with | some vs => some (.agg vs.toArray) | none => none
 | s => scE s
def Ez : List SV -> Option (List Value)
 | [] => some []
 | s :: l => match Pk s with | some v => (match Ez l with | some vs => some (v :: vs) | none => none) | none => none
def scS : Value -> Option SV
 | .int k n => some (.i k n)
 | .bool x => some (.b x)
 | _ => none
def KM : List Value -> Option (List SV)
 | [] => some []
 | v :: l => match scS v with | some s => (match KM l with | some r => some (s :: r) | none => none) | none => none
def La : Value -> Option SV
 | .agg vs => match KM vs.toList with | some l => some (.agg l) | none => none
 | v => scS v
def EZ : List Value -> Option (List SV)
 | [] => some []
 | v :: l => match La v with | some s => (match EZ l with | some r => some (s :: r) | none => none) | none => none
def ND : Value -> Option SV
 | .tuple vs => match EZ vs.toList with | some l => some (.tup l) | none => none
 | v => La v
section
variable {φ : Phi} {H : ai} {own : Nat -> Prop}
theorem HT {s : SV} {v w : Value} (h : scE s = some w) (hd : DV φ H own s v) : v = w := by
 cases s <;> simp only [scE, zaj] at h <;> first | (cases h; done) | (subst h; cases hd; rfl)
theorem EM : ∀ {l : List SV} {vs ws : List Value}, KQ l = some ws -> DVL φ H own l vs -> vs = ws
 | [], vs, ws, h, hd => by cases h; exact hd.nC
 | s :: l, vs, ws, h, hd => by
  obtain ⟨v, vs', rfl, h1, h2⟩ := hd.gq; simp only [KQ] at h
  split at h
  . rename_i w hw
    split at h
    . rename_i ws' hws; cases h; rw [HT hw h1, EM hws h2]
    . cases h
  . cases h
theorem Lu {s : SV} {v w : Value} (h : Pk s = some w) (hd : DV φ H own s v) : v = w := by
 unfold Pk at h
 split at h
 . rename_i l
   split at h
   . rename_i vs hvs; cases h; cases hd with
     | agg _ x' hx vx =>
      have : x'.toList = vs := EM hvs ⟨by simpa using hx, fun i s v a b => vx i s v a (by simpa using b)⟩; subst this; rfl
   . cases h
 . exact HT h hd
theorem BO : ∀ {l : List SV} {vs ws : List Value}, Ez l = some ws -> DVL φ H own l vs -> vs = ws
 | [], vs, ws, h, hd => by cases h; exact hd.nC
 | s :: l, vs, ws, h, hd => by
  obtain ⟨v, vs', rfl, h1, h2⟩ := hd.gq; simp only [Ez] at h
  split at h
  . rename_i w hw
    split at h
    . rename_i ws' hws; cases h; rw [Lu hw h1, BO hws h2]
    . cases h
  . cases h
theorem GO {s : SV} {v : Value} (h : scS v = some s) : DV φ H own s v := by
 cases v <;> simp only [scS, zaj] at h <;> first | (cases h; done) | (subst h; constructor)
theorem E1 : ∀ {l : List SV} {vs : List Value}, KM vs = some l -> DVL φ H own l vs
 | l, [], h => by cases h; exact .nil
 | l, v :: vs, h => by
  simp only [KM] at h
  split at h
  . rename_i s hs
    split at h
    . rename_i r hr; cases h; exact .cons (GO hs) (E1 hr)
    . cases h
  . cases h
theorem DVL.agg {l : List SV} {x : Array Value} (h : DVL φ H own l x.toList) : DV φ H own (.agg l) (.agg x) :=
 .agg l x (by simpa using h.1) (fun i s v a b => h.2 i s v a (by simpa using b))
theorem DVL.tup {l : List SV} {x : Array Value} (h : DVL φ H own l x.toList) : DV φ H own (.tup l) (.tuple x) :=
 .tup l x (by simpa using h.1) (fun i s v a b => h.2 i s v a (by simpa using b))
theorem En {s : SV} {v : Value} (h : La v = some s) : DV φ H own s v := by
 unfold La at h
 split at h
 . split at h
   . rename_i l hl; cases h; exact (E1 hl).agg
   . cases h
 . exact GO h
theorem BX : ∀ {l : List SV} {vs : List Value}, EZ vs = some l -> DVL φ H own l vs
 | l, [], h => by cases h; exact .nil
 | l, v :: vs, h => by
  simp only [EZ] at h
  split at h
  . rename_i s hs
    split at h
    . rename_i r hr; cases h; exact .cons (En hs) (BX hr)
    . cases h
  . cases h
theorem J0 {s : SV} {v : Value} (h : ND v = some s) : DV φ H own s v := by
 unfold ND at h
 split at h
 . split at h
   . rename_i l hl; cases h; exact (BX hl).tup
   . cases h
 . exact En h
end
def ofE (TE : Tab) : pb := fun g args S =>
 match Ez args with
 | some vs => (match TE g vs with | some (c, v) => (match ND v with | some s => some (c, .now s S) | none => none) | none => none)
 | none => none
def jO (TE : Tab) (X : bj) : bj := fun g args H => match bR TE g args H with | some r => some r | none => X g args H
def noX : bj := fun _ _ _ => none
theorem NK {P : Program} : jm P noX := ⟨(fun _ _ _ _ _ h => by cases h), (fun _ _ _ _ _ h => by cases h)⟩
theorem Hs {P : Program} {TE : Tab} {X : bj} (h : bj.right P TE) (hX : jm P X) : jm P (jO TE X) := by
 have hT := bj.aq h; refine ⟨fun g args H v H' hv => ?_, fun g args H v H' hv => ?_⟩
 . unfold jO at hv
   split at hv
   . rename_i r hr; cases hv; exact hT.fr _ _ _ _ _ hr
   . exact hX.fr _ _ _ _ _ hv
 . unfold jO at hv
   split at hv
   . rename_i r hr; cases hv; exact hT.ok _ _ _ _ _ hr
   . exact hX.ok _ _ _ _ _ hv
def Fi (TE : Tab) : List (FuncId × mo) -> pb
 | [], g, args, S => ofE TE g args S
 | (h, e) :: r, g, args, S => match g == h with
  | true => (match e.run args S with | some x => some x | none => Fi TE r g args S)
  | false => Fi TE r g args S
section
variable {P : Program} {L : List FuncId} {TE : Tab} {X : bj}
def im (P : Program) (L : List FuncId) (O : bj) (g : FuncId) (e : mo) : Prop := ∀ us Y, e.f us = some (true, Y) -> vt P L O g e.en e.ex us Y.us
theorem Ha (hX : fJ X) : fJ (jO TE X) := by
 intro g args H v H' hv; unfold jO bR at hv
 split at hv
 . rename_i r hr; cases hv
   split at hr
   . cases hr; exact .refl H
   . cases hr
 . exact hX _ _ _ _ _ hv
theorem vH (hX : fJ X) : ∀ {l : List (FuncId × mo)}, (∀ p ∈ l, im P L (jO TE X) p.1 p.2) -> dC P L (jO TE X) (Fi TE l)
 | [], _ => by
  refine ⟨Ha hX, ?_⟩; intro g args S a h φ H vs _ hS hd; unfold Fi ofE at h
  split at h
  . rename_i ws hws
    split at h
    . rename_i c w hw
      split at h
      . rename_i s hs; cases h; have := BO hws hd; subst this; exact ⟨1, w, H, lz (by unfold jO bR; rw [hw]), .same hS (J0 hs)⟩
      . cases h
    . cases h
  . cases h
 | (i, e) :: r, hl => by
  have hr := vH hX (l := r) (fun p hp => hl p (zaQ _ hp)); refine ⟨hr.1, ?_⟩; intro g args S a h φ H vs hnb hS hd; unfold Fi at h
  split at h
  . rename_i hg; rw [zaE] at hg; subst hg
    split at h
    . rename_i x hx; cases h; exact mo.sound (hl (g, e) (by simp)) hx hnb hS hd
    . exact hr.2 g args S a h φ H vs hnb hS hd
  . exact hr.2 g args S a h φ H vs hnb hS hd
def Gr (l : List (FuncId × (List Value -> Option (Bool × Value)))) (xs : List FuncId) : FuncId -> Bool := fun g => (l.any fun p => g == p.1) || xs.any fun x => g == x
theorem xw {xs : List FuncId} (hX : ∀ g args H, (xs.any fun x => g == x) = false -> X g args H = none) : ∀ {l : List (FuncId × (List Value -> Option (Bool × Value)))} (g : FuncId), Gr l xs g = false -> ∀ args H, jO (fA l) X g args H = none
 | [], g, h, args, H => hX g args H (by simpa [Gr] using h)
 | (i, e) :: r, g, h, args, H => by
  simp only [Gr, List.any_cons, zbZ] at h; have := xw hX (l := r) g (by simp only [Gr, zbZ]; exact ⟨h.1.2, h.2⟩) args H; unfold jO bR at this ⊢; unfold fA; rw [h.1.1]; exact this
def mkE {A : Type} [Uns A] (en ex : Pn) (f : A -> Bool × List Un) : mo := ⟨en, ex, onU fun a => match f a with | (c, ys) => some (c, .now ys)⟩
def mkB {A B : Type} [Uns A] (en ex : Pn) (f : A -> Bool × B) (enc : B -> List Un) : mo := ⟨en, ex, onU fun a => match f a with | (c, b) => some (c, .bind B b enc)⟩
theorem aq {A : Type} [Uns A] {O : bj} {kn : FuncId -> Bool} (hkn : ∀ g, kn g = false -> ∀ args H, O g args H = none) {F : aD} (hT : dC P L O F.T) (W : Nat -> List aT) {t : Nat -> A -> Option (List Un)} {f : A -> Bool × List Un}
 (hb : (!(kn F.g) && ((P.funcs[F.g]?).isSome && (cB P F.g).body.isSome)) = true) (hW : ∀ m, ∀ t ∈ W m, F.eX P L O t) (G : ∀ m a, F.Ct P L kn (Uns.enc a) (W m) = t m a)
 (spec : ∀ a, (f a).1 = true -> ∃ m, t m a = some (f a).2) : im P L O F.g (mkE F.en F.ex f) := by
 intro us Y h; obtain ⟨a, rfl, h2⟩ := mQ h; simp only [zab, Bool.not_eq_true'] at hb; have h2 : some ((f a).1, Ys.now (f a).2) = some (true, Y) := h2; simp only [zaj, zaO] at h2; obtain ⟨h3, rfl⟩ := h2; obtain ⟨m, hm⟩ := spec a h3; exact aD.MO hkn hT hb.1 hb.2.1 hb.2.2 (hW m) ((G m a).trans hm)
theorem rebind {A B : Type} [Uns A] {O : bj} {g : FuncId} {en ex : Pn} {f : A -> Bool × List Un} {fb : A -> Bool × B} {enc : B -> List Un} (h : im P L O g (mkE en ex f)) (e : ∀ a, f a = ((fb a).1, enc (fb a).2)) : im P L O g (mkB en ex fb enc) := by
 intro us Y hY; have hY : onU (fun a => some ((fb a).1, Ys.bind B (fb a).2 enc)) us = some (true, Y) := hY; unfold onU at hY
 split at hY
 . rename_i a r hd
   split at hY
   . simp only [zaj, zaO] at hY; obtain ⟨h3, rfl⟩ := hY; have t := h us (.now (f a).2) (by
      show onU (fun a => some ((f a).1, Ys.now (f a).2)) us = _; unfold onU; rw [hd]; simp only [e a, h3])
     rw [e a] at t; exact t
   . cases hY
 . cases hY
structure Tb (P : Program) (L : List FuncId) (TE : Tab) (X : bj) where
 l : List (FuncId × mo)
 fr : fJ X
 ok : ∀ p ∈ l, im P L (jO TE X) p.1 p.2
def Tb.nil (h : fJ X) : Tb P L TE X := ⟨[], h, fun _ h => by cases h⟩
def Tb.add (T : Tb P L TE X) (g : FuncId) (e : mo) (h : im P L (jO TE X) g e) : Tb P L TE X := ⟨(g, e) :: T.l, T.fr, fun p hp => by
 rcases zaV.1 hp with rfl | hp
 . exact h
 . exact T.ok p hp⟩
def Tb.tab (T : Tb P L TE X) : pb := Fi TE T.l
theorem Tb.right (T : Tb P L TE X) : dC P L (jO TE X) T.tab := vH T.fr T.ok
end
end
end
end Go.Proofs.YtdbkoeefnodejaaGreat.Ev
namespace Go.Proofs.YtdbkoeefnodejaaGreat.Ev
noncomputable section
noncomputable section
open Go
open Go.RowKit (Below)
def qK : Phi := ⟨fun _ => none, fun _ => False⟩
def hp0 : aj := ⟨0, .e, 0, []⟩
theorem Sh (x : Nat) : ¬ Own qK hp0 x := by
 rintro (h | ⟨id, B, h, _⟩)
 . exact h
 . have := aj.bh h; simp [hp0] at this
theorem Sb {H : ai} (hl : H.lock <= H.size) (hh : H.hid = []) : Sim qK hp0 H := by
 refine ⟨fun id B h => ?_, fun id id' B B' x h => ?_, fun _ _ => rfl, (fun id x h => by cases h), zao _, hl, fun x _ => by rw [hh]; rfl⟩
 . have := aj.bh h; simp [hp0] at this
 . have := aj.bh h; simp [hp0] at this
mutual
def WfS : Sch -> Dat -> Prop
 | .int k, d => (Lit.int k d.int).wf = true
 | .bool, _ => True
 | .ints k, d => d.sub.length <= 140737488355328 /\ ∀ x ∈ d.sub, (Lit.int k x.int).wf = true
 | .ag l, d => d.sub.length <= 140737488355328 /\ ∀ x ∈ d.sub, WfR l x.sub
def WfR : List Sch -> List Dat -> Prop
 | [], [] => True
 | s :: l, d :: r => WfS s d /\ WfR l r
 | _, _ => False
end
theorem WfR.len : ∀ {l : List Sch} {r : List Dat}, WfR l r -> r.length = l.length
 | [], [], _ => rfl
 | s :: l, d :: r, h => by simp [WfR] at h; simp [h.2.len]
 | [], _ :: _, h => by simp [WfR] at h
 | _ :: _, [], h => by simp [WfR] at h
theorem WfR.append : ∀ {a b : List Sch} {r s : List Dat}, WfR a r -> WfR b s -> WfR (a ++ b) (r ++ s)
 | [], _, [], _, _, h => h
 | x :: a, _, d :: r, _, h, k => by simp only [WfR, zaY] at h ⊢; exact ⟨h.1, h.2.append k⟩
 | [], _, _ :: _, _, h, _ => by simp [WfR] at h
 | _ :: _, _, [], _, h, _ => by simp [WfR] at h
def svs : List Sch -> List Dat -> List SV
 | s :: l, d :: r => pQ s d :: svs l r
 | _, _ => []
theorem vb : ∀ {a b : List Sch} {r s : List Dat}, r.length = a.length -> svs (a ++ b) (r ++ s) = svs a r ++ svs b s
 | [], _, [], _, _ => rfl
 | x :: a, _, d :: r, _, h => by simp only [zaY, svs]; rw [vb (by simpa using h)]
 | [], _, _ :: _, _, h => by simp at h
 | _ :: _, _, [], _, h => by simp at h
theorem sM : ∀ {a : List Sch} {r : List Dat} (j : Nat), r.length = a.length -> (svs a r)[j]? = (a[j]?).map fun s => pQ s (r.getD j (.n 0))
 | [], [], j, _ => by simp [svs]
 | x :: a, d :: r, 0, _ => by simp [svs]
 | x :: a, d :: r, j + 1, h => by simpa [svs] using sM (a := a) (r := r) j (by simpa using h)
 | [], _ :: _, _, h => by simp at h
 | _ :: _, [], _, h => by simp at h
structure RW (f : Fm) (H : ai) (w : World) : Prop where
 r : R f H w
 lock : H.lock = H.size
 hid : H.hid = []
 free : ∀ j, H.size <= j -> f j = none
theorem RW.nil (w : World) : RW (fun _ => none) Ev.nil w := ⟨R.nil w, rfl, rfl, fun _ _ => rfl⟩
def wE (f : Fm) (H : ai) (f' : Fm) (H' : ai) : Prop := Le f f' /\ ∀ x c, H.get x = some c -> H'.get x = some c
theorem wE.refl (f : Fm) (H : ai) : wE f H f H := ⟨Le.refl f, fun _ _ h => h⟩
theorem wE.trans {f g h : Fm} {H K M : ai} (a : wE f H g K) (b : wE g K h M) : wE f H h M := ⟨a.1.trans b.1, fun x c hx => b.2 x c (a.2 x c hx)⟩
theorem wE.ext {f f' : Fm} {H H' : ai} (g : wE f H f' H') : Ext qK H (Own qK hp0) qK H' (Own qK hp0) :=
 ⟨fun _ _ h => h, fun x c h1 h2 => ⟨g.2 x c h1, h2⟩, fun id x c' h1 => by cases h1⟩
theorem RW.push {f : Fm} {H : ai} {w : World} (h : RW f H w) (cs : List Value) (l : Loc) {C : Array Value} {e : TypeId} {fr : Nat × Nat} (hl : w.heap[l.blk]? = some (.cells C e fr))
 (hc : ∀ (i : Nat) v, cs[i]? = some v -> bg v = true /\ ∃ v', C[l.off + i]? = some v' /\ V f v v') :
 ∃ f' H', RW f' H' w /\ wE f H f' H' /\ H'.get H.size = some ⟨cs⟩ /\ f' H.size = some l := by
 let f' : Fm := fun x => if x = H.size then some l else f x
 let H' : ai := { aE H cs with lock := H.size + 1 }
 have hle : Le f f' := fun x m hx => by
  have : x ≠ H.size := by rintro rfl; rw [h.free _ (zao _)] at hx; cases hx
  show (if x = H.size then _ else _) = _; rw [if_neg this]; exact hx
 have hnew : f' H.size = some l := if_pos rfl; have hroot : ∀ x, H'.root.get x = if x = H.size then some ⟨cs⟩ else H.root.get x := fun x => ai.bL _ _ _
 have hsz : H'.size = H.size + 1 := rfl; have hhid : H'.hid = [] := h.hid; have hget : ∀ x, H'.get x = if x = H.size then some ⟨cs⟩ else H.get x := by
  intro x
  by_cases e : x = H.size
  . subst e; rw [if_pos rfl]; unfold ai.get; rw [if_pos (by omega), hhid, hroot, if_pos rfl]; rfl
  . rw [if_neg e]; unfold ai.get
    by_cases hx : x < H.size
    . rw [if_pos (by omega), if_pos hx, hhid, h.hid, hroot, if_neg e]
    . rw [if_neg (by omega), if_neg hx]
 refine ⟨f', H', ⟨⟨?_, ?_, zao _, ?_⟩, rfl, hhid, ?_⟩, ⟨hle, fun x c hx => ?_⟩, by rw [hget, if_pos rfl], hnew⟩
 . intro x B hx; rw [hget] at hx
   split at hx
   . rename_i e1; cases hx; subst e1; refine ⟨l, C, e, fr, hnew, hl, fun i v hi => ?_, fun hm => ?_⟩
     . obtain ⟨h1, v', h2, h3⟩ := hc i v hi; exact ⟨h1, v', h2, h3.mono hle⟩
     . rw [aL] at hm; have : H.size + 1 <= H.size := hm; omega
   . obtain ⟨m, C', e', fr', g1, g2, g3, g4⟩ := h.r.blk x B hx; refine ⟨m, C', e', fr', hle _ _ g1, g2, fun i v hi => ?_, fun hm => ?_⟩
     . obtain ⟨g5, v', g6, g7⟩ := g3 i v hi; exact ⟨g5, v', g6, g7.mono hle⟩
     . rw [aL] at hm; have h5 : H.size + 1 <= x := hm; have := ai.bh hx; omega
 . intro x m hx; have hx : (if x = H.size then some l else f x) = some m := hx
   split at hx
   . cases hx; obtain ⟨hlt, _⟩ := zav.1 hl; exact hlt
   . exact h.r.big x m hx
 . intro x y B B' m m' hx _ hm; rw [aL] at hm; have h5 : H.size + 1 <= x := hm; have : x < H.size + 1 := ai.bh hx; omega
 . intro j hj; have hj : H.size + 1 <= j := hj; show (if j = H.size then _ else _) = _; rw [if_neg (by omega)]; exact h.free j (by omega)
 . have := ai.bh hx; rw [hget, if_neg (by omega)]; exact hx
def Good (w : World) (ss : List Sch) (cs : List Value) : Prop := ∀ f H, RW f H w -> ∃ f' H' cs' r, RW f' H' w /\ wE f H f' H' /\ VL f' cs' cs /\ (∀ v ∈ cs', bg v = true) /\
 DVL qK H' (Own qK hp0) (svs ss r) cs' /\ WfR ss r
theorem Good.nil (w : World) : Good w [] [] := fun f H h => ⟨f, H, [], [], h, .refl f H, .nil f, by simp, .nil, trivial⟩
theorem Good.append {w : World} {a b : List Sch} {c d : List Value} (h : Good w a c) (k : Good w b d) : Good w (a ++ b) (c ++ d) := by
 intro f H hR; obtain ⟨f1, H1, c1, r1, a1, a2, a3, a4, a5, a6⟩ := h f H hR; obtain ⟨f2, H2, c2, r2, b1, b2, b3, b4, b5, b6⟩ := k f1 H1 a1; refine ⟨f2, H2, c1 ++ c2, r1 ++ r2, b1, a2.trans b2, (a3.mono b2.1).append b3, fun v hv => ?_, ?_, a6.append b6⟩
 . rcases zbk.1 hv with h | h
   . exact a4 v h
   . exact b4 v h
 . rw [vb a6.len]; exact (a5.mono b2.ext).append b5
theorem Good.flatten {w : World} : ∀ {l : List (List Sch × List Value)}, (∀ p ∈ l, Good w p.1 p.2) -> Good w (l.map (·.1)).flatten (l.map (·.2)).flatten
 | [], _ => Good.nil w
 | p :: l, h => by
  simp only [zaX, zbl]; exact (h p (by simp)).append (Good.flatten fun q hq => h q (by simp [hq]))
section
variable (P : Program)
def E7 (r : TypeId -> Option (List Sch)) : List Field -> Nat -> Option (List Sch × Nat)
 | [], n => some ([], n)
 | f :: fs, n =>
  match r f.type with
  | some l => (match decide (f.offset = n /\ l.length = P.cellsOf f.type) with
   | true => (match E7 r fs (n + l.length) with | some (m, k) => some (l ++ m, k) | none => none)
   | false => none)
  | none => none
def CL : Nat -> TypeId -> Option (List Sch)
 | 0, _ => none
 | d + 1, t =>
  match P.underlying t with
  | some (.int k) => some [.int k]
  | some .bool => some [.bool]
  | some (.slice e) =>
   (match P.underlying e with
    | some (.int k) => (match decide (P.cellsOf e = 1 /\ 0 < P.bytesOf e) with | true => some [.ints k] | false => none)
    | _ => (match CL d e with
     | some l => (match decide (l.length = P.cellsOf e /\ 0 < l.length /\ 0 < P.bytesOf e) with | true => some [.ag l] | false => none)
     | none => none))
  | some (.struct fs) => (match E7 P (CL d) fs.toList 0 with | some (l, n) => (match decide (n = P.cellsOf t) with | true => some l | false => none) | none => none)
  | some (.array n e) => (match CL d e with
   | some l => (match decide (l.length = P.cellsOf e /\ P.cellsOf t = n * l.length) with | true => some (List.replicate n l).flatten | false => none)
   | none => none)
  | _ => none
end
theorem mapM_mem {α β : Type} {g : α -> Option β} : ∀ {l : List α} {r : List β}, l.mapM g = some r -> ∀ x ∈ l, ∃ y ∈ r, g x = some y
 | [], _, _, x, hx => by simp at hx
 | a :: l, r, h, x, hx => by
  rw [List.mapM_cons] at h; cases ha : g a with
  | none => rw [ha] at h; cases h
  | some y =>
   rw [ha] at h; cases hl : l.mapM g with
   | none => simp [hl] at h
   | some s =>
    simp [hl] at h; subst h; rcases zaV.1 hx with rfl | hx
    . exact ⟨y, by simp, ha⟩
    . obtain ⟨z, h1, h2⟩ := mapM_mem hl x hx; exact ⟨z, by simp [h1], h2⟩
theorem gv {HH : Type} {P : Program} {e : TypeId} {n : Nat} {d : DataW HH} : ∀ {l : List (DataW HH)}, d ∈ l -> n ∈ d.weights P e -> n ∈ DataW.weightsAll P e l
 | [], h, _ => by simp at h
 | x :: l, h, hn => by
  rw [DataW.weightsAll]; rcases zaV.1 h with rfl | h
  . exact zbI _ hn
  . exact zbN _ (gv h hn)
def qE {HH : Type} (P : Program) (t : TypeId) (d : DataW HH) : Prop := ∀ n ∈ d.weights P t, n <= reachBytes
theorem w5 {HH α : Type} {P : Program} {T : α -> TypeId} {g : α -> Option (DataW HH × List MemPlace)} : ∀ {l : List α} {r : List (DataW HH × List MemPlace)}, l.mapM g = some r -> (∀ n ∈ DataW.weightsEach P (l.map T) (r.map (·.1)), n <= reachBytes) -> ∀ x ∈ l, ∃ y, g x = some y /\ qE P (T x) y.1
 | [], _, _, _, x, hx => by simp at hx
 | a :: l, r, h, hz, x, hx => by
  rw [List.mapM_cons] at h; cases ha : g a with
  | none => rw [ha] at h; cases h
  | some y =>
   rw [ha] at h; cases hl : l.mapM g with
   | none => simp [hl] at h
   | some s =>
    simp [hl] at h; subst h; simp only [zaX, DataW.weightsEach] at hz; rcases zaV.1 hx with rfl | hx
    . exact ⟨y, ha, fun n hn => hz n (zbI _ hn)⟩
    . exact w5 hl (fun n hn => hz n (zbN _ hn)) x hx
theorem pc {α β : Type} {g : α -> Option β} : ∀ {l : List α} {r : List β}, l.mapM g = some r -> r.length = l.length /\ ∀ (i : Nat) x, l[i]? = some x -> ∃ y, r[i]? = some y /\ g x = some y
 | [], r, h => by
  rw [List.mapM_nil] at h; cases h; exact ⟨rfl, fun i x hx => by simp at hx⟩
 | a :: l, r, h => by
  rw [List.mapM_cons] at h; cases ha : g a with
  | none => rw [ha] at h; cases h
  | some y =>
   rw [ha] at h; cases hl : l.mapM g with
   | none => simp [hl] at h
   | some s =>
    rw [hl] at h; have h : some (y :: s) = some r := h; cases h; obtain ⟨h1, h2⟩ := pc hl; refine ⟨by simp [h1], fun i x hx => ?_⟩; cases i with
    | zero => simp at hx; subst hx; exact ⟨y, by simp, ha⟩
    | succ i => simpa using h2 i x (by simpa using hx)
theorem vG {w : World} {a : Addr} {n : Nat} {cs : List Value} (h : w.cells? 0 a n = some cs) : cs.length = n /\ ∀ j, j < n -> w.cell? (a.add j) = cs[j]? := by
 unfold World.cells? at h; rw [if_pos (zbY _)] at h; obtain ⟨h1, h2⟩ := pc h; refine ⟨by rw [h1]; simp, fun j hj => ?_⟩; obtain ⟨y, h3, h4⟩ := h2 j j (by simp [hj]); rw [h4, h3]
theorem AJ : ∀ {l : List (List Value)} {n : Nat}, (∀ x ∈ l, x.length = n) -> l.flatten.length = l.length * n /\ ∀ (i j : Nat) x, l[i]? = some x -> j < n -> l.flatten[i * n + j]? = x[j]?
 | [], n, _ => ⟨by simp, fun i j x h => by simp at h⟩
 | a :: l, n, h => by
  have ha : a.length = n := h a (by simp); obtain ⟨h1, h2⟩ := AJ (l := l) (n := n) fun x hx => h x (by simp [hx])
  refine ⟨by simp only [zbl, zai, zaf]; rw [h1, ha, za8]; omega, fun i j x hi hj => ?_⟩; simp only [zbl]; cases i with
  | zero =>
   simp at hi; subst hi; rw [zb7, zaD, zaF (by omega)]
  | succ i =>
   rw [zaT (by rw [ha, za8]; omega), ha]; rw [show (i + 1) * n + j - n = i * n + j by rw [za8]; omega]; exact h2 i j x (by simpa using hi) hj
def mg (n : Nat) : Nat -> List Dat -> List Dat
 | 0, _ => []
 | m + 1, r => .r (r.take n) :: mg n m (r.drop n)
theorem qj (n : Nat) : ∀ (m : Nat) (r : List Dat), (mg n m r).length = m
 | 0, _ => rfl
 | m + 1, r => by simp [mg, qj n m]
theorem qB (n : Nat) : ∀ (m : Nat) (r : List Dat) (i : Nat), i < m -> (mg n m r)[i]? = some (.r ((r.drop (i * n)).take n))
 | m + 1, r, 0, _ => by simp [mg]
 | m + 1, r, i + 1, h => by
  simp only [mg, zaS]; rw [qB n m _ i (by omega), List.drop_drop, za8, Nat.one_mul, Nat.add_comm n]
theorem WfR.split : ∀ {a b : List Sch} {r : List Dat}, WfR (a ++ b) r -> WfR a (r.take a.length) /\ WfR b (r.drop a.length)
 | [], b, r, h => by simpa [WfR] using h
 | x :: a, b, d :: r, h => by
  simp only [zaY, WfR] at h; obtain ⟨h1, h2⟩ := WfR.split h.2; simp only [zaf, List.take_succ_cons, List.drop_succ_cons, WfR]; exact ⟨⟨h.1, h1⟩, h2⟩
 | x :: a, b, [], h => by simp [WfR] at h
theorem WfR.rows {l : List Sch} : ∀ (m : Nat) {r : List Dat}, WfR (List.replicate m l).flatten r -> ∀ d ∈ mg l.length m r, WfR l d.sub
 | 0, r, _, d, hd => by simp [mg] at hd
 | m + 1, r, h, d, hd => by
  rw [zbv, zbl] at h; obtain ⟨h1, h2⟩ := h.split; simp only [mg, zaV] at hd; rcases hd with rfl | hd
  . exact h1
  . exact WfR.rows m h2 d hd
section
variable {P : Program} {HH : Type} {enc : TypeId × Value -> HH} {w : World}
theorem vS {r : TypeId -> Option (List Sch)} {g : TypeId -> List Value -> Option (DataW HH × List MemPlace)} (ih : ∀ t cs x ss, g t cs = some x -> qE P t x.1 -> r t = some ss -> Good w ss cs /\ cs.length = ss.length) (cs : List Value) :
 ∀ {fs : List Field} {n m : Nat} {l : List Sch}, E7 P r fs n = some (l, m) -> (∀ f ∈ fs, ∃ y, g f.type ((cs.drop f.offset).take (P.cellsOf f.type)) = some y /\ qE P f.type y.1) -> n + l.length = m /\ (m <= cs.length -> Good w l ((cs.drop n).take l.length))
 | [], n, m, l, h, _ => by cases h; exact ⟨by simp, fun _ => by simpa using Good.nil w⟩
 | f :: fs, n, m, l, h, hg => by
  simp only [E7] at h
  split at h
  . rename_i a ha
    split at h
    . rename_i hc; obtain ⟨h1, h2⟩ := zak hc
      split at h
      . rename_i b k hb; cases h; obtain ⟨y, hy⟩ := hg f (by simp); obtain ⟨g1, g2⟩ := ih _ _ _ _ hy.1 hy.2 ha; obtain ⟨e1, e2⟩ := vS ih cs hb (fun q hq => hg q (by simp [hq])); refine ⟨by simp; omega, fun hle => ?_⟩; have := g1.append (e2 hle); rw [h1, <- h2] at this; rw [zai]; have e : (cs.drop n).take (a.length + b.length) = (cs.drop n).take a.length ++ (cs.drop (n + a.length)).take b.length := by
         rw [List.take_add, List.drop_drop]
        rw [e]; exact this
      . cases h
    . cases h
  . cases h
theorem trod_int {fuel : Nat} {t : TypeId} {k : IntKind} {cs : List Value} {x : DataW HH × List MemPlace} (hu : P.underlying t = some (.int k)) (h : DataW.trod enc P w 0 (fun _ => true) true (fuel + 1) t cs = some x) :
 ∃ n, cs = [.int k n] /\ (Lit.int k n).wf = true := by
 rcases cs with _ | ⟨v, _ | ⟨v2, tl⟩⟩
 . simp [DataW.trod, hu] at h
 . cases v <;> simp only [DataW.trod, hu, reduceCtorEq] at h
   split at h
   . rename_i hc; exact ⟨_, by rw [hc.1], hc.2⟩
   . cases h
 . simp [DataW.trod, hu] at h
theorem trod_bool {fuel : Nat} {t : TypeId} {cs : List Value} {x : DataW HH × List MemPlace} (hu : P.underlying t = some .bool) (h : DataW.trod enc P w 0 (fun _ => true) true (fuel + 1) t cs = some x) :
 ∃ b, cs = [.bool b] := by
 rcases cs with _ | ⟨v, _ | ⟨v2, tl⟩⟩
 . simp [DataW.trod, hu] at h
 . cases v <;> simp only [DataW.trod, hu, reduceCtorEq] at h
   exact ⟨_, rfl⟩
 . simp [DataW.trod, hu] at h
theorem trod_slice {fuel : Nat} {t e : TypeId} {cs : List Value} {x : DataW HH × List MemPlace} (hu : P.underlying t = some (.slice e)) (h : DataW.trod enc P w 0 (fun _ => true) true (fuel + 1) t cs = some x) :
 cs = [.slice none 0 0] \/ ∃ a len cap, cs = [.slice (some a) len cap] /\ len <= cap /\ (qE P t x.1 -> cap * P.bytesOf e <= reachBytes) /\ ∀ i, i < cap -> ∃ c y, w.cells? 0 (a.add (i * P.cellsOf e)) (P.cellsOf e) = some c /\ DataW.trod enc P w 0 (fun _ => true) true fuel e c = some y /\ (qE P t x.1 -> qE P e y.1) := by
 rcases cs with _ | ⟨v, _ | ⟨v2, tl⟩⟩
 . simp [DataW.trod, hu] at h
 . cases v <;> simp only [DataW.trod, hu, reduceCtorEq] at h
   rename_i a len cap; cases a with
   | none =>
    left
    cases len <;> cases cap <;> simp [DataW.trod, hu] at h
    rfl
   | some a =>
    right
    simp only [DataW.trod, hu] at h
    split at h
    . rename_i hc; rw [zaz] at h; obtain ⟨elems, h1, h2⟩ := h; rw [zag] at h2; obtain ⟨rest, h2, hx⟩ := h2; simp only [za7] at h2; have hw : x.1.weights P t = ((elems.map (·.1)).length + (rest.map (·.1)).length) * P.bytesOf e :: (DataW.weightsAll P e (elems.map (·.1)) ++ DataW.weightsAll P e (rest.map (·.1))) := by
       rw [<- hx]; simp only [DataW.weights, hu]
      have l1 := (pc h1).1; have l2 := (pc h2).1; rw [List.length_range] at l1 l2; refine ⟨a, len, cap, rfl, hc.2.1, fun hs => ?_, fun i hi => ?_⟩
      . have := hs _ (by rw [hw]; exact List.mem_cons_self ..); rw [za5, za5, l1, l2] at this
        rwa [show len + (cap - len) = cap by omega] at this
      have key : ∃ y, (w.cells? 0 (a.add (i * P.cellsOf e)) (P.cellsOf e)).bind (DataW.trod enc P w 0 (fun _ => true) true fuel e) = some y /\ (qE P t x.1 -> qE P e y.1) := by
       by_cases hl : i < len
       . obtain ⟨y, hm, hy⟩ := mapM_mem h1 i (zbs.2 hl); exact ⟨y, hy, fun hs n hn => hs n (by rw [hw]; exact zaQ _ (zbI _ (gv (za3.2 ⟨y, hm, rfl⟩) hn)))⟩
       . obtain ⟨y, hm, hy⟩ := mapM_mem h2 (i - len) (zbs.2 (by omega)); rw [show len + (i - len) = i by omega] at hy; exact ⟨y, hy, fun hs n hn => hs n (by rw [hw]; exact zaQ _ (zbN _ (gv (za3.2 ⟨y, hm, rfl⟩) hn)))⟩
      obtain ⟨y, hy, hys⟩ := key; rw [zaz] at hy; obtain ⟨c, g1, g2⟩ := hy; exact ⟨c, y, g1, g2, hys⟩
    . cases h
 . simp [DataW.trod, hu] at h
theorem trod_struct {fuel : Nat} {t : TypeId} {fs : Array Field} {cs : List Value} {x : DataW HH × List MemPlace} (hu : P.underlying t = some (.struct fs)) (h : DataW.trod enc P w 0 (fun _ => true) true (fuel + 1) t cs = some x) :
 cs.length = P.cellsOf t /\ (qE P t x.1 -> ∀ f ∈ fs.toList, ∃ y, DataW.trod enc P w 0 (fun _ => true) true fuel f.type ((cs.drop f.offset).take (P.cellsOf f.type)) = some y /\ qE P f.type y.1) := by
 simp only [DataW.trod, hu] at h
 split at h
 . rename_i hc; rw [zag] at h; obtain ⟨xs, h1, hx⟩ := h; refine ⟨hc, fun hs f hf => w5 (T := fun f => f.type) h1 (fun n hn => hs n ?_) f hf⟩; rw [<- hx]; simp only [DataW.weights, hu]; exact hn
 . cases h
theorem CO {fuel n : Nat} {t e : TypeId} {cs : List Value} {x : DataW HH × List MemPlace} (hu : P.underlying t = some (.array n e)) (h : DataW.trod enc P w 0 (fun _ => true) true (fuel + 1) t cs = some x) :
 cs.length = P.cellsOf t /\ ∀ i, i < n -> ∃ y, DataW.trod enc P w 0 (fun _ => true) true fuel e ((cs.drop (i * P.cellsOf e)).take (P.cellsOf e)) = some y /\ (qE P t x.1 -> qE P e y.1) := by
 simp only [DataW.trod, hu] at h
 split at h
 . rename_i hc; rw [zag] at h; obtain ⟨xs, h1, hx⟩ := h; refine ⟨hc, fun i hi => ?_⟩; obtain ⟨y, hm, hy⟩ := mapM_mem h1 i (zbs.2 hi); refine ⟨y, hy, fun hs n hn => hs n ?_⟩; rw [<- hx]; simp only [DataW.weights, hu]; exact gv (za3.2 ⟨y, hm, rfl⟩) hn
 . cases h
theorem Good.rows {l : List Sch} {cs : List Value} : ∀ (n : Nat), cs.length = n * l.length -> (∀ i, i < n -> Good w l ((cs.drop (i * l.length)).take l.length)) -> Good w (List.replicate n l).flatten cs
 | 0, hl, _ => by
  have : cs = [] := by simpa using hl
  subst this; exact Good.nil w
 | n + 1, hl, h => by
  rw [zbv, zbl]; have h0 := h 0 (by omega); have hr := Good.rows (l := l) (cs := cs.drop l.length) n (by rw [zb3, hl, za8]; omega) (fun i hi => by
   have := h (i + 1) (by omega)
   rwa [za8, Nat.one_mul, Nat.add_comm, <- List.drop_drop] at this)
  have := h0.append hr
  rwa [zb7, zbS, List.take_append_drop] at this
theorem D6 {α : Type} {l : List α} {n j : Nat} (hn : l.length = n) (hj : j < n) : ∀ {m i : Nat}, i < m -> ((List.replicate m l).flatten)[i * n + j]? = l[j]?
 | m + 1, 0, _ => by
  rw [zbv, zbl, zb7, zaD, zaF (by omega)]
 | m + 1, i + 1, h => by
  rw [zbv, zbl, zaT (by rw [hn, za8]; omega), hn,
   show (i + 1) * n + j - n = i * n + j by rw [za8]; omega]
  exact D6 hn hj (by omega)
theorem Good.slice (hblk : ∃ (k0 : Nat) (C : Array Value) (e : TypeId) (fr : Nat × Nat), w.heap[k0]? = some (.cells C e fr)) {l : List Sch} {s : Sch} {a : Addr} {len cap n : Nat} (hcap : len <= cap) (hn : l.length = n) (hn1 : 0 < n)
 (hrows : ∀ i, i < cap -> ∃ c, w.cells? 0 (a.add (i * n)) n = some c /\ Good w l c)
 (hs : ∀ (r : List Dat), WfR (List.replicate len l).flatten r -> ∃ (d : Dat) (c : aF), pQ s d = .deep c /\ WfS s d /\ c.len = len /\ c.w = n /\ ∀ i, i < len -> c.row i = svs l ((r.drop (i * n)).take n)) :
 Good w [s] [.slice (some a) len cap] := by
 have hall : ∃ css : List (List Value), css.length = len /\ ∀ (i : Nat) c, css[i]? = some c -> w.cells? 0 (a.add (i * n)) n = some c /\ Good w l c := by
  have : ∀ m, m <= len -> ∃ css : List (List Value), css.length = m /\ ∀ (i : Nat) c, css[i]? = some c -> w.cells? 0 (a.add (i * n)) n = some c /\ Good w l c := by
   intro m
   induction m with
   | zero => intro _; exact ⟨[], rfl, fun i c h => by simp at h⟩
   | succ m ih =>
    intro hm; obtain ⟨css, h1, h2⟩ := ih (by omega); obtain ⟨c, h3, h4⟩ := hrows m (by omega); refine ⟨css ++ [c], by simp [h1], fun i d hd => ?_⟩; rw [zaU] at hd
    split at hd
    . exact h2 i d hd
    . rename_i hi; have : i = m := by
       have := (zal.1 hd).1; simp at this; omega
      subst this; rw [h1] at hd; simp at hd; subst hd; exact ⟨h3, h4⟩
  exact this len (zao _)
 obtain ⟨css, hcl, hcss⟩ := hall; have hlen : ∀ c ∈ css, c.length = n := by
  intro c hc; obtain ⟨i, hi⟩ := zbB hc; exact (vG (hcss i c hi).1).1
 obtain ⟨hfl, hfg⟩ := AJ hlen; rw [hcl] at hfl; have hg : Good w (List.replicate len l).flatten css.flatten := by
  refine Good.rows len (by rw [hfl, hn]) (fun i hi => ?_); have hi' : css[i]? = some css[i] := zae (by omega); have e : (css.flatten.drop (i * l.length)).take l.length = css[i] := by
   apply zbr; intro j; rw [zaq, zay, hn]; have hci : (css[i]).length = n := hlen _ (zbx _)
   split
   . rename_i hj; exact hfg i j _ hi' hj
   . rw [zaN (by omega)]
  rw [e]; exact (hcss i _ hi').2
 intro f H hR; obtain ⟨f1, H1, cs', r, a1, a2, a3, a4, a5, a6⟩ := hg f H hR; obtain ⟨d, c, hd1, hd2, hd3, hd4, hd5⟩ := hs r a6; have hcl' : cs'.length = len * n := by rw [a3.1, hfl]
 have hloc : ∃ (lo : Loc) (C : Array Value) (e : TypeId) (fr : Nat × Nat), w.heap[lo.blk]? = some (.cells C e fr) /\ (∀ (i : Nat) v, cs'[i]? = some v -> bg v = true /\ ∃ v', C[lo.off + i]? = some v' /\ V f1 v v') /\ (a = ⟨lo.blk, lo.off + 0, none⟩ \/ (len = 0 /\ cap = 0)) := by
  by_cases hz : cap = 0
  . obtain ⟨k0, C, e, fr, hk⟩ := hblk; have : cs' = [] := by
     apply zau; rw [hcl']; have : len = 0 := by omega
     rw [this]; simp
    subst this; exact ⟨⟨k0, 0, 0⟩, C, e, fr, hk, fun i v h => by simp at h, .inr ⟨by omega, hz⟩⟩
  . have hn0 : n ≠ 0 := by omega
    . obtain ⟨c0, h0, _⟩ := hrows 0 (by omega); obtain ⟨h1, h2⟩ := vG h0; have h3 := h2 0 (by omega); rw [zb7] at h3; have h3 : w.cell? a = c0[0]? := by simpa [Addr.add] using h3
      rw [zae (by omega)] at h3; unfold World.cell? at h3
      split at h3
      . rename_i C e fr hC
        split at h3
        . cases h3
        . rename_i hsp; obtain ⟨b, off, sp⟩ := a; have : sp = none := by cases sp <;> simp at hsp ⊢
          subst this; refine ⟨⟨b, off, 0⟩, C, e, fr, hC, fun j v hv => ?_, .inl rfl⟩; refine ⟨a4 v (zaJ hv), ?_⟩; have hj : j < len * n := by rw [<- hcl']; exact (zal.1 hv).1
          have hn' : 0 < n := by omega
          have hi : j / n < len := by rw [Nat.div_lt_iff_lt_mul hn']; exact hj
          have hjm := Nat.mod_lt j hn'; have hjd : j / n * n + j % n = j := by rw [Nat.mul_comm]; exact Nat.div_add_mod j n
          obtain ⟨v', h4, h5⟩ := a3.get hv; refine ⟨v', ?_, h5⟩; have hci : css[j / n]? = some css[j / n] := zae (by omega); have h6 := hfg (j / n) (j % n) _ hci hjm; rw [hjd, h4] at h6; obtain ⟨h7, h8⟩ := vG (hcss _ _ hci).1; have h9 := h8 (j % n) hjm; rw [<- h6] at h9; have hadd : ((⟨b, off, none⟩ : Addr).add (j / n * n)).add (j % n) = ⟨b, off + j, none⟩ := by
           rw [Addr.add_eq, Addr.add_eq, zbi, hjd]
          rw [hadd] at h9; unfold World.cell? at h9; have hC' : w.heap[b]? = some (.cells C e fr) := hC; simp only [hC'] at h9; simpa using h9
      . cases h3
 obtain ⟨lo, C, e, fr, b1, b2, b3⟩ := hloc; obtain ⟨f2, H2, c1, c2, c3, c4⟩ := a1.push cs' lo b1 b2; refine ⟨f2, H2, [.slice (some ⟨H1.size, 0, none⟩) len cap], [d], c1, a2.trans c2, .cons (.slX H1.size 0 len cap lo a c4 b3) (.nil f2), by simp [bg], ?_, ⟨hd2, trivial⟩⟩; have hDV : DV qK H2 (Own qK hp0) (.deep c) (.slice (some ⟨H1.size, 0, none⟩) c.len cap) := by
  refine .deep c H1.size 0 none cap ⟨cs'⟩ (.inl rfl) (by omega) c3 (Sh _) (by rw [hd3, hd4, zaD]; exact Nat.le_of_eq hcl'.symm) (fun i hi j sv hsv v hv => ?_); rw [hd3] at hi; rw [hd5 i hi] at hsv; rw [hd4, zaD] at hv; have ha6 := a6.len; have hrl : r.length = len * n := by rw [ha6]; simp [hn]
  have hin := jM (w := n) hi; have hsg := sM (a := l) (r := (r.drop (i * n)).take n) j (by simp; omega); rw [hsg] at hsv; have hjl : j < n := by
   rw [<- hn]; cases hlj : l[j]? with
   | none => rw [hlj] at hsv; cases hsv
   | some q => exact (zal.1 hlj).1
  refine (a5.2 (i * n + j) sv v ?_ hv).mono c2.ext; rw [sM _ ha6]; have e1 : ((List.replicate len l).flatten)[i * n + j]? = l[j]? := D6 hn hjl hi; rw [e1]; rw [<- hsv]
  congr 1
  funext q
  congr 1
  rw [zah, zah, zaq, if_pos hjl, zay]
 rw [hd3] at hDV; simp only [svs]; rw [hd1]; exact .cons hDV .nil
theorem yn {n z : Nat} (hz : 0 < z) (h : n * z <= reachBytes) : n <= 140737488355328 := by
 have : n * 1 <= n * z := Nat.mul_le_mul_left n hz; have : reachBytes <= 140737488355328 := by decide
 omega
theorem wg (hblk : ∃ (k0 : Nat) (C : Array Value) (e : TypeId) (fr : Nat × Nat), w.heap[k0]? = some (.cells C e fr)) : ∀ (fuel : Nat) (t : TypeId) (cs : List Value) x (D : Nat) (ss : List Sch),
 DataW.trod enc P w 0 (fun _ => true) true fuel t cs = some x -> qE P t x.1 -> CL P D t = some ss -> Good w ss cs /\ cs.length = ss.length
 | 0, _, _, _, _, _, h, _, _ => by cases h
 | fuel + 1, t, cs, x, 0, ss, _, _, hf => by cases hf
 | fuel + 1, t, cs, x, D + 1, ss, h, hz, hf => by
  have ih := wg hblk fuel; unfold CL at hf
  split at hf
  ·
   rename_i k hu; cases hf; obtain ⟨n, rfl, hw⟩ := trod_int hu h; refine ⟨fun f H hR => ⟨f, H, [.int k n], [.n n], hR, .refl f H, .cons (.int _ _) (.nil f), by simp [bg], .cons (.i _ _) .nil, ?_⟩, rfl⟩; exact ⟨hw, trivial⟩
  . rename_i hu; cases hf; obtain ⟨b, rfl⟩ := trod_bool hu h; refine ⟨fun f H hR => ⟨f, H, [.bool b], [.n (if b then 1 else 0)], hR, .refl f H, .cons (.bool _) (.nil f), by simp [bg], .cons ?_ .nil, ⟨trivial, trivial⟩⟩, rfl⟩; cases b
    . exact .b false
    . exact .b true
  ·
   rename_i e hu
   split at hf
   . rename_i k he
     split at hf
     . rename_i hc; obtain ⟨hc, hbyte⟩ := zak hc; cases hf; rcases trod_slice hu h with rfl | ⟨a, len, cap, rfl, hcap, hreach, hrows⟩
       . exact ⟨fun f H hR => ⟨f, H, [.slice none 0 0], [.r []], hR, .refl f H, .cons .dj (.nil f), by simp [bg], .cons (.cy _ rfl) .nil, ⟨⟨by simp [Dat.sub], fun x hx => by simp [Dat.sub] at hx⟩, trivial⟩⟩, rfl⟩
       . refine ⟨Good.slice (l := [.int k]) (n := 1) hblk hcap rfl (by omega) (fun i hi => ?_) (fun r hr => ?_), rfl⟩
         . obtain ⟨c, y, h1, h2, h3⟩ := hrows i hi; rw [hc] at h1; exact ⟨c, h1, (ih _ _ _ 1 [.int k] h2 (h3 hz) (by simp [CL, he])).1⟩
         . have hrl : r.length = len := by rw [hr.len]; simp
           refine ⟨.r r, .ints k (r.map Dat.int), rfl, ⟨zax (by show r.length <= cap; omega) (yn hbyte (hreach hz)), ?_⟩, by simp [aF.len, hrl], rfl, fun i hi => ?_⟩
           . intro x hx; have := WfR.rows (l := [.int k]) len hr; obtain ⟨i, hi⟩ := zbB (show x ∈ r from hx); have hil : i < len := by rw [<- hrl]; exact (zal.1 hi).1
             have := this (.r ((r.drop (i * 1)).take 1)) (zaJ (qB 1 len r i hil)); have e : (r.drop (i * 1)).take 1 = [x] := by
              rw [zb6]; apply zbr; intro j; rw [zaq, zay]; cases j with
              | zero => simpa using hi
              | succ j => simp
             rw [e] at this; exact this.1
           . have e : (r.drop (i * 1)).take 1 = [r.getD i (.n 0)] := by
              rw [zb6]; apply zbr; intro j; rw [zaq, zay]; cases j with
              | zero => simp [zah, zae (show i < r.length by omega)]
              | succ j => simp
             rw [e]; simp only [aF.row, svs, pQ, zah, List.getElem?_map]; rw [zae (show i < r.length by omega)]; rfl
     . cases hf
   . split at hf
     . rename_i l hl
       split at hf
       . rename_i hc; obtain ⟨hc, hc1, hbyte⟩ := zak hc; cases hf; rcases trod_slice hu h with rfl | ⟨a, len, cap, rfl, hcap, hreach, hrows⟩
         . exact ⟨fun f H hR => ⟨f, H, [.slice none 0 0], [.r []], hR, .refl f H, .cons .dj (.nil f), by simp [bg], .cons (.cy _ rfl) .nil, ⟨⟨by simp [Dat.sub], fun x hx => by simp [Dat.sub] at hx⟩, trivial⟩⟩, rfl⟩
         . refine ⟨Good.slice (l := l) (n := P.cellsOf e) hblk hcap hc (by omega) (fun i hi => ?_) (fun r hr => ?_), rfl⟩
           . obtain ⟨c, y, h1, h2, h3⟩ := hrows i hi; exact ⟨c, h1, (ih _ _ _ D l h2 (h3 hz) hl).1⟩
           . refine ⟨.r (mg l.length len r), .ag l (mg l.length len r), rfl, ⟨zax (by show (mg l.length len r).length <= cap; rw [qj]; exact hcap) (yn hbyte (hreach hz)), WfR.rows len hr⟩, qj _ _ _, hc, fun i hi => ?_⟩; simp only [aF.row]; rw [zah, qB _ _ _ _ hi, zby, <- hc]; have hrl : r.length = len * l.length := by rw [hr.len]; simp
             have hin := jM (w := l.length) hi; apply zbr; intro j; rw [fY, sM j (by simp; omega), zaD]; rfl
       . cases hf
     . cases hf
  ·
   rename_i fs hu
   split at hf
   . rename_i l n hl
     split at hf
     . rename_i hc; have hc := zak hc; cases hf; obtain ⟨h1, h2⟩ := trod_struct hu h; obtain ⟨g1, g2⟩ := vS (fun t cs x ss a z b => ih t cs x D ss a z b) cs hl (h2 hz); have := g2 (by omega); rw [zbS, zbK (by omega)] at this; exact ⟨this, by omega⟩
     . cases hf
   . cases hf
  ·
   rename_i n e hu
   split at hf
   . rename_i l hl
     split at hf
     . rename_i hc; obtain ⟨h0, hc⟩ := zak hc; cases hf; obtain ⟨h1, h2⟩ := CO hu h; refine ⟨Good.rows n (by rw [h1, hc]) (fun i hi => ?_), by rw [h1, hc]; simp⟩; obtain ⟨y, hy, hys⟩ := h2 i hi; rw [h0]; exact (ih _ _ _ D l hy (hys hz) hl).1
     . cases hf
   . cases hf
  . cases hf
end
end
end
end Go.Proofs.YtdbkoeefnodejaaGreat.Ev
namespace Go.Proofs.YtdbkoeefnodejaaGreat.Ev
noncomputable section
noncomputable section
open Go
open Go.RowKit (Below)
theorem wV {P : Program} {w : World} (h : w.ShapedOpen P) : ∃ (k0 : Nat) (C : Array Value) (e : TypeId) (fr : Nat × Nat), w.heap[k0]? = some (.cells C e fr) := by
 obtain ⟨o, o₀, h1, h2, h3⟩ := h.2 P.globals.size (zao _) (by simp [begin]; omega); rw [Nat.sub_self, if_neg (by decide)] at h3; have h4 : ∃ C e fr, o₀ = .cells C e fr := by
  simp only [begin, Array.getElem?_push, Array.size_push, Array.size_mapIdx] at h2; rw [if_neg (by omega), if_neg (by omega), if_neg (by omega), if_neg (by omega), if_pos trivial] at h2; exact ⟨_, _, _, (zbC h2).symm⟩
 obtain ⟨C, e, fr, h5⟩ := h4; exact ⟨_, C, e, fr, by rw [h1, h3, h5]⟩
def vpS : Sch -> VP
 | .int k => .int k
 | .bool => .bool
 | .ints k => .ints k
 | .ag l => .ag l
def Rl : Sch -> Dat -> Un
 | .int _, d => .i d.int
 | .bool, d => .b (d.int != 0)
 | .ints _, d => .l (d.sub.map Dat.int)
 | .ag _, d => .d d.sub
def uns : List Sch -> List Dat -> List Un
 | s :: l, d :: r => Rl s d :: uns l r
 | _, _ => []
def WfU : List Sch -> List Un -> Prop
 | [], [] => True
 | .int k :: l, .i n :: r => (Lit.int k n).wf = true /\ WfU l r
 | .bool :: l, .b _ :: r => WfU l r
 | .ints k :: l, .l xs :: r => (xs.length <= 140737488355328 /\ ∀ x ∈ xs, (Lit.int k x).wf = true) /\ WfU l r
 | .ag s :: l, .d xs :: r => (xs.length <= 140737488355328 /\ ∀ x ∈ xs, WfR s x.sub) /\ WfU l r
 | _, _ => False
theorem IG {us : List Un} (h : WfU [] us) : us = [] := by cases us with | nil => rfl | cons u us => exact h.elim
theorem fG {k : IntKind} {l : List Sch} {us : List Un} (h : WfU (.int k :: l) us) : ∃ a r, us = .i a :: r /\ (Lit.int k a).wf = true /\ WfU l r := by
 cases us with
 | nil => exact h.elim
 | cons u us => cases u <;> first | exact ⟨_, _, rfl, h.1, h.2⟩ | exact h.elim
theorem Lo {l : List Sch} {us : List Un} (h : WfU (.bool :: l) us) : ∃ a r, us = .b a :: r /\ WfU l r := by
 cases us with
 | nil => exact h.elim
 | cons u us => cases u <;> first | exact ⟨_, _, rfl, h⟩ | exact h.elim
theorem jY {k : IntKind} {l : List Sch} {us : List Un} (h : WfU (.ints k :: l) us) : ∃ a r, us = .l a :: r /\ (a.length <= 140737488355328 /\ ∀ x ∈ a, (Lit.int k x).wf = true) /\ WfU l r := by
 cases us with
 | nil => exact h.elim
 | cons u us => cases u <;> first | exact ⟨_, _, rfl, h.1, h.2⟩ | exact h.elim
theorem E8 {s l : List Sch} {us : List Un} (h : WfU (.ag s :: l) us) : ∃ a r, us = .d a :: r /\ (a.length <= 140737488355328 /\ ∀ x ∈ a, WfR s x.sub) /\ WfU l r := by
 cases us with
 | nil => exact h.elim
 | cons u us => cases u <;> first | exact ⟨_, _, rfl, h.1, h.2⟩ | exact h.elim
theorem WfR.uns : ∀ {l : List Sch} {r : List Dat}, WfR l r -> WfU l (uns l r)
 | [], [], _ => trivial
 | s :: l, d :: r, h => by
  simp only [WfR] at h; have := WfR.uns h.2; cases s with
  | int k => exact ⟨h.1, this⟩
  | bool => exact this
  | ints k =>
   refine ⟨⟨by rw [za5]; exact h.1.1, fun x hx => ?_⟩, this⟩; obtain ⟨d', hd, rfl⟩ := za3.1 hx; exact h.1.2 d' hd
  | ag s => exact ⟨h.1, this⟩
 | [], _ :: _, h => by simp [WfR] at h
 | _ :: _, [], h => by simp [WfR] at h
theorem WfU.append : ∀ {a b : List Sch} {r s : List Un}, WfU a r -> WfU b s -> WfU (a ++ b) (r ++ s)
 | [], b, r, s, h, k => by rw [IG h]; exact k
 | .int _ :: a, b, r, s, h, k => by obtain ⟨x, q, rfl, h1, h2⟩ := fG h; exact ⟨h1, h2.append k⟩
 | .bool :: a, b, r, s, h, k => by obtain ⟨x, q, rfl, h2⟩ := Lo h; exact h2.append k
 | .ints _ :: a, b, r, s, h, k => by obtain ⟨x, q, rfl, h1, h2⟩ := jY h; exact ⟨h1, h2.append k⟩
 | .ag _ :: a, b, r, s, h, k => by obtain ⟨x, q, rfl, h1, h2⟩ := E8 h; exact ⟨h1, h2.append k⟩
theorem DU : ∀ {l : List Sch} {r : List Dat}, r.length = l.length -> (uns l r).length = l.length
 | [], [], _ => rfl
 | s :: l, d :: r, h => by simp [uns, DU (l := l) (r := r) (by simpa using h)]
 | [], _ :: _, h => by simp at h
 | _ :: _, [], h => by simp at h
theorem ub (s : Sch) : (vpS s).size = 1 := by cases s <;> rfl
theorem Hl (s : Sch) (d : Dat) (rest : List Un) : (vpS s).to (Rl s d :: rest) = pQ s d := by cases s <;> rfl
theorem xp : ∀ (l : List Sch), VP.kW (l.map vpS) = l.length
 | [] => rfl
 | s :: l => by simp [VP.kW, ub, xp l]; omega
theorem EY : ∀ {l : List Sch} {r : List Dat} (rest : List Un), r.length = l.length -> VP.tos (l.map vpS) (uns l r ++ rest) = svs l r
 | [], [], rest, _ => rfl
 | s :: l, d :: r, rest, h => by
  simp only [zaX, uns, zaY, VP.tos, svs]; rw [Hl, ub, List.drop_one, List.tail_cons, EY rest (by simpa using h)]
 | [], _ :: _, _, h => by simp at h
 | _ :: _, [], _, h => by simp at h
abbrev Par := Bool × List Sch
def Par.vp : Par -> VP
 | (true, l) => .agg (l.map vpS)
 | (false, s :: _) => vpS s
 | (false, []) => .any
def y5 (P : Program) : List TypeId -> Option (List Par)
 | [] => some []
 | t :: ts =>
  match P.underlying t, CL P 20 t, y5 P ts with
  | some d, some ss, some r => (match kq d || decide (ss.length = 1) with | true => some ((kq d, ss) :: r) | false => none)
  | _, _, _ => none
section
variable {P : Program} {HH : Type} {enc : TypeId × Value -> HH} {w : World}
theorem AF (hblk : ∃ (k0 : Nat) (C : Array Value) (e : TypeId) (fr : Nat × Nat), w.heap[k0]? = some (.cells C e fr)) {base : Nat} : ∀ {ts : List TypeId} {vs : List Value} {ds : List (DataW HH)} {ps : List MemPlace} {pars : List Par},
 y5 P ts = some pars -> DataW.TrodAll enc P w 0 (fun _ => true) true ts vs ds ps -> (∀ n ∈ DataW.weightsEach P ts ds, n <= reachBytes) -> (∀ (j : Nat) t v, ts[j]? = some t -> vs[j]? = some v -> Value.okWide P w .any base t v) ->
 ∀ f H, RW f H w -> ∃ f' H' vs' us, RW f' H' w /\ wE f H f' H' /\ VL f' vs' vs /\ DVL qK H' (Own qK hp0) (VP.tos (pars.map Par.vp) us) vs' /\ WfU (pars.map (·.2)).flatten us
 | [], vs, ds, ps, pars, hp, hd, hz, hv, f, H, hR => by
  cases hp; cases vs with
  | nil => exact ⟨f, H, [], [], hR, .refl f H, .nil f, .nil, trivial⟩
  | cons v vs => cases ds <;> exact hd.elim
 | t :: ts, vs, ds, ps, pars, hp, hd, hz, hv, f, H, hR => by
  simp only [y5] at hp
  split at hp
  . rename_i d ss r hu hf hr
    split at hp
    . rename_i hc; cases hp; cases vs with
      | nil => cases ds <;> exact hd.elim
      | cons v vs =>
       cases ds with
       | nil => exact hd.elim
       | cons d0 ds =>
        obtain ⟨p, q, ⟨fuel, h1⟩, h2, rfl⟩ := hd; obtain ⟨hg, hlen⟩ := wg hblk fuel t _ _ 20 ss h1 (fun n hn => hz n (by rw [DataW.weightsEach]; exact zbI _ hn)) hf; obtain ⟨f1, H1, cs', rr, a1, a2, a3, a4, a5, a6⟩ := hg f H hR; obtain ⟨f2, H2, vs', us, b1, b2, b3, b4, b5⟩ := AF hblk hr h2 (fun n hn => hz n (by rw [DataW.weightsEach]; exact zbN _ hn)) (fun j t v g1 g2 => hv (j + 1) t v (by simpa using g1) (by simpa using g2)) f1 H1 a1; have hok := hv 0 t v (by simp) (by simp); have hul := DU a6.len; have a3' := a3.mono b2.1; have a5' := a5.mono b2.ext; have hcl : cs'.length = ss.length := by rw [a3.1, hlen]
        have htail : VP.tos (r.map Par.vp) ((Ev.uns ss rr ++ us).drop (Par.vp (kq d, ss)).size) = VP.tos (r.map Par.vp) us := by
         have : (Par.vp (kq d, ss)).size = ss.length := by
          cases ha : kq d with
          | true => exact xp ss
          | false =>
           rw [ha] at hc; have hc : ss.length = 1 := by simpa using hc
           match ss, hc with
           | [s], _ => exact ub s
         rw [this, <- hul, zbz]
        refine ⟨f2, H2, (match kq d with | true => Value.agg cs'.toArray | false => cs'.headD undef) :: vs', Ev.uns ss rr ++ us, b1, a2.trans b2, .cons ?_ b3, ?_, ?_⟩
        . cases ha : kq d with
          | true =>
           have : ∃ cs, v = .agg cs := by
            unfold Value.okWide at hok; rw [hu] at hok; cases d <;> simp only [kq, zbW] at ha <;> (obtain ⟨cs, h, _⟩ := hok; exact ⟨cs, h⟩)
           obtain ⟨cs, rfl⟩ := this; simp only; have e : (Value.agg cs).cells.toList = cs.toList := rfl; rw [e] at a3'; exact .agg cs'.toArray cs (by simpa using a3'.1) (fun i u hu' => a4 u (zaJ (by simpa using hu'))) (fun i u u' g1 g2 => a3'.2 i u u' (by simpa using g1) (by simpa using g2))
          | false =>
           rw [ha] at hc; have hc : ss.length = 1 := by simpa using hc
           have hnot : ∀ cs, v ≠ .agg cs := by
            rintro cs rfl
            unfold Value.okWide at hok; rw [hu] at hok; cases d <;> simp only [kq, reduceCtorEq] at ha <;> simp [Cell.okWide, hu, Cell.ok] at hok
           match cs', hcl.trans hc with
           | [c], _ =>
            simp only [List.headD_cons]; have hv1 : v.cells.toList = [v] := by
             cases v <;> first | rfl | exact absurd rfl (hnot _)
            rw [hv1] at a3'; exact a3'.2 0 c v (by simp) (by simp)
        . simp only [zaX, VP.tos]; rw [htail]; refine .cons ?_ b4; cases ha : kq d with
          | true =>
           simp only [Par.vp, VP.to]; rw [EY _ a6.len]; exact .agg _ _ (by simpa using a5'.1) (fun i s u g1 g2 => a5'.2 i s u g1 (by simpa using g2))
          | false =>
           rw [ha] at hc; have hc : ss.length = 1 := by simpa using hc
           have hrl := a6.len
           match ss, rr, cs', hc, hrl, hcl.trans hc with
           | [s], [dd], [c], _, _, _ =>
            simp only [Par.vp, Ev.uns, zaY, zaH, Hl, List.headD_cons]; exact a5'.2 0 _ c (by simp [svs]) (by simp)
        . simp only [zaX, zbl]; exact a6.uns.append b5
    . cases hp
  . cases hp
theorem nb : ∀ {ts : List TypeId} {vs : List Value} {ds : List (DataW HH)} {ps : List MemPlace}, DataW.TrodAll enc P w 0 (fun _ => true) true ts vs ds ps -> ds.length = ts.length
 | [], [], [], _, _ => rfl
 | t :: ts, v :: vs, d :: ds, ps, ⟨_, _, _, h, _⟩ => by simp [nb h]
theorem lb : ∀ {ts us : List TypeId} {ds gs : List (DataW HH)} {n : Nat}, ds.length = ts.length -> n ∈ DataW.weightsEach P ts ds -> n ∈ DataW.weightsEach P (ts ++ us) (ds ++ gs)
 | [], us, ds, gs, n, hl, h => by rw [DataW.weightsEach] at h; simp at h; simp
 | t :: ts, us, [], gs, n, hl, h => by simp at hl
 | t :: ts, us, d :: ds, gs, n, hl, h => by
  simp only [zaY, DataW.weightsEach] at h ⊢; rcases zbk.1 h with h | h
  . exact zbI _ h
  . exact zbN _ (lb (by simpa using hl) h)
variable {L : List FuncId} {TE : Tab} {X : bj}
theorem Hi (hmix : P.follows .mixedOrders = true) (hname : lv P = true) (hT : bj.right P TE) (hX : jm P X) {g : FuncId} {ts : List TypeId} {pars : List Par} (hp : y5 P ts = some pars)
 (h : ∀ us, WfU (pars.map (·.2)).flatten us -> vt P L (jO TE X) g ⟨pars.map Par.vp, [], 0⟩ ⟨[.bool], [], 0⟩ us [.b true]) (hsh : w.ShapedOpen P) {base : Nat} {vs : List Value} {ds : List (DataW HH)} {ps : List MemPlace}
 (hd : DataW.TrodAll enc P w 0 (fun _ => true) true ts vs ds ps) {us' : List TypeId} {gs : List (DataW HH)} (hz : (DataW.weightsEach P (ts ++ us') (ds ++ gs)).all (· <= reachBytes) = true) (hval : ∀ (j : Nat) t v, ts[j]? = some t -> vs[j]? = some v -> Value.okWide P w .any base t v) :
 Calls P g vs.toArray w fun e w' => e = .returned (.bool true) /\ Below w.heap.size w w' := by
 obtain ⟨f, H, vs', us, hR, _, hv, hdv, hwf⟩ := AF (wV hsh) hp hd (fun n hn => by simpa using zam.1 hz n (lb (nb hd) hn)) hval _ _ (RW.nil w); obtain ⟨N, y, H', φ', h1, _, h3⟩ := h us hwf qK H vs' (fun x hx => hx.elim) (Sb (Nat.le_of_eq hR.lock) hR.hid) hdv; have : y = .bool true := by
  simp only [Pn.eP, VP.tos, VP.to, mU] at h3; cases h3; rfl
 subst this; exact Gh hmix hname (Hs hT hX) h1 hR.r hR.lock hR.free hv
end
end
end
end Go.Proofs.YtdbkoeefnodejaaGreat.Ev
namespace Go.Proofs.YtdbkoeefnodejaaGreat.Ev
noncomputable section
noncomputable section
open Go
abbrev w64 (n : Int) : Int := IntKind.i64.wrap n
abbrev o5 (n : Int) : Int := IntKind.u64.wrap n
def ltN : Nat := Nat.succ (Nat.succ 0) + 1
def lt {α β : Type} (v : α) (f : α -> β) : β := (fun _ : Nat => f v) ltN
def chk {α : Type} (c : Bool) (t : Option α) : Option α := bif c then t else none
def NR {α : Type} (c : Bool) (t : Option α) : Option α := bif c then none else t
def inb (i : Int) (n : Nat) : Bool := decide (0 <= i /\ i < (n : Int))
def fits (n z : Nat) : Bool := decide (n < 1099511627776 /\ n * z < 35184372088832)
def ly (v : Int) (z : Nat) : Bool := decide (0 <= v /\ (z : Int) * v <= 140737488355328 /\ v <= 9223372036854775807)
def bI (b : Bool) : Int := bif b then 1 else 0
def Dat.i (d : Dat) (j : Nat) : Int := (d.fld j).int
def Dat.b (d : Dat) (j : Nat) : Bool := (d.fld j).int != 0
def Dat.l (d : Dat) (j : Nat) : List Int := List.map Dat.int (d.fld j).sub
def Dat.d (d : Dat) (j : Nat) : List Dat := (d.fld j).sub
def ae (l : List Dat) (i : Nat) : Dat := l.getD i (.r [])
theorem aa {n : Int} (h1 : -9223372036854775808 <= n) (h2 : n <= 9223372036854775807) : w64 n = n := by show IntKind.i64.wrap n = n; rw [IntKind.wrap_i64]; omega
theorem gS {α β : Type} {v : α} {f : α -> β} {r : β} (h : ∀ x, x = v -> f x = r) : lt v f = r := h v rfl
theorem aS {α : Type} {c : Bool} {a r : Option α} (h : c = true) (k : a = r) : chk c a = r := by rw [h]; exact k
theorem jA {α : Type} {c : Bool} {a b r : α} (h : c = true) (k : a = r) : (bif c then a else b) = r := by rw [h]; exact k
theorem jB {α : Type} {c : Bool} {a b r : α} (h : c = false) (k : b = r) : (bif c then a else b) = r := by rw [h]; exact k
theorem Ni {i : Int} {n : Nat} : inb i n = true ↔ 0 <= i /\ i < (n : Int) := by simp [inb]
theorem Lj {n z : Nat} : fits n z = true ↔ n < 1099511627776 /\ n * z < 35184372088832 := by simp [fits]
theorem Cy {v : Int} {z : Nat} : ly v z = true ↔ 0 <= v /\ (z : Int) * v <= 140737488355328 /\ v <= 9223372036854775807 := by simp [ly]
theorem jU (a b : Int) : (if b < a then b else a) = min a b := by omega
theorem lL (a b : Int) : (if a < b then b else a) = max a b := by omega
theorem me {a b : Int} (h : a = b) : (a == b) = true := by simp [h]
theorem mT {a b : Int} (h : a ≠ b) : (a == b) = false := by simp [h]
theorem Qm {a b : Int} (h : a ≠ b) : (a != b) = true := by simp [h]
theorem Qx {a b : Int} (h : a = b) : (a != b) = false := by simp [h]
theorem al (n : Nat) (h : 0 < n) : ∃ k, n = k + 1 := ⟨n - 1, by omega⟩
theorem ar (pre : List Dat) (x : Dat) (rest : List Dat) : ae (pre ++ x :: rest) pre.length = x := by simp [ae]
theorem cm (pre : List Int) (x : Int) (rest : List Int) (d : Int) : (pre ++ x :: rest).getD pre.length d = x := by simp
theorem xt (pre pre' : List Int) (x : Int) (rest : List Int) (d : Int) (h : pre'.length = pre.length) : (pre' ++ x :: rest).getD pre.length d = x := by rw [<- h]; simp
theorem sP {α : Type} (pre : List α) (x y : α) (rest : List α) : List.set (pre ++ x :: rest) pre.length y = pre ++ y :: rest := by simp
theorem FE (b : Bool) : (bI b != 0) = b := by cases b <;> rfl
section
variable (a b c d e f g h : Dat) (r : List Dat)
theorem Gz (x : Int) : (Dat.r (.n x :: r)).i 0 = x := rfl
theorem ez (x : Int) : (Dat.r (a :: .n x :: r)).i 1 = x := rfl
theorem hG (x : Int) : (Dat.r (a :: b :: .n x :: r)).i 2 = x := rfl
theorem fu (x : Int) : (Dat.r (a :: b :: c :: .n x :: r)).i 3 = x := rfl
theorem vZ (x : Int) : (Dat.r (a :: b :: c :: d :: .n x :: r)).i 4 = x := rfl
theorem og (x : Int) : (Dat.r (a :: b :: c :: d :: e :: .n x :: r)).i 5 = x := rfl
theorem oS (x : Int) : (Dat.r (a :: b :: c :: d :: e :: f :: .n x :: r)).i 6 = x := rfl
end
section
variable {α : Type} {a b : α} {o : Option α} {p : Prop} [Decidable p] {c d : Bool}
theorem lt_eq {β : Type} (v : β) (f : β -> α) : lt v f = f v := rfl
theorem aV (h : p) : chk (decide p) o = o := by rw [zad h]; rfl
theorem iZ : chk true o = o := rfl
theorem Lm : chk (c && d) o = chk c (chk d o) := by cases c <;> rfl
theorem jh {i : Int} {n : Nat} (h1 : 0 <= i) (h2 : i < (n : Int)) : chk (inb i n) o = o := by rw [Ni.2 ⟨h1, h2⟩]; rfl
theorem nf {n z : Nat} (h1 : n < 1099511627776) (h2 : n * z < 35184372088832) : chk (fits n z) o = o := by rw [Lj.2 ⟨h1, h2⟩]; rfl
theorem Hm {v : Int} {z : Nat} (h1 : 0 <= v) (h2 : (z : Int) * v <= 140737488355328) (h3 : v <= 9223372036854775807) : chk (ly v z) o = o := by rw [Cy.2 ⟨h1, h2, h3⟩]; rfl
theorem Iw (h : ¬ p) : NR (decide p) o = o := by rw [zaL h]; rfl
theorem bz (h : p) : (bif decide p then a else b) = a := by rw [zad h]; rfl
theorem aB (h : ¬ p) : (bif decide p then a else b) = b := by rw [zaL h]; rfl
theorem gC {x y : Int} (h : x = y) : (bif x == y then a else b) = a := by rw [me h]; rfl
theorem gA {x y : Int} (h : x ≠ y) : (bif x == y then a else b) = b := by rw [mT h]; rfl
theorem lq {x y : Int} (h : x ≠ y) : (bif x != y then a else b) = a := by rw [Qm h]; rfl
theorem lV {x y : Int} (h : x = y) : (bif x != y then a else b) = b := by rw [Qx h]; rfl
theorem cond_not : (bif !c then a else b) = (bif c then b else a) := by cases c <;> rfl
theorem GN : (bif c && d then a else b) = (bif c then (bif d then a else b) else b) := by cases c <;> rfl
theorem L9 : (bif c || d then a else b) = (bif c then a else (bif d then a else b)) := by cases c <;> rfl
theorem Lt : (bif true then a else b) = a := rfl
theorem j7 : (bif false then a else b) = b := rfl
theorem iu : (bif c then a else a) = a := by cases c <;> rfl
theorem eH {l : List Dat} {i : Nat} (h : i < l.length) : ae l i = l[i] := by simp [ae, h]
end
def sI (k : Nat) : List Sch := List.replicate k (.int .i64)
def sB (k : Nat) : List Sch := List.replicate k (.int .i64) ++ [.bool]
theorem TRa {α : Type} : (∀ {β : Type} (v : β) (f : β -> α), lt v f = f v) /\ (∀ {o : Option α} {p : Prop} [Decidable p], p -> chk (decide p) o = o) /\ (∀ {o : Option α}, chk true o = o) /\ (∀ {o : Option α} {c d : Bool}, chk (c && d) o = chk c (chk d o)) /\ (∀ {o : Option α} {i : Int} {n : Nat}, 0 <= i -> i < (n : Int) -> chk (inb i n) o = o) /\ (∀ {o : Option α} {n z : Nat}, n < 1099511627776 -> n * z < 35184372088832 -> chk (fits n z) o = o) /\ (∀ {o : Option α} {v : Int} {z : Nat}, 0 <= v -> (z : Int) * v <= 140737488355328 -> v <= 9223372036854775807 -> chk (ly v z) o = o) /\ (∀ {o : Option α} {p : Prop} [Decidable p], ¬ p -> NR (decide p) o = o) /\ (∀ {a b : α} {p : Prop} [Decidable p], p -> (bif decide p then a else b) = a) /\ (∀ {a b : α} {p : Prop} [Decidable p], ¬ p -> (bif decide p then a else b) = b) /\ (∀ {a b : α} {x y : Int}, x = y -> (bif x == y then a else b) = a) /\ (∀ {a b : α} {x y : Int}, x ≠ y -> (bif x == y then a else b) = b) /\ (∀ {a b : α} {x y : Int}, x ≠ y -> (bif x != y then a else b) = a) /\ (∀ {a b : α} {x y : Int}, x = y -> (bif x != y then a else b) = b) /\ (∀ {a b : α} {c : Bool}, (bif !c then a else b) = (bif c then b else a)) /\ (∀ {a b : α} {c d : Bool}, (bif c && d then a else b) = (bif c then (bif d then a else b) else b)) /\ (∀ {a b : α} {c d : Bool}, (bif c || d then a else b) = (bif c then a else (bif d then a else b))) /\ (∀ {a b : α}, (bif true then a else b) = a) /\ (∀ {a b : α}, (bif false then a else b) = b) :=
 ⟨fun v f => lt_eq v f, aV, iZ, Lm, jh, nf, Hm, Iw, bz, aB, gC, gA, lq, lV, cond_not, GN, L9, Lt, j7⟩
theorem TRi : (∀ a b : Int, (if b < a then b else a) = min a b) /\ (∀ a b : Int, (if a < b then b else a) = max a b) := ⟨jU, lL⟩
theorem LNl {α : Type} : (∀ a b : List α, (a ++ b).length = a.length + b.length) /\ (∀ (x : α) (a : List α), (x :: a).length = a.length + 1) /\ (([] : List α).length = 0) /\ (∀ (n : Nat) (x : α), (List.replicate n x).length = n) /\ (∀ (l : List α) (i : Nat) (x : α), (l.set i x).length = l.length) /\ (∀ {β : Type} (f : β -> α) (l : List β), (l.map f).length = l.length) /\ (∀ a b c : List α, a ++ b ++ c = a ++ (b ++ c)) /\ (∀ (x : α) (a b : List α), x :: a ++ b = x :: (a ++ b)) /\ (∀ a : List α, [] ++ a = a) :=
 ⟨fun a b => zai, fun x a => zaf, zaB, fun n x => List.length_replicate, fun l i x => zbg, fun f l => za5 f, fun a b c => zaA a b c, fun x a b => zaY, fun a => zaH a⟩
theorem LNi : (∀ n : Nat, (List.range n).length = n) /\ (∀ a b : Nat, ((a + b : Nat) : Int) = (a : Int) + (b : Int)) /\ (∀ n : Nat, ((n : Int)).toNat = n) /\ (∀ a b c : Int, a + b + c = a + (b + c)) /\ (∀ n : Nat, 0 + n = n) /\ (∀ n : Int, 0 + n = n) :=
 ⟨fun n => List.length_range, fun a b => zas a b, fun n => zaC n, fun a b c => Int.add_assoc a b c, fun n => zaD n, fun n => za0 n⟩
end
end
end Go.Proofs.YtdbkoeefnodejaaGreat.Ev
namespace Go.Proofs.YtdbkoeefnodejaaGreat
noncomputable section
open Go Go.Proofs.YtdbkoeefnodejaaGreat.Ev
set_option maxRecDepth 20000
def XS : List FuncId := []
def XX : bj := noX
theorem MA : jm Tryz.prog XX := NK
theorem KA (g : FuncId) (args : List Value) (H : ai) (h : (XS.any fun x => g == x) = false) : XX g args H = none := rfl
def LQ : List FuncId := [13, 33, 42, 43, 44, 48, 49, 87, 88, 92, 100, 101, 103, 105, 106, 107, 135, 136, 139, 146, 148, 165]
def teL : List (FuncId × (List Value -> Option (Bool × Value))) := [(22, e22), (98, e98), (132, Q3), (134, Nw)]
def TE : Tab := fA teL
def KN : FuncId -> Bool := Gr teL XS
theorem GZ : bj.right Tryz.prog TE := bZ (aJ Mv (aJ L2 (aJ GQ (aJ Cb aA))))
abbrev OO : bj := jO TE XX
theorem ak : ∀ g, KN g = false -> ∀ args H, OO g args H = none := xw KA
def T0 : Tb Tryz.prog LQ TE XX := .nil MA.fr
abbrev HO (F : aD) (t : aT) : Prop := F.eX Tryz.prog LQ OO t
abbrev ER (g : FuncId) (e : mo) : Prop := im Tryz.prog LQ OO g e
def bo (l : List Int) (i : Int) : Int := if l = [] then 0 else l.getD (i % (l.length : Int)).toNat 0
def AX (i : Nat) (x : Int) : Dat := .r [.n (2 * i + 1), .n (within x 0 100000)]
def eO : Nat -> List Int -> List Dat
 | _, [] => []
 | i, x :: l => AX i x :: eO (i + 1) l
def jb (l : List Int) : List Dat := eO 0 (l.take 10)
def N56 : aD := ⟨T0.tab, 56, ⟨[.ints .i64, .int .i64], [], 0⟩, ⟨[.int .i64], [], 0⟩, []⟩
def t56 (m : Nat) : List Int × Int -> Option (List Un) := fun (a0, a1) =>
 bif (a0.length : Int) == 0 then
 some ([.i 0])
 else
 NR (decide ((a0.length : Int) = 0)) <|
 lt ((a1.tmod (a0.length : Int)) : Int) fun x1 =>
 chk (inb x1 a0.length) <|
 chk (decide (x1.toNat < a0.length)) <|
 some ([.i (a0.getD x1.toNat 0)])
def f56 : List Int × Int -> Bool × List Un := fun (a0, a1) => (decide (0 <= a1), [.i (bo a0 a1)])
theorem Py (a0 : List Int) (a1 : Int) (hc : (decide (0 <= a1)) = true) : ∃ m, t56 m (a0, a1) = some ([.i (bo a0 a1)]) := by
 simp only [zac] at hc; refine ⟨0, ?_⟩; unfold t56 bo; cases a0 with
 | nil => simp [gC]
 | cons x l =>
  have e := zbm a1 (show ((x :: l).length : Int) ≠ 0 by simp; omega); have e2 := za9 a1 (show (0 : Int) < ((x :: l).length : Int) by simp); rw [if_neg (by simp)]; dsimp only; simp only [tm _ hc]; generalize a1 % _ = z at *
  simp (disch := omega) only [TRa, TRi, aa]
theorem KU : ER 56 (mkE N56.en N56.ex f56) := aq ak T0.right (fun m => []) (t := t56) (by kernel_rfl) (fun m => aA) (fun m a => by kernel_rfl) fun (a0, a1) hc => Py a0 a1 hc
def T56 : Tb Tryz.prog LQ TE XX := T0.add 56 _ KU
def N55 : aD := ⟨T56.tab, 55, ⟨[.ints .i64], [], 0⟩, ⟨[.buf 0 2], [.ag (sI 2)], 0⟩, []⟩
abbrev El : Type := List Int × Int × List Dat
def Ad (m : Nat) (k : El -> Option (List Un)) : El -> Option (List Un) := fun (a0, a1, a2) =>
 bif (decide (a1 < (a0.length : Int))) then
 bif decide (a1 < 10) then
 chk (inb a1 a0.length) <|
 chk (decide (a1.toNat < a0.length)) <|
 chk (fits (a2.length + 1) 16) <|
 k (a0, (w64 (a1 + 1)), (a2 ++ ([.r [.n (w64 ((w64 (2 * a1)) + 1)), .n (within (a0.getD a1.toNat 0) 0 100000)]])))
 else
 some ([.d a2])
 else
 some ([.d a2])
def yo (m : Nat) : Nat -> El -> Option (List Un) := bp (Ad m)
theorem uF (m : Nat) (n : Nat) : yo m (n + 1) = Ad m (yo m n) := rfl
def H5 (F : El -> Option (List Un)) : aT := ⟨[.lp [0, 1, 0, 1, 1], .blk 0, .code [1, 1, 1]], ⟨frm 28 [(0, .ints .i64), (3, .buf 0 2), (4, .int .i64)], [.ag (sI 2)], 0⟩, onU F⟩
theorem Rq (m : Nat) : ∀ n, HO N55 (H5 (yo m n)) := ay ak T56.right (fun k => [H5 k]) (fun k h => (aJ h aA)) fun k a => by kernel_rfl
def t55 (m : Nat) : List Int -> Option (List Un) := fun a0 =>
 yo m m (a0, 0, [])
theorem N2 (m : Nat) : ∀ (rest pre : List Int) (acc : List Dat) (n : Nat), rest.length < n -> acc.length = pre.length -> pre.length <= 10 ->
 yo m n (pre ++ rest, (pre.length : Int), acc) = some [.d (acc ++ eO pre.length (rest.take (10 - pre.length)))] := by
 intro rest
 induction rest with
 | nil =>
  intro pre acc n hn hl hp; obtain ⟨n, rfl⟩ := al n (by simp at hn; omega); rw [uF]; unfold Ad; dsimp only; simp [aB, eO]
 | cons x rest ih =>
  intro pre acc n hn hl hp; obtain ⟨n, rfl⟩ := al n (by simp at hn; omega); simp only [zaf] at hn; rw [uF]; unfold Ad; dsimp only
  by_cases h : pre.length < 10
  . have := ih (pre ++ [x]) (acc ++ [AX pre.length x]) n (by omega) (by simp; omega) (by simp; omega); obtain ⟨k, hk⟩ : ∃ k, 10 - pre.length = k + 1 := ⟨9 - pre.length, by omega⟩
    have hk2 : 10 - (pre.length + 1) = k := by omega
    simp only [hk2, hk, List.take_succ_cons, eO, AX, zai, zaf, zaB, zaA, zaY, zaH, zas] at this ⊢; simp (disch := omega) only [TRa, TRi, aa, LNl, LNi, zaa, cm]; exact this
  . simp only [show 10 - pre.length = 0 by omega, List.take_zero, eO, zaK]; simp (disch := omega) only [TRa, TRi, aa, LNl, LNi, zaa, cm]
def f55 : List Int -> Bool × List Un := fun a0 => (true, [.d (jb a0)])
theorem OC (a0 : List Int) : ∃ m, t55 m a0 = some ([.d (jb a0)]) := by
 refine ⟨a0.length + 1, ?_⟩; have := N2 (a0.length + 1) a0 [] [] (a0.length + 1) (by omega) rfl (by simp); simpa [jb, t55] using this
theorem Lc : ER 55 (mkE N55.en N55.ex f55) := aq ak T56.right (fun m => [H5 (yo m m)]) (t := t55) (by kernel_rfl) (fun m => (aJ (Rq m m) aA)) (fun m a => by kernel_rfl) fun a0 hc => OC a0
def T55 : Tb Tryz.prog LQ TE XX := T56.add 55 _ Lc
@[ext] structure ao where
 year : Int
 month : Int
 basis : Int
instance : Uns ao := Uns.via (B := Int × Int × Int) (fun x => (x.year, x.month, x.basis)) (fun x => match x with | (year, month, basis) => ⟨year, month, basis⟩) (fun _ => rfl)
@[ext] structure an where
 fee : Int
 bU : Int
 target : Int
 advance : Int
 et : Int
 oc : Int
 ic : Int
 late : Int
 kV : Int
 clean : Int
instance : Uns an := Uns.via (B := Int × Int × Int × Int × Int × Int × Int × Int × Int × Int) (fun x => (x.fee, x.bU, x.target, x.advance, x.et, x.oc, x.ic, x.late, x.kV, x.clean)) (fun x => match x with | (fee, bU, target, advance, et, oc, ic, late, kV, clean) => ⟨fee, bU, target, advance, et, oc, ic, late, kV, clean⟩) (fun _ => rfl)
@[ext] structure aP where
 a : ao
 aC : List Dat
 notes : List Dat
 b : an
 s0 : List Dat
 s1 : List Dat
 s2 : List Dat
instance : Uns aP := Uns.via (B := ao × List Dat × List Dat × an × List Dat × List Dat × List Dat) (fun x => (x.a, x.aC, x.notes, x.b, x.s0, x.s1, x.s2)) (fun x => match x with | (a, aC, notes, b, s0, s1, s2) => ⟨a, aC, notes, b, s0, s1, s2⟩) (fun _ => rfl)
@[ext] structure cS where
 a : ao
 b : an
 aC : List Int
 notes : List Int
 nV : List Int
 xD : List Int
 s0 : List Int
 s1 : List Int
 s2 : List Int
instance : Uns cS := Uns.via (B := ao × an × List Int × List Int × List Int × List Int × List Int × List Int × List Int) (fun x => (x.a, x.b, x.aC, x.notes, x.nV, x.xD, x.s0, x.s1, x.s2)) (fun x => match x with | (a, b, aC, notes, nV, xD, s0, s1, s2) => ⟨a, b, aC, notes, nV, xD, s0, s1, s2⟩) (fun _ => rfl)
def af (j : Nat) : List Dat -> Int
 | [] => 0
 | d :: l => d.i j + af j l
def dI (k : cS) : List Dat := jb k.aC ++ [.r [.n 99, .n 50000]]
def gY (k : cS) : Int := af 1 (dI k)
def E3 (k : cS) (p : Int) (i : Nat) : Dat := .r [.n (within (bo k.nV i) 0 3), .n (1 + within (bo k.notes i) 0 (p / 6)), .n (within (bo k.xD i) 0 1200)]
def g9 (k : cS) : List Dat := (List.range (min 5 (1 + k.notes.length))).map (E3 k (gY k))
def jK (x : Int) : Int := if within x 1 7 = 3 then within (w64 (x.tdiv 7)) 0 3 else 0
def ca (l : List Dat) (a b : Int) : Bool := l.any fun d => d.i 0 == a && d.i 1 == b
def fH : List Dat -> List Int -> List Dat
 | acc, [] => acc
 | acc, x :: r => fH (if ca acc (within x 1 7) (jK x) then acc else acc ++ [.r [.n (within x 1 7), .n (jK x)]]) r
def z6 : List Dat := [.r [.n 1, .n 0], .r [.n 3, .n 0], .r [.n 3, .n 1], .r [.n 4, .n 0], .r [.n 2, .n 0], .r [.n 6, .n 0]]
def mM (l : List Int) : List Dat := if (fH [] (l.take 12)).length = 0 then z6 else fH [] (l.take 12)
def aQ (k : cS) : aP := ⟨⟨within k.a.year 1990 2040, within k.a.month 1 12, within k.a.basis 0 2⟩, dI k, g9 k,
 ⟨within k.b.fee 0 200, within k.b.bU 0 5000, within k.b.target 0 500, within k.b.advance 0 3000, within k.b.et 0 3, within k.b.oc 0 12000, within k.b.ic 0 15000, within k.b.late 0 5000, within k.b.kV 0 5000, within k.b.clean 0 3000⟩,
 mM k.s0, mM k.s1, mM k.s2⟩
theorem oO : ∀ (l : List Int) (i : Nat), ∀ d ∈ eO i l, 0 <= d.i 1 /\ d.i 1 <= 100000
 | [], i => by simp [eO]
 | x :: l, i => by
  simp only [eO, zaV, forall_eq_or_imp]; exact ⟨bc (by decide), oO l _⟩
theorem vi : ∀ (l : List Int) (i : Nat), (eO i l).length = l.length
 | [], i => rfl
 | x :: l, i => by simp [eO, vi l]
theorem l6 (k : cS) : (dI k).length <= 11 := by simp [dI, jb, vi]; omega
theorem wq (k : cS) : ∀ d ∈ dI k, 0 <= d.i 1 /\ d.i 1 <= 100000 := by
 simp only [dI, jb, zbk, zbt]
 rintro d (h | rfl)
 . exact oO _ _ d h
 . decide
theorem pJ (j : Nat) (b : Int) : ∀ (l : List Dat), (∀ d ∈ l, 0 <= d.i j /\ d.i j <= b) -> 0 <= af j l /\ af j l <= b * l.length
 | [], _ => by simp [af]
 | x :: l, h => by
  have h1 := h x (by simp); have h2 := pJ j b l fun d hd => h d (by simp [hd])
  simp only [af, zaf, zas, zb0]; omega
theorem vu (k : cS) : 50000 <= gY k /\ gY k <= 1100000 := by
 have h1 := pJ 1 100000 (dI k) (wq k); have h2 := l6 k; refine ⟨?_, by unfold gY; omega⟩; have h3 : ∀ (a b : List Dat), af 1 (a ++ b) = af 1 a + af 1 b := by
  intro a b
  induction a with
  | nil => simp [af]
  | cons x a ih => simp only [zaY, af, ih]; omega
 have h4 := pJ 1 100000 (jb k.aC) (oO _ _); rw [gY, dI, h3]; have : af 1 [Dat.r [.n 99, .n 50000]] = 50000 := by decide
 omega
theorem zO (l : List Dat) (x : Dat) (a b : Int) : ca (l ++ [x]) a b = (ca l a b || (x.i 0 == a && x.i 1 == b)) := by simp [ca]
theorem wF : ∀ (l : List Int) (acc : List Dat), (fH acc l).length <= acc.length + l.length
 | [], acc => by simp [fH]
 | x :: l, acc => by
  have := wF l (if ca acc (within x 1 7) (jK x) then acc else acc ++ [.r [.n (within x 1 7), .n (jK x)]]); simp only [fH, zaf]
  split at this <;> rename_i h
  . rw [if_pos h]; omega
  . rw [if_neg h]; simp at this ⊢; omega
def N18 : aD := ⟨T55.tab, 18, ⟨[.agg [.int .i64, .int .i64, .int .i64, .int .i64, .int .i64, .int .i64, .int .i64, .int .i64, .int .i64, .int .i64, .int .i64, .int .i64, .int .i64, .ints .i64, .ints .i64, .ints .i64, .ints .i64, .ints .i64, .ints .i64, .ints .i64]], [], 0⟩, ⟨[.agg [.int .i64, .int .i64, .int .i64, .buf 0 2, .buf 1 3, .int .i64, .int .i64, .int .i64, .int .i64, .int .i64, .int .i64, .int .i64, .int .i64, .int .i64, .int .i64, .buf 2 2, .buf 3 2, .buf 4 2]], [.ag (sI 2), .ag (sI 3), .ag (sI 2), .ag (sI 2), .ag (sI 2)], 0⟩, []⟩
abbrev Em : Type := Int × Int × Bool × Int × Int × Int × cS × ao × an × ao × an × List Dat × Int × Int × List Dat × List Dat × List Dat × List Dat × List Dat × List Dat × List Dat × List Dat × List Dat × List Dat
abbrev pX : Type := Int × Int × Int × cS × ao × an × ao × an × List Dat × List Dat × List Dat × List Dat × List Dat × List Dat × List Dat × List Dat × List Dat × List Dat × List Dat
abbrev j4 : Type := Int × cS × ao × an × ao × an × List Dat × List Dat × List Dat × List Dat × List Dat × List Dat × List Dat × List Dat × List Dat × List Dat
abbrev EK : Type := Int × Int × cS × ao × an × ao × an × List Dat × List Dat × List Dat × List Dat × List Dat × List Dat × List Dat × List Dat × List Dat × List Dat
abbrev Fb : Type := Int × Int × Int × cS × ao × an × ao × an × List Dat × List Dat × List Dat × List Dat × List Dat × List Dat × List Dat × List Dat × List Dat × List Dat
def yW (m : Nat) (k2 : j4 -> Option (List Un)) (k3 : pX -> Option (List Un)) (k : Em -> Option (List Un)) : Em -> Option (List Un) := fun (a0, a1, a2, a3, a4, a5, a6, a7, a8, a9, a10, a11, a12, a13, a14, a15, a16, a17, a18, a19, a20, a21, a22, a23) =>
 bif decide (a5 < a4) then
 chk (inb a5 a11.length) <|
 chk (decide (a5.toNat < a11.length)) <|
 lt (ae a11 a5.toNat : Dat) fun d22 =>
 bif a2 then
 k (a0, a1, true, a3, a4, (w64 (a5 + 1)), a6, a7, a8, a9, a10, a11, a12, a13, a14, a15, a16, a17, a18, a19, a20, a21, a22, a23)
 else
 k (a0, a1, (((d22.i 0) == a12) && (((d22.i 1) == a13) && true)), a3, a4, (w64 (a5 + 1)), a6, a7, a8, a9, a10, a11, a12, a13, a14, a15, a16, a17, a18, a19, a20, a21, a22, a23)
 else
 bif !a2 then
 chk (fits (a11.length + 1) 16) <|
 k3 (a0, (w64 (a1 + 1)), a3, a6, a7, a8, a9, a10, (a11 ++ ([.r [.n a12, .n a13]])), a14, a15, a16, a17, a18, a19, a20, a21, a22, a23)
 else
 k3 (a0, (w64 (a1 + 1)), a3, a6, a7, a8, a9, a10, a11, a14, a15, a16, a17, a18, a19, a20, a21, a22, a23)
def uM (m : Nat) (k2 : j4 -> Option (List Un)) (k3 : pX -> Option (List Un)) : Nat -> Em -> Option (List Un) := bp (yW m k2 k3)
theorem uN (m : Nat) (k2 : j4 -> Option (List Un)) (k3 : pX -> Option (List Un)) (n : Nat) : uM m k2 k3 (n + 1) = yW m k2 k3 (uM m k2 k3 n) := rfl
def Gl (F : Em -> Option (List Un)) : aT := ⟨[.lp [0, 1, 0, 1, 1, 1, 0, 0, 1, 0, 0, 1, 0, 1, 1, 0, 0, 1, 1, 0, 0, 1, 0, 1, 1, 1, 1, 1, 1, 1], .blk 8, .code [1, 1, 1, 1, 0, 0, 1, 0, 0, 1, 0, 1, 1, 0, 0, 1, 1, 0, 0, 1, 0, 1, 1, 1, 1, 1, 1, 1], .blk 7, .code [1, 1, 0, 0, 1, 0, 1, 1, 0, 0, 1, 1, 0, 0, 1, 0, 1, 1, 1, 1, 1, 1, 1], .lp [0, 1, 0, 1, 1, 0, 0, 1, 1, 0, 0, 1, 0, 1, 1, 1, 1, 1, 1, 1], .blk 6, .code [1, 1, 1, 0, 0, 1, 1, 0, 0, 1, 0, 1, 1, 1, 1, 1, 1, 1], .blk 5, .code [1, 1, 1, 0, 0, 1, 0, 1, 1, 1, 1, 1, 1, 1], .lp [0, 1, 0, 1, 1, 1, 1, 1, 1, 1], .blk 4, .code [1, 1, 1, 1, 1, 1, 1, 1]], ⟨frm 192 [(1, .ptr 0 0 0), (2, .ptr 1 0 0), (3, .ptr 2 0 0), (9, .int .i64), (10, .buf 3 2), (11, .int .i64), (12, .ptr 4 0 0), (13, .bool), (119, .int .i64), (157, .buf 3 2), (158, .int .i64), (159, .int .i64)], [.cells [.int .i64, .int .i64, .int .i64, .int .i64, .int .i64, .int .i64, .int .i64, .int .i64, .int .i64, .int .i64, .int .i64, .int .i64, .int .i64, .ints .i64, .ints .i64, .ints .i64, .ints .i64, .ints .i64, .ints .i64, .ints .i64], .cells [.int .i64, .int .i64, .int .i64, .buf 5 2, .buf 6 3, .int .i64, .int .i64, .int .i64, .int .i64, .int .i64, .int .i64, .int .i64, .int .i64, .int .i64, .int .i64, .buf 7 2, .buf 8 2, .buf 9 2], .cells [.int .i64, .int .i64, .int .i64, .buf 10 2, .buf 11 3, .int .i64, .int .i64, .int .i64, .int .i64, .int .i64, .int .i64, .int .i64, .int .i64, .int .i64, .int .i64, .buf 12 2, .buf 13 2, .buf 14 2], .ag (sI 2), .cells [.int .i64, .int .i64], .ag (sI 2), .ag (sI 3), .ag (sI 2), .ag (sI 2), .ag (sI 2), .ag (sI 2), .ag (sI 3), .ag (sI 2), .ag (sI 2), .ag (sI 2)], 0⟩, onU F⟩
def Al (m : Nat) (k2 : j4 -> Option (List Un)) (k : pX -> Option (List Un)) : pX -> Option (List Un) := fun (a0, a1, a2, a3, a4, a5, a6, a7, a8, a9, a10, a11, a12, a13, a14, a15, a16, a17, a18) =>
 chk (inb a0 3) <|
 chk (decide (a0.toNat < 3)) <|
 bif (decide (a1 < ((List.getD [a3.s0, a3.s1, a3.s2] a0.toNat []).length : Int))) then
 bif decide (a1 < 12) then
 chk (inb a0 3) <|
 chk (decide (a0.toNat < 3)) <|
 chk (inb a1 ((List.getD [a3.s0, a3.s1, a3.s2] a0.toNat []).length)) <|
 chk (decide (a1.toNat < (List.getD [a3.s0, a3.s1, a3.s2] a0.toNat []).length)) <|
 lt (((List.getD [a3.s0, a3.s1, a3.s2] a0.toNat []).getD a1.toNat 0) : Int) fun x19 =>
 bif (within x19 1 7) == 3 then
 chk (inb a0 3) <|
 chk (decide (a0.toNat < 3)) <|
 chk (inb a1 ((List.getD [a3.s0, a3.s1, a3.s2] a0.toNat []).length)) <|
 chk (decide (a1.toNat < (List.getD [a3.s0, a3.s1, a3.s2] a0.toNat []).length)) <|
 uM m k2 k m (a0, a1, false, a2, (a8.length : Int), 0, a3, a4, a5, a6, a7, a8, (within x19 1 7), (within (w64 (((List.getD [a3.s0, a3.s1, a3.s2] a0.toNat []).getD a1.toNat 0).tdiv 7)) 0 3), a9, a10, a11, a12, a13, a14, a15, a16, a17, a18)
 else
 uM m k2 k m (a0, a1, false, a2, (a8.length : Int), 0, a3, a4, a5, a6, a7, a8, (within x19 1 7), 0, a9, a10, a11, a12, a13, a14, a15, a16, a17, a18)
 else
 bif (a8.length : Int) == 0 then
 bif decide (a0 = 0) then
 k2 ((w64 (a2 + 1)), a3, a4, a5, a6, a7, a9, a10, a11, a12, a13, a14, a15, ([.r [.n 1, .n 0], .r [.n 3, .n 0], .r [.n 3, .n 1], .r [.n 4, .n 0], .r [.n 2, .n 0], .r [.n 6, .n 0]] : List Dat), a17, a18)
 else
 bif decide (a0 = 1) then
 k2 ((w64 (a2 + 1)), a3, a4, a5, a6, a7, a9, a10, a11, a12, a13, a14, a15, a16, ([.r [.n 1, .n 0], .r [.n 3, .n 0], .r [.n 3, .n 1], .r [.n 4, .n 0], .r [.n 2, .n 0], .r [.n 6, .n 0]] : List Dat), a18)
 else
 bif decide (a0 = 2) then
 k2 ((w64 (a2 + 1)), a3, a4, a5, a6, a7, a9, a10, a11, a12, a13, a14, a15, a16, a17, ([.r [.n 1, .n 0], .r [.n 3, .n 0], .r [.n 3, .n 1], .r [.n 4, .n 0], .r [.n 2, .n 0], .r [.n 6, .n 0]] : List Dat))
 else
 none
 else
 bif decide (a0 = 0) then
 k2 ((w64 (a2 + 1)), a3, a4, a5, a6, a7, a9, a10, a11, a12, a13, a14, a15, a8, a17, a18)
 else
 bif decide (a0 = 1) then
 k2 ((w64 (a2 + 1)), a3, a4, a5, a6, a7, a9, a10, a11, a12, a13, a14, a15, a16, a8, a18)
 else
 bif decide (a0 = 2) then
 k2 ((w64 (a2 + 1)), a3, a4, a5, a6, a7, a9, a10, a11, a12, a13, a14, a15, a16, a17, a8)
 else
 none
 else
 bif (a8.length : Int) == 0 then
 bif decide (a0 = 0) then
 k2 ((w64 (a2 + 1)), a3, a4, a5, a6, a7, a9, a10, a11, a12, a13, a14, a15, ([.r [.n 1, .n 0], .r [.n 3, .n 0], .r [.n 3, .n 1], .r [.n 4, .n 0], .r [.n 2, .n 0], .r [.n 6, .n 0]] : List Dat), a17, a18)
 else
 bif decide (a0 = 1) then
 k2 ((w64 (a2 + 1)), a3, a4, a5, a6, a7, a9, a10, a11, a12, a13, a14, a15, a16, ([.r [.n 1, .n 0], .r [.n 3, .n 0], .r [.n 3, .n 1], .r [.n 4, .n 0], .r [.n 2, .n 0], .r [.n 6, .n 0]] : List Dat), a18)
 else
 bif decide (a0 = 2) then
 k2 ((w64 (a2 + 1)), a3, a4, a5, a6, a7, a9, a10, a11, a12, a13, a14, a15, a16, a17, ([.r [.n 1, .n 0], .r [.n 3, .n 0], .r [.n 3, .n 1], .r [.n 4, .n 0], .r [.n 2, .n 0], .r [.n 6, .n 0]] : List Dat))
 else
 none
 else
 bif decide (a0 = 0) then
 k2 ((w64 (a2 + 1)), a3, a4, a5, a6, a7, a9, a10, a11, a12, a13, a14, a15, a8, a17, a18)
 else
 bif decide (a0 = 1) then
 k2 ((w64 (a2 + 1)), a3, a4, a5, a6, a7, a9, a10, a11, a12, a13, a14, a15, a16, a8, a18)
 else
 bif decide (a0 = 2) then
 k2 ((w64 (a2 + 1)), a3, a4, a5, a6, a7, a9, a10, a11, a12, a13, a14, a15, a16, a17, a8)
 else
 none
def uG (m : Nat) (k2 : j4 -> Option (List Un)) : Nat -> pX -> Option (List Un) := bp (Al m k2)
theorem wc (m : Nat) (k2 : j4 -> Option (List Un)) (n : Nat) : uG m k2 (n + 1) = Al m k2 (uG m k2 n) := rfl
def E5 (F : pX -> Option (List Un)) : aT := ⟨[.lp [0, 1, 0, 1, 1, 0, 0, 1, 1, 0, 0, 1, 0, 1, 1, 1, 1, 1, 1, 1], .blk 6, .code [1, 1, 1, 0, 0, 1, 1, 0, 0, 1, 0, 1, 1, 1, 1, 1, 1, 1], .blk 5, .code [1, 1, 1, 0, 0, 1, 0, 1, 1, 1, 1, 1, 1, 1], .lp [0, 1, 0, 1, 1, 1, 1, 1, 1, 1], .blk 4, .code [1, 1, 1, 1, 1, 1, 1, 1]], ⟨frm 192 [(1, .ptr 0 0 0), (2, .ptr 1 0 0), (3, .ptr 2 0 0), (9, .int .i64), (10, .buf 3 2), (11, .int .i64), (119, .int .i64)], [.cells [.int .i64, .int .i64, .int .i64, .int .i64, .int .i64, .int .i64, .int .i64, .int .i64, .int .i64, .int .i64, .int .i64, .int .i64, .int .i64, .ints .i64, .ints .i64, .ints .i64, .ints .i64, .ints .i64, .ints .i64, .ints .i64], .cells [.int .i64, .int .i64, .int .i64, .buf 4 2, .buf 5 3, .int .i64, .int .i64, .int .i64, .int .i64, .int .i64, .int .i64, .int .i64, .int .i64, .int .i64, .int .i64, .buf 6 2, .buf 7 2, .buf 8 2], .cells [.int .i64, .int .i64, .int .i64, .buf 9 2, .buf 10 3, .int .i64, .int .i64, .int .i64, .int .i64, .int .i64, .int .i64, .int .i64, .int .i64, .int .i64, .int .i64, .buf 11 2, .buf 12 2, .buf 13 2], .ag (sI 2), .ag (sI 2), .ag (sI 3), .ag (sI 2), .ag (sI 2), .ag (sI 2), .ag (sI 2), .ag (sI 3), .ag (sI 2), .ag (sI 2), .ag (sI 2)], 0⟩, onU F⟩
def qI (m : Nat) (k : j4 -> Option (List Un)) : j4 -> Option (List Un) := fun (a0, a1, a2, a3, a4, a5, a6, a7, a8, a9, a10, a11, a12, a13, a14, a15) =>
 bif decide (a0 < 3) then
 uG m k m (a0, 0, a0, a1, a2, a3, a4, a5, [], a6, a7, a8, a9, a10, a11, a12, a13, a14, a15)
 else
 some (Uns.enc (a4 : ao) ++ Uns.enc (a5 : an) ++ [.d a11, .d a12, .d a13, .d a14, .d a15])
def pf (m : Nat) : Nat -> j4 -> Option (List Un) := bp (qI m)
theorem lM (m : Nat) (n : Nat) : pf m (n + 1) = qI m (pf m n) := rfl
def BW (F : j4 -> Option (List Un)) : aT := ⟨[.lp [0, 1, 0, 1, 1, 1, 1, 1, 1, 1], .blk 4, .code [1, 1, 1, 1, 1, 1, 1, 1]], ⟨frm 192 [(1, .ptr 0 0 0), (2, .ptr 1 0 0), (3, .ptr 2 0 0), (119, .int .i64)], [.cells [.int .i64, .int .i64, .int .i64, .int .i64, .int .i64, .int .i64, .int .i64, .int .i64, .int .i64, .int .i64, .int .i64, .int .i64, .int .i64, .ints .i64, .ints .i64, .ints .i64, .ints .i64, .ints .i64, .ints .i64, .ints .i64], .cells [.int .i64, .int .i64, .int .i64, .buf 3 2, .buf 4 3, .int .i64, .int .i64, .int .i64, .int .i64, .int .i64, .int .i64, .int .i64, .int .i64, .int .i64, .int .i64, .buf 5 2, .buf 6 2, .buf 7 2], .cells [.int .i64, .int .i64, .int .i64, .buf 8 2, .buf 9 3, .int .i64, .int .i64, .int .i64, .int .i64, .int .i64, .int .i64, .int .i64, .int .i64, .int .i64, .int .i64, .buf 10 2, .buf 11 2, .buf 12 2], .ag (sI 2), .ag (sI 3), .ag (sI 2), .ag (sI 2), .ag (sI 2), .ag (sI 2), .ag (sI 3), .ag (sI 2), .ag (sI 2), .ag (sI 2)], 0⟩, onU F⟩
def zI (m : Nat) (k : EK -> Option (List Un)) : EK -> Option (List Un) := fun (a0, a1, a2, a3, a4, a5, a6, a7, a8, a9, a10, a11, a12, a13, a14, a15, a16) =>
 bif decide (a1 < (w64 (1 + (a2.notes.length : Int)))) then
 bif decide (a1 < 5) then
 chk (decide (0 <= a1)) <|
 bif decide (-2305843009213693952 <= 0 /\ 0 <= (w64 (a0.tdiv 6)) /\ (w64 (a0.tdiv 6)) <= 2305843009213693952) then
 chk (decide (0 <= a1)) <|
 chk (decide (0 <= a1)) <|
 chk (fits (a13.length + 1) 24) <|
 k (a0, (w64 (a1 + 1)), a2, a3, a4, a5, a6, a7, a8, a9, a10, a11, a12, (a13 ++ ([.r [.n (within (bo a2.nV a1) 0 3), .n (w64 (1 + (within (bo a2.notes a1) 0 (w64 (a0.tdiv 6))))), .n (within (bo a2.xD a1) 0 1200)]])), a14, a15, a16)
 else
 none
 else
 pf m m (0, a2, a3, a4, a5, a6, a7, a8, a9, a10, a11, a12, a13, a14, a15, a16)
 else
 pf m m (0, a2, a3, a4, a5, a6, a7, a8, a9, a10, a11, a12, a13, a14, a15, a16)
def uz (m : Nat) : Nat -> EK -> Option (List Un) := bp (zI m)
theorem vn (m : Nat) (n : Nat) : uz m (n + 1) = zI m (uz m n) := rfl
def HR (F : EK -> Option (List Un)) : aT := ⟨[.lp [0, 1, 0, 1, 1, 1, 1, 1, 1], .blk 2, .code [1, 1, 1, 1, 1, 1, 1]], ⟨frm 192 [(1, .ptr 0 0 0), (2, .ptr 1 0 0), (3, .ptr 2 0 0), (4, .int .i64), (7, .int .i64)], [.cells [.int .i64, .int .i64, .int .i64, .int .i64, .int .i64, .int .i64, .int .i64, .int .i64, .int .i64, .int .i64, .int .i64, .int .i64, .int .i64, .ints .i64, .ints .i64, .ints .i64, .ints .i64, .ints .i64, .ints .i64, .ints .i64], .cells [.int .i64, .int .i64, .int .i64, .buf 3 2, .buf 4 3, .int .i64, .int .i64, .int .i64, .int .i64, .int .i64, .int .i64, .int .i64, .int .i64, .int .i64, .int .i64, .buf 5 2, .buf 6 2, .buf 7 2], .cells [.int .i64, .int .i64, .int .i64, .buf 8 2, .buf 9 3, .int .i64, .int .i64, .int .i64, .int .i64, .int .i64, .int .i64, .int .i64, .int .i64, .int .i64, .int .i64, .buf 10 2, .buf 11 2, .buf 12 2], .ag (sI 2), .ag (sI 3), .ag (sI 2), .ag (sI 2), .ag (sI 2), .ag (sI 2), .ag (sI 3), .ag (sI 2), .ag (sI 2), .ag (sI 2)], 0⟩, onU F⟩
def At (m : Nat) (k : Fb -> Option (List Un)) : Fb -> Option (List Un) := fun (a0, a1, a2, a3, a4, a5, a6, a7, a8, a9, a10, a11, a12, a13, a14, a15, a16, a17) =>
 bif decide (a2 < a1) then
 chk (inb a2 a8.length) <|
 chk (decide (a2.toNat < a8.length)) <|
 k ((w64 (a0 + ((ae a8 a2.toNat).i 1))), a1, (w64 (a2 + 1)), a3, a4, a5, a6, a7, a8, a9, a10, a11, a12, a13, a14, a15, a16, a17)
 else
 uz m m (a0, 0, a3, a4, a5, a6, a7, a9, a10, a11, a12, a13, a8, a14, a15, a16, a17)
def tR (m : Nat) : Nat -> Fb -> Option (List Un) := bp (At m)
theorem vl (m : Nat) (n : Nat) : tR m (n + 1) = At m (tR m n) := rfl
def II (F : Fb -> Option (List Un)) : aT := ⟨[.lp [0, 1, 0, 1, 1, 1, 1, 1], .blk 0, .code [1, 1, 1, 1, 1, 1]], ⟨frm 192 [(1, .ptr 0 0 0), (2, .ptr 1 0 0), (3, .ptr 2 0 0), (4, .int .i64), (71, .buf 3 2), (72, .int .i64), (73, .int .i64)], [.cells [.int .i64, .int .i64, .int .i64, .int .i64, .int .i64, .int .i64, .int .i64, .int .i64, .int .i64, .int .i64, .int .i64, .int .i64, .int .i64, .ints .i64, .ints .i64, .ints .i64, .ints .i64, .ints .i64, .ints .i64, .ints .i64], .cells [.int .i64, .int .i64, .int .i64, .buf 4 2, .buf 5 3, .int .i64, .int .i64, .int .i64, .int .i64, .int .i64, .int .i64, .int .i64, .int .i64, .int .i64, .int .i64, .buf 6 2, .buf 7 2, .buf 8 2], .cells [.int .i64, .int .i64, .int .i64, .buf 3 2, .buf 9 3, .int .i64, .int .i64, .int .i64, .int .i64, .int .i64, .int .i64, .int .i64, .int .i64, .int .i64, .int .i64, .buf 10 2, .buf 11 2, .buf 12 2], .ag (sI 2), .ag (sI 2), .ag (sI 3), .ag (sI 2), .ag (sI 2), .ag (sI 2), .ag (sI 3), .ag (sI 2), .ag (sI 2), .ag (sI 2)], 0⟩, onU F⟩
theorem Ru (m : Nat) (k2 : j4 -> Option (List Un)) (h2 : HO N18 (BW k2)) (k3 : pX -> Option (List Un)) (h3 : HO N18 (E5 k3)) : ∀ n, HO N18 (Gl (uM m k2 k3 n)) := ay ak T55.right (fun k => [E5 k3, Gl k]) (fun k h => (aJ h3 (aJ h aA))) fun k a => by kernel_rfl
theorem QD (m : Nat) (k2 : j4 -> Option (List Un)) (h2 : HO N18 (BW k2)) : ∀ n, HO N18 (E5 (uG m k2 n)) := ay ak T55.right (fun k => [BW k2, Gl (uM m k2 (k) m)]) (fun k h => (aJ h2 (aJ (Ru m _ h2 _ h m) aA))) fun k a => by kernel_rfl
theorem PN (m : Nat) : ∀ n, HO N18 (BW (pf m n)) := ay ak T55.right (fun k => [E5 (uG m (k) m)]) (fun k h => (aJ (QD m _ h m) aA)) fun k a => by kernel_rfl
theorem RB (m : Nat) : ∀ n, HO N18 (HR (uz m n)) := ay ak T55.right (fun k => [HR k, BW (pf m m)]) (fun k h => (aJ h (aJ (PN m m) aA))) fun k a => by kernel_rfl
theorem Rk (m : Nat) : ∀ n, HO N18 (II (tR m n)) := ay ak T55.right (fun k => [II k, HR (uz m m)]) (fun k h => (aJ h (aJ (RB m m) aA))) fun k a => by kernel_rfl
def t18 (m : Nat) : cS -> Option (List Un) := fun a0 =>
 chk (fits ((jb a0.aC).length + 1) 16) <|
 lt (((jb a0.aC) ++ ([.r [.n 99, .n 50000]])) : List Dat) fun l11 =>
 tR m m (0, (l11.length : Int), 0, a0, (⟨0, 0, 0⟩ : ao), (⟨0, 0, 0, 0, 0, 0, 0, 0, 0, 0⟩ : an), (⟨(within a0.a.year 1990 2040), (within a0.a.month 1 12), (within a0.a.basis 0 2)⟩ : ao), (⟨(within a0.b.fee 0 200), (within a0.b.bU 0 5000), (within a0.b.target 0 500), (within a0.b.advance 0 3000), (within a0.b.et 0 3), (within a0.b.oc 0 12000), (within a0.b.ic 0 15000), (within a0.b.late 0 5000), (within a0.b.kV 0 5000), (within a0.b.clean 0 3000)⟩ : an), l11, [], [], [], [], [], [], [], [], [])
section
variable (m : Nat) (k : cS) (za da : ao) (zb db : an) (x1 x2 x3 x4 x5 x6 x7 x8 x9 : List Dat)
theorem NO : ∀ (rest pre : List Dat) (n : Nat) (p : Int), rest.length < n -> (∀ d ∈ rest, 0 <= d.i 1 /\ d.i 1 <= 100000) -> (pre ++ rest).length <= 11 -> 0 <= p -> p <= 100000 * pre.length ->
 tR m n (p, ((pre ++ rest).length : Int), (pre.length : Int), k, za, zb, da, db, pre ++ rest, x1, x2, x3, x4, x5, x6, x7, x8, x9) = uz m m (p + af 1 rest, 0, k, za, zb, da, db, x1, x2, x3, x4, x5, pre ++ rest, x6, x7, x8, x9) := by
 intro rest
 induction rest with
 | nil =>
  intro pre n p hn hm hl h0 h1; obtain ⟨n, rfl⟩ := al n (by simp at hn; omega); rw [vl]; unfold At; dsimp only; simp [aB, af]
 | cons x rest ih =>
  intro pre n p hn hm hl h0 h1; obtain ⟨n, rfl⟩ := al n (by simp at hn; omega); simp only [zaf] at hn; rw [vl]; unfold At; dsimp only; have hx := hm x (by simp); have := ih (pre ++ [x]) n (p + x.i 1) (by omega) (fun d hd => hm d (by simp [hd])) (by simpa using hl) (by omega) (by simp; omega); simp only [zai, zaf] at hl; simp only [af]; simp (disch := omega) only [TRa, TRi, aa, LNl, LNi, zaa, ar]; simp only [LNl, LNi, zaa] at this ⊢; exact this
theorem NJ (hs : k.notes.length <= 140737488355328) (p : Int) (hp : 0 <= p) (hp2 : p <= 1100000) : ∀ (c i n : Nat), i + c = min 5 (1 + k.notes.length) -> c < n ->
 uz m n (p, (i : Int), k, za, zb, da, db, x1, x2, x3, x4, x5, x6, (List.range i).map (E3 k p), x7, x8, x9) = pf m m (0, k, za, zb, da, db, x1, x2, x3, x4, x5, x6, (List.range (min 5 (1 + k.notes.length))).map (E3 k p), x7, x8, x9) := by
 intro c
 induction c with
 | zero =>
  intro i n hi hn; obtain ⟨n, rfl⟩ := al n (by omega); rw [<- hi]; rw [vn]; unfold zI; dsimp only
  by_cases h : k.notes.length + 1 < 5
  . have : ¬ (i : Int) < 1 + (k.notes.length : Int) := by omega
    simp (disch := omega) only [TRa, TRi, aa, LNl, LNi, zaa, ar]; rfl
  . have : ¬ (i : Int) < 5 := by omega
    simp only [aB this, iu]; rfl
 | succ c ih =>
  intro i n hi hn; obtain ⟨n, rfl⟩ := al n (by omega); have := ih (i + 1) n (by omega) (by omega); rw [List.range_succ, zbT] at this; rw [vn]; unfold zI; dsimp only; have hq : 0 <= within (bo k.notes i) 0 (p / 6) /\ within (bo k.notes i) 0 (p / 6) <= p / 6 := bc (by omega); simp (disch := omega) only [td, aa]; simp (disch := omega) only [TRa, TRi, aa, LNl, LNi, zaa, ar]; simp only [LNl, LNi, zaa] at this ⊢; exact this
theorem O6 (x10 : List Dat) (k2 : j4 -> Option (List Un)) (k3 : pX -> Option (List Un)) (mi i m2 a b : Int) : ∀ (rest pre : List Dat) (n : Nat), rest.length < n -> (pre ++ rest).length <= 12 ->
 uM m k2 k3 n (mi, i, ca pre a b, m2, ((pre ++ rest).length : Int), (pre.length : Int), k, za, zb, da, db, pre ++ rest, a, b, x1, x2, x3, x4, x5, x6, x7, x8, x9, x10) = k3 (mi, w64 (i + 1), m2, k, za, zb, da, db, (if ca (pre ++ rest) a b then pre ++ rest else pre ++ rest ++ [.r [.n a, .n b]]), x1, x2, x3, x4, x5, x6, x7, x8, x9, x10) := by
 intro rest
 induction rest with
 | nil =>
  intro pre n hn hl; obtain ⟨n, rfl⟩ := al n (by simp at hn; omega); simp only [zaK] at hl ⊢; rw [uN]; unfold yW; dsimp only; cases h : ca pre a b <;> simp (disch := omega) only [TRa, TRi, aa, LNl, LNi, zaa, ar] <;> simp
 | cons x rest ih =>
  intro pre n hn hl; obtain ⟨n, rfl⟩ := al n (by simp at hn; omega); simp only [zaf, zai] at hn hl; rw [uN]; unfold yW; dsimp only; have := ih (pre ++ [x]) n (by omega) (by simp; omega); rw [zO] at this; cases h : ca pre a b <;> rw [h] at this <;> simp (disch := omega) only [TRa, TRi, aa, LNl, LNi, zaa, ar] <;> simp only [LNl, LNi, zaa] at this ⊢ <;> simpa using this
theorem Oq (x10 : List Dat) (k2 : j4 -> Option (List Un)) (mi m2 : Int) (h0 : 0 <= mi) (h1 : mi < 3) (hm : 12 < m) (l : List Int) (hl : List.getD [k.s0, k.s1, k.s2] mi.toNat [] = l) : ∀ (rest pre : List Int) (acc : List Dat) (n : Nat), rest.length < n -> l.take 12 = pre ++ rest -> acc.length <= pre.length ->
 uG m k2 n (mi, (pre.length : Int), m2, k, za, zb, da, db, acc, x1, x2, x3, x4, x5, x6, x7, x8, x9, x10) =
  bif decide (mi = 0) then k2 (w64 (m2 + 1), k, za, zb, da, db, x1, x2, x3, x4, x5, x6, x7, (if (fH acc rest).length = 0 then z6 else fH acc rest), x9, x10)
  else bif decide (mi = 1) then k2 (w64 (m2 + 1), k, za, zb, da, db, x1, x2, x3, x4, x5, x6, x7, x8, (if (fH acc rest).length = 0 then z6 else fH acc rest), x10)
  else bif decide (mi = 2) then k2 (w64 (m2 + 1), k, za, zb, da, db, x1, x2, x3, x4, x5, x6, x7, x8, x9, (if (fH acc rest).length = 0 then z6 else fH acc rest)) else none := by
 intro rest
 induction rest with
 | nil =>
  intro pre acc n hn hp ha; obtain ⟨n, rfl⟩ := al n (by simp at hn; omega); have hpl : min 12 l.length = pre.length := by have := congrArg List.length hp; simpa using this
  rw [wc]; unfold Al; dsimp only; simp only [hl, fH]
  by_cases hz : acc.length = 0
  . simp only [hz, za7]
    by_cases h : l.length < 12
    . have : ¬ (pre.length : Int) < (l.length : Int) := by omega
      simp (disch := omega) only [TRa, TRi, aa, LNl, LNi, zaa, ar]; rfl
    . have : ¬ (pre.length : Int) < 12 := by omega
      by_cases h' : (pre.length : Int) < (l.length : Int)
      . simp (disch := omega) only [TRa, TRi, aa, LNl, LNi, zaa, ar]; rfl
      . simp (disch := omega) only [TRa, TRi, aa, LNl, LNi, zaa, ar]; rfl
  . simp only [hz, zbh]
    by_cases h : l.length < 12
    . have : ¬ (pre.length : Int) < (l.length : Int) := by omega
      simp (disch := omega) only [TRa, TRi, aa, LNl, LNi, zaa, ar]
    . have : ¬ (pre.length : Int) < 12 := by omega
      by_cases h' : (pre.length : Int) < (l.length : Int)
      . simp (disch := omega) only [TRa, TRi, aa, LNl, LNi, zaa, ar]
      . simp (disch := omega) only [TRa, TRi, aa, LNl, LNi, zaa, ar]
 | cons x rest ih =>
  intro pre acc n hn hp ha; obtain ⟨n, rfl⟩ := al n (by simp at hn; omega); simp only [zaf] at hn; have hpl : min 12 l.length = pre.length + (rest.length + 1) := by have := congrArg List.length hp; simpa using this
  have hx : l.getD pre.length 0 = x := by
   have : (l.take 12)[pre.length]? = some x := by rw [hp]; simp
   rw [zaq, if_pos (by omega)] at this; simp [this]
  have := ih (pre ++ [x]) (if ca acc (within x 1 7) (jK x) then acc else acc ++ [.r [.n (within x 1 7), .n (jK x)]]) n (by omega) (by simpa using hp) (by split <;> simp <;> omega); refine Eq.trans ?_ this; have h4 := fun a b => O6 m k za da zb db x1 x2 x3 x4 x5 x6 x7 x8 x9 x10 k2 (uG m k2 n) mi (pre.length : Int) m2 a b acc [] m (by omega) (by simp; omega)
  rw [wc]; unfold Al; dsimp only; simp only [zaH, show ∀ a b, ca [] a b = false from fun _ _ => rfl] at h4; simp only [hl, zaC, hx]; have e1 : (pre.length : Int) < (l.length : Int) := by omega
  have e2 : (pre.length : Int) < 12 := by omega
  by_cases h3 : within x 1 7 = 3
  . have hr : jK x = within (w64 (x.tdiv 7)) 0 3 := by unfold jK; rw [if_pos h3]
    simp (disch := omega) only [TRa, TRi, aa, LNl, LNi, zaa, ar]; refine (h4 _ _).trans ?_
    rw [hr, aa (by omega) (by omega)]
  . have hr : jK x = 0 := by unfold jK; rw [if_neg h3]
    simp (disch := omega) only [TRa, TRi, aa, LNl, LNi, zaa, ar]; refine (h4 _ _).trans ?_
    rw [hr, aa (by omega) (by omega)]
end
def f18 : cS -> Bool × List Un := fun a0 => (decide (a0.notes.length <= 140737488355328), Uns.enc (((aQ a0).a) : ao) ++ Uns.enc (((aQ a0).b) : an) ++ [.d ((aQ a0).aC), .d ((aQ a0).notes), .d ((aQ a0).s0), .d ((aQ a0).s1), .d ((aQ a0).s2)])
set_option maxHeartbeats 1000000 in
theorem N4 (a0 : cS) (hc : (decide (a0.notes.length <= 140737488355328)) = true) : ∃ m, t18 m a0 = some (Uns.enc (((aQ a0).a) : ao) ++ Uns.enc (((aQ a0).b) : an) ++ [.d ((aQ a0).aC), .d ((aQ a0).notes), .d ((aQ a0).s0), .d ((aQ a0).s1), .d ((aQ a0).s2)]) := by
 have hs := zak hc; refine ⟨20, ?_⟩; unfold t18; have h1 := l6 a0; have h2 := vu a0; dsimp only [lt]; change chk (fits ((jb a0.aC).length + 1) 16) (tR 20 20 (0, ((dI a0).length : Int), 0, a0, _, _, _, _, dI a0, [], [], [], [], [], [], [], [], [])) = _; rw [nf (by simp [dI] at h1; omega) (by simp [dI] at h1; omega)]; have e0 := NO 20 a0 ⟨0, 0, 0⟩ ⟨within a0.a.year 1990 2040, within a0.a.month 1 12, within a0.a.basis 0 2⟩ ⟨0, 0, 0, 0, 0, 0, 0, 0, 0, 0⟩ (aQ a0).b [] [] [] [] [] [] [] [] [] (dI a0) [] 20 0 (by omega) (wq a0) h1 (by omega) (by simp); have e1 := NJ 20 a0 ⟨0, 0, 0⟩ ⟨within a0.a.year 1990 2040, within a0.a.month 1 12, within a0.a.basis 0 2⟩ ⟨0, 0, 0, 0, 0, 0, 0, 0, 0, 0⟩ (aQ a0).b [] [] [] [] [] (dI a0) [] [] [] hs (gY a0) (by omega) (by omega) (min 5 (1 + a0.notes.length)) 0 20 (by omega) (by omega); have e3 := fun k2 mi m2 g0 g1 l hl l8 l9 l10 => Oq 20 a0 ⟨0, 0, 0⟩ ⟨within a0.a.year 1990 2040, within a0.a.month 1 12, within a0.a.basis 0 2⟩ ⟨0, 0, 0, 0, 0, 0, 0, 0, 0, 0⟩ (aQ a0).b [] [] [] [] [] (dI a0) (g9 a0) l8 l9 l10 k2 mi m2 g0 g1 (by omega) l hl (l.take 12) [] [] 20 (by simp; omega) rfl (by simp)
 simp only [zaH, za0] at e0; refine e0.trans (e1.trans ?_); have q1 : ∀ {α : Type} (u v w : α), (bif decide ((0 : Int) = 0) then u else bif decide ((0 : Int) = 1) then v else w) = u := fun _ _ _ => rfl
 have q2 : ∀ {α : Type} (u v w : α), (bif decide ((1 : Int) = 0) then u else bif decide ((1 : Int) = 1) then v else w) = v := fun _ _ _ => rfl
 have q3 : ∀ {α : Type} (u v w x : α), (bif decide ((2 : Int) = 0) then u else bif decide ((2 : Int) = 1) then v else bif decide ((2 : Int) = 2) then w else x) = w := fun _ _ _ _ => rfl
 have w1 : w64 (0 + 1) = 1 := by decide
 have w2 : w64 (1 + 1) = 2 := by decide
 have w3 : w64 (2 + 1) = 3 := by decide
 rw [show pf 20 20 = pf 20 (16 + 4) from rfl, lM]; unfold qI; dsimp only; rw [bz (by decide)]; refine (e3 _ 0 0 (by decide) (by decide) a0.s0 rfl [] [] []).trans ?_
 rw [q1, w1, lM]; unfold qI; dsimp only; rw [bz (by decide)]; refine (e3 _ 1 1 (by decide) (by decide) a0.s1 rfl _ [] []).trans ?_
 rw [q2, w2, lM]; unfold qI; dsimp only; rw [bz (by decide)]; refine (e3 _ 2 2 (by decide) (by decide) a0.s2 rfl _ _ []).trans ?_
 rw [q3, w3, lM]; unfold qI; dsimp only; rw [aB (by decide)]; rfl
theorem KG : ER 18 (mkE N18.en N18.ex f18) := aq ak T55.right (fun m => [II (tR m m)]) (t := t18) (by kernel_rfl) (fun m => (aJ (Rk m m) aA)) (fun m a => by kernel_rfl) fun a0 hc => N4 a0 hc
def T18 : Tb Tryz.prog LQ TE XX := T55.add 18 _ KG
end
end Go.Proofs.YtdbkoeefnodejaaGreat
