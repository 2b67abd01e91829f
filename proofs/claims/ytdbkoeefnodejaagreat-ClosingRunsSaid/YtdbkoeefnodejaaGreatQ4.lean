/- Part of a proof: F8, F9, F10, F11, F12, F13, F14, F15, F16, F17, F18, F19, Keep. Conditions: none. -/
import Derived.HandedShaped
import Derived.Test.YtdbkoeefnodejaaGreatQ2
import Derived.Test.YtdbkoeefnodejaaGreatQ3
set_option linter.unusedVariables false
set_option linter.unusedSimpArgs false
set_option linter.unnecessarySimpa false
set_option linter.unusedSectionVars false
namespace Go.Proofs.YtdbkoeefnodejaaGreat.Ev
noncomputable section
noncomputable section
open Go
structure dk where
 kind : Kd
 n0 : Nat
 n1 : Nat
 ld : Option Nat
 tgt : Option Nat
 v : SV
 re : Option (TypeId × SV)
 ok : List Nat
 hm : List (Nat × Nat)
def dT (p : Nat -> Bool) : List dk -> Nat -> List (Nat × Nat)
 | [], _ => [(0, 0)]
 | r :: rs, k => if p k then dT p rs (k + 1) else (r.n0, r.n1) :: dT p rs (k + 1)
def eK (S : ag) (M : List (Nat × Nat)) : ag := { S with hid := M ++ S.hid }
def nY (S : ag) (p : Nat -> Bool) (rs : List dk) : ag := { S with lock := S.size, hid := dT p rs 0 ++ S.hid }
def bx (S S' : ag) : ag := { S' with lock := S.lock, hid := S.hid }
mutual
def P0 : SV -> List Nat
 | .ptr id _ _ _ => [id]
 | .buf id _ _ => [id]
 | .sl id _ _ _ => [id]
 | .np id _ _ _ => [id]
 | .fn _ x y => AW x ++ AW y
 | .agg l => AW l
 | .tup l => AW l
 | _ => []
def AW : List SV -> List Nat
 | [] => []
 | s :: l => P0 s ++ AW l
end
def PL : aJ -> List Nat
 | .cells l => AW l
 | .cont _ => []
 | .cW id _ _ _ => [id]
def xT (S : ag) : Nat -> List Nat -> List Nat -> List Nat
 | 0, _, seen => seen
 | _ + 1, [], seen => seen
 | f + 1, k :: r, seen => match seen.contains k with
  | true => xT S f r seen
  | false => (match S.root.get k with | some B => xT S f (PL B ++ r) (k :: seen) | none => xT S f r (k :: seen))
def On (S : ag) (ss : List SV) : List (Nat × Nat) :=
 (fun seen => (List.range S.size).filterMap fun k => match seen.contains k with | true => none | false => some (k, k + 1)) (xT S 1000 (AW ss) [])
def ph (S : ag) (fr : List SV) (o : Oper) : List (Nat × Nat) :=
 match o.op with
 | .call c => (match c.callee with
  | .value a => On S ((a :: c.args.toList).filterMap (fR fr))
  | _ => [])
 | _ => []
def Du (c : dk) (y : Nat) : Bool := (match c.tgt with | some x => x != y | none => false) || hidden c.hm y
def Ap : SV -> Bool
 | .i _ _ => true
 | .b _ => true
 | .fL => true
 | .dn => true
 | .jD => true
 | .ptr _ _ _ _ => true
 | .buf _ _ _ => true
 | .sl _ _ _ _ => true
 | .deep _ => true
 | .dp _ _ _ => true
 | _ => false
def qy : SV -> Bool
 | .agg l => l.all Ap
 | v => Ap v
def mu : SV -> Option Nat
 | .ptr id _ _ _ => some id
 | _ => none
def GO (fr : List SV) (o : Oper) : Bool :=
 match o.op with
 | .call c => (match c.callee, c.args.toList with
  | .builtin .append, s :: _ => (match fR fr s with | some v => Ei v | none => false)
  | _, _ => true)
 | _ => true
def yk (fr : List SV) : Option Tmp -> SV -> List SV
 | none, _ => fr
 | some d, v => fr.set d v
def xv (A : Array Nat) (B : Nat -> Bool) (rs : List dk) (i : Nat) (a : dk) (j : Nat) (b : dk) : Bool :=
 match b.kind with
 | .cg =>
  (match a.kind with
   | .pure => true
   | .load => aL A i j || (aL A j i || (b.ok.contains i || (decide (i < j) && (match a.ld with
    | some y => qy a.v && ((rs.take (j + 1)).drop i).all fun r => match r.kind with
     | .cg => Du r y
     | _ => true
    | none => false)) || (decide (j < i) && (match a.ld with
    | some y => (qy a.v && decide (y < b.n0)) && ((rs.take (i + 1)).drop j).all fun r => match r.kind with
     | .cg => Du r y
     | _ => true
    | none => false))))
   | .quiet => i == j || (aL A i j || (aL A j i || (decide (j < i) && B i)))
   | .cg => i == j || (aL A i j || aL A j i))
 | _ => true
def uz (A : Array Nat) (B : Nat -> Bool) (rs : List dk) : Bool := rs.zipIdx.all fun (a, i) => rs.zipIdx.all fun (b, j) => xv A B rs i a j b
def qL (A : Array Nat) (n : Nat) : Bool := (List.range n).all fun i => (List.range n).all fun j => !aL A i j || ((A.getD i 0) ||| (A.getD j 0) == A.getD i 0)
def Dc {R : Type} (a b : SV) (r : Option R) : Option R :=
 match a, b with
 | .i k x, .i k' y => (match k == k' with | true => (bif decide (x = y) then r else none) | false => none)
 | .b x, .b y => (bif x == y then r else none)
 | _, _ => none
def vD {R : Type} : List SV -> List SV -> Option R -> Option R
 | [], [], r => r
 | a :: l, b :: m, r => Dc a b (vD l m r)
 | _, _, _ => none
def F0 {R : Type} (a b : SV) (r : Option R) : Option R :=
 match a with
 | .agg l => (match b with | .agg m => vD l m r | _ => none)
 | _ => Dc a b r
def reS {R : Type} (P : Program) (S : ag) (A : Array Nat) (j : Nat) : List dk -> Nat -> (List Nat -> Option R) -> Option R
 | [], _, k => k []
 | a :: l, i, k =>
  match a.re with
  | some (t, p) =>
   (match aL A j i || aL A i j with
    | true => reS P S A j l (i + 1) k
    | false => qw P S t p fun v => F0 a.v v (reS P S A j l (i + 1) fun oks => k (i :: oks)))
  | none => reS P S A j l (i + 1) k
def reL {R : Type} (P : Program) (S : ag) (A : Array Nat) (j : Nat) (o : Oper) (rs : List dk) (k : List Nat -> Option R) : Option R :=
 match o.op with
 | .store _ _ _ => k []
 | _ => reS P S A j rs 0 k
section
variable {R : Type} (P : Program) (L : List FuncId) (T : ou) (cx : oa R)
def Jf (A : Array Oper) (fr : List SV) (o : Oper) (yes no : List SV -> Option R) : Option R :=
 match o.guard with
 | none => yes fr
 | some (j, want) =>
  match (A[j]?).bind (·.dst) with
  | some d =>
   match fr[d]? with
   | some (.b x) => (match x with
    | true => (match want with | true => yes (fr.set d (.b true)) | false => no (fr.set d (.b true)))
    | false => (match want with | true => no (fr.set d (.b false)) | false => yes (fr.set d (.b false))))
   | some (.tup _) => no fr
   | _ => none
  | none => none
def Ef (A : Array Oper) : List Oper -> SSt -> (SSt -> Option R) -> Option R
 | [], s, k => k s
 | o :: r, s, k =>
  Jf A s.fr o (fun fr => opS P T cx (fR fr) o s.hp fun v S => Ef A r ⟨yk fr o.dst v, S⟩ k)
   (fun fr => Ef A r ⟨yk fr o.dst (.tup []), s.hp⟩ k)
def kC (ops : Array Oper) (A : Array Nat) : List Oper -> Nat -> SSt -> List dk -> (SSt -> Option R) -> Option R
 | [], _, s, rs, k => (match uz A (dO ops) rs with | true => k s | false => none)
 | o :: l, i, s, rs, k =>
  Jf ops s.fr o
   (fun fr => match eE L o with
    | .pure => opS P T cx (fR fr) o s.hp fun v _ => kC ops A l (i + 1) ⟨yk fr o.dst v, s.hp⟩ (rs ++ [⟨.pure, s.hp.size, s.hp.size, none, none, .any, none, [], []⟩]) k
    | .load =>
     (match o.op with
      | .load t a =>
       (match fR fr a with
        | some p => qw P (nY s.hp (aL A i) rs) t p fun v => kC ops A l (i + 1) ⟨yk fr o.dst v, s.hp⟩ (rs ++ [⟨.load, s.hp.size, s.hp.size, mu p, none, v, some (t, p), [], []⟩]) k
        | none => none)
      | _ => none)
    | .quiet =>
     (match GO fr o with
      | true => opS P T cx (fR fr) o (nY s.hp (aL A i) rs) fun v S' => kC ops A l (i + 1) ⟨yk fr o.dst v, bx s.hp S'⟩ (rs ++ [⟨.quiet, s.hp.size, S'.size, none, none, .any, none, [], []⟩]) k
      | false => opS P T cx (fR fr) o (eK s.hp (dT (aL A i) rs 0)) fun v S' => kC ops A l (i + 1) ⟨yk fr o.dst v, bx s.hp S'⟩ (rs ++ [⟨.cg, s.hp.size, S'.size, none, none, .any, none, [], []⟩]) k)
    | .cg => opS P T cx (fR fr) o (eK s.hp (ph s.hp fr o ++ dT (aL A i) rs 0)) fun v S' => reL P (bx s.hp S') A i o rs fun oks => kC ops A l (i + 1) ⟨yk fr o.dst v, bx s.hp S'⟩
     (rs ++ [⟨.cg, s.hp.size, S'.size, none, (match o.op with | .store _ a _ => (match fR fr a with | some p => mu p | none => none) | _ => none), .any, none, oks, ph s.hp fr o⟩]) k)
   (fun fr => kC ops A l (i + 1) ⟨yk fr o.dst (.tup []), s.hp⟩ (rs ++ [⟨.pure, s.hp.size, s.hp.size, none, none, .any, none, [], []⟩]) k)
variable (stop : List Nat -> Bool)
def eZ : Nat -> List Item -> SSt -> (List Item -> SSt -> Option R) -> Option R
 | 0, _, _, _ => none
 | n + 1, its, s, k =>
  match its with
  | [] => k [] s
  | .code p c :: r =>
   match c with
   | .skip => eZ n r s k
   | .label _ => eZ n r s k
   | .region _ ops d =>
    (match d with
     | false => Ef P T cx ops ops.toList s fun s' => eZ n r s' k
     | true =>
      (match fH ops (Region.before ops) s.fr.length && qL (Region.before ops) ops.size with
       | true => kC P L T cx ops (Region.before ops) ops.toList 0 s [] fun s' => eZ n r s' k
       | false => none))
   | .seq a b => eZ n (.code (0 :: p) a :: .code (1 :: p) b :: r) s k
   | .cond x a b =>
    (match fR s.fr x with
     | some (.b t) => (match t with | true => eZ n (.code (0 :: p) a :: r) s k | false => eZ n (.code (1 :: p) b :: r) s k)
     | _ => none)
   | .block id b => eZ n (.code (0 :: p) b :: .blk id :: r) s k
   | .loop b => eZ n (.lp p b :: r) s k
   | .exit id => (match leave id r with | some r' => eZ n r' s k | none => none)
   | .ret => k [] s
   | _ => none
  | .lp p b :: r => (match stop p with | true => k (.lp p b :: r) s | false => eZ n (.code (0 :: p) b :: .lp p b :: r) s k)
  | .blk _ :: r => eZ n r s k
  | .ops .. :: _ => none
def ng (S : ag) (fr : List SV) : List ResultVar -> (List SV -> Option R) -> Option R
 | [], k => k []
 | .tmp t :: r, k => ng S fr r fun vs => k (fr.getD t (.tup []) :: vs)
 | .cell a t :: r, k => qw P S t (fr.getD a (.tup [])) fun v => ng S fr r fun vs => k (v :: vs)
def mz : List SV -> SV
 | [v] => v
 | vs => .tup vs
end
def rZ {R : Type} (P : Program) (L : List FuncId) (T : ou) (kn : FuncId -> Bool) : Nat -> oa R
 | 0, _, _, _, _ => none
 | n + 1, g, args, S, k =>
  match kn g with
  | true => none
  | false =>
  match P.funcs[g]? with
  | some fn =>
   match fn.body with
   | some c =>
    eZ P L T (rZ P L T kn n) (fun _ => false) 100000 [.code [] c] ⟨args ++ List.replicate (fn.ntmps - args.length) (.tup []), S⟩ fun its s =>
     match its with
     | [] => ng P s.hp s.fr fn.results.toList fun vs => k (mz vs) s.hp
     | _ => none
   | none => none
  | none => none
section
variable {R : Type} {P : Program} {L : List FuncId} {O : bh} {T : ou} {φ : Phi} {H : ae} {own : Nat -> Prop} {S : ag}
theorem se {A : Array Oper} {fr : List SV} {fv : List Value} (hf : DVL φ H own fr fv) {o : Oper} {a b : List SV -> Option R} {r : R} (h : Jf A fr o a b = some r) :
 ∃ fr', DVL φ H own fr' fv /\ ((cR A fv o = true /\ a fr' = some r) \/ (cR A fv o = false /\ b fr' = some r)) := by
 unfold Jf at h; unfold cR
 split at h
 · rename_i hg; simp only [hg]; exact ⟨fr, hf, .inl ⟨trivial, h⟩⟩
 · rename_i j want hg; simp only [hg]
   split at h
   · rename_i d hd; rw [hd]; dsimp only [Option.bind]
     split at h
     · rename_i x hx; obtain ⟨v, h1, h2⟩ := hf.get hx; cases h2; rw [h1]; have hset : ∀ t, t = x -> DVL φ H own (fr.set d (.b t)) fv := by
        rintro t rfl
        have : fr.set d (.b t) = fr := by
         apply List.ext_getElem?; intro m; rw [List.getElem?_set]
         split
         · rename_i hm; subst hm
           split
           · exact hx.symm
           · rename_i hlt; rw [List.getElem?_eq_none (by omega)] at hx; cases hx
         · rfl
        rw [this]; exact hf
       cases x <;> cases want <;> simp only at h
       · exact ⟨_, hset false rfl, .inl ⟨rfl, h⟩⟩
       · exact ⟨_, hset false rfl, .inr ⟨rfl, h⟩⟩
       · exact ⟨_, hset true rfl, .inr ⟨rfl, h⟩⟩
       · exact ⟨_, hset true rfl, .inl ⟨rfl, h⟩⟩
     · rename_i l hx; obtain ⟨v, h1, h2⟩ := hf.get hx; cases h2; rw [h1]; exact ⟨fr, hf, .inr ⟨rfl, h⟩⟩
     · cases h
   · cases h
theorem gI {fr : List SV} {fv : List Value} (hf : DVL φ H own fr fv) (d : Option Tmp) {s : SV} {v : Value} (hv : DV φ H own s v) : DVL φ H own (yk fr d s) (fu fv d v) := by
 cases d with
 | none => exact hf
 | some d => exact hf.set d hv
theorem DV.undef : DV φ H own (.tup []) undef := .tup [] #[] rfl (fun i s v h => by simp at h)
theorem mS {cx : oa R} (hT : dg P L O T) (hcx : mg P L O cx) {A : Array Oper} : ∀ {l : List Oper} {fr : List SV} {S : ag} {fv : List Value} {H : ae} {φ : Phi} {k : SSt -> Option R} {r : R},
 NBh φ S H -> Sim φ S H -> DVL φ H (Own φ S) fr fv -> Ef P T cx A l ⟨fr, S⟩ k = some r ->
 ∃ φ' fr' S' fv' H', k ⟨fr', S'⟩ = some r /\ Step φ S H φ' S' H' /\ DVL φ' H' (Own φ' S') fr' fv' /\ ∀ its q, ck P L O its ⟨fv', H'⟩ q -> ck P L O (.ops A l :: its) ⟨fv, H⟩ q
 | [], fr, S, fv, H, φ, k, r, hnb, hS, hf, h => ⟨φ, fr, S, fv, H, h, Step.refl hS, hf, fun _ _ hm => .EE hm⟩
 | o :: l, fr, S, fv, H, φ, k, r, hnb, hS, hf, h => by
  unfold Ef at h; obtain ⟨fr1, hf1, ⟨hw, h⟩ | ⟨hw, h⟩⟩ := se hf h
  · obtain ⟨s, S1, v, H1, ho, ⟨φ1, hst, hv⟩, _, hk, _⟩ := jy hT hcx hS (fun x s hs => gv hf1 hs) (fun _ => hnb) h; have hext := hst.ext hS; obtain ⟨φ2, fr2, S2, fv2, H2, g1, g2, g3, g4⟩ := mS hT hcx (hnb.step hst) hst.sim (gI (hf1.mono hext) o.dst hv) hk; exact ⟨φ2, fr2, S2, fv2, H2, g1, hst.trans g2, g3, fun its q hm => .op hw ho (g4 its q hm)⟩
  · obtain ⟨φ2, fr2, S2, fv2, H2, g1, g2, g3, g4⟩ := mS hT hcx hnb hS (gI hf1 o.dst DV.undef) h; exact ⟨φ2, fr2, S2, fv2, H2, g1, g2, g3, fun its q hm => .Gg hw (g4 its q hm)⟩
end
end
end
end Go.Proofs.YtdbkoeefnodejaaGreat.Ev
namespace Go.Proofs.YtdbkoeefnodejaaGreat.Ev
noncomputable section
noncomputable section
open Go
theorem hJ (p : Nat -> Bool) : ∀ (rs : List dk) (k x : Nat), hidden (dT p rs k) x = true ↔ ∃ j r, rs[j]? = some r /\ p (k + j) = false /\ r.n0 <= x /\ x < r.n1 := by
 intro rs
 induction rs with
 | nil => intro k x; simp [dT, hidden]
 | cons r rs ih =>
  intro k x; have hcons : (∃ j r', (r :: rs)[j]? = some r' /\ p (k + j) = false /\ r'.n0 <= x /\ x < r'.n1) ↔ (p k = false /\ r.n0 <= x /\ x < r.n1) \/ ∃ j r', rs[j]? = some r' /\ p (k + 1 + j) = false /\ r'.n0 <= x /\ x < r'.n1 := by
   constructor
   · rintro ⟨j, r', h1, h2, h3, h4⟩
     cases j with
     | zero => simp at h1; subst h1; exact .inl ⟨by simpa using h2, h3, h4⟩
     | succ j => exact .inr ⟨j, r', by simpa using h1, by rw [show k + 1 + j = k + (j + 1) by omega]; exact h2, h3, h4⟩
   · rintro (⟨h1, h2, h3⟩ | ⟨j, r', h1, h2, h3, h4⟩)
     · exact ⟨0, r, by simp, by simpa using h1, h2, h3⟩
     · exact ⟨j + 1, r', by simpa using h1, by rw [show k + (j + 1) = k + 1 + j by omega]; exact h2, h3, h4⟩
  rw [hcons]; unfold dT; cases hp : p k with
  | true => simp only [if_true]; rw [ih]; simp
  | false =>
   simp only [Bool.false_eq_true, if_false, hidden, Bool.or_eq_true, Bool.and_eq_true, decide_eq_true_eq]; rw [ih]; simp
theorem nE (p : Nat -> Bool) : ∀ (rs : List dk) (k : Nat) (l : List (Nat × Nat)), dT p rs k ++ l ≠ []
 | [], _, _ => by simp [dT]
 | r :: rs, k, l => by
  unfold dT
  split
  · exact nE p rs _ l
  · simp
section
variable {R : Type} {P : Program} {L : List FuncId} {O : bh} {T : ou} {A : Array Nat}
def SR (rs : List dk) (j id : Nat) : Prop := ∃ r, rs[j]? = some r /\ r.n0 <= id /\ id < r.n1
def ER (rs : List Rec) (j x : Nat) : Prop := ∃ r, rs[j]? = some r /\ r.h0.size <= x /\ x < r.h1.size
def kindOk : Kd -> Kd -> Prop
 | .cg, .quiet => True
 | .cg, .cg => True
 | .quiet, .quiet => True
 | .pure, .pure => True
 | .load, .load => True
 | _, _ => False
def calm (rs : List dk) (i k y : Nat) : Prop := ∀ (j : Nat) (c : dk), i <= j -> j <= k -> rs[j]? = some c -> c.kind = .cg -> Du c y = true
structure RI (P : Program) (A : Array Nat) (base : Nat) (φ : Phi) (S : ag) (H : ae) (rsS : List dk) (rsE : List Rec) : Prop where
 sim : Sim φ S H
 len : rsS.length = rsE.length
 ban : ∀ x, base <= x -> φ.ban x
 Kh : ∀ id B x, S.get id = some B -> φ id = some (some x) -> x < base \/ ∃ j m, SR rsS j id /\ ER rsE m x /\ (m = j \/ aL A j m = true)
 esz : ∀ (j : Nat) (r : Rec), rsE[j]? = some r -> base <= r.h0.size /\ r.h0.size <= r.h1.size /\ r.h1.size <= H.size
 F2 : ∀ (j j' : Nat) (r r' : Rec), j < j' -> rsE[j]? = some r -> rsE[j']? = some r' -> r.h1.size <= r'.h0.size
 ssz : ∀ (j : Nat) (r : dk), rsS[j]? = some r -> r.n0 <= S.size /\ r.n1 <= S.size
 KG : base <= H.size
 kinds : ∀ (j : Nat) (a : dk) (b : Rec), rsS[j]? = some a -> rsE[j]? = some b -> kindOk a.kind b.kind
 GX : ∀ (i : Nat) (a : dk) (b : Rec), rsS[i]? = some a -> rsE[i]? = some b -> a.kind = .load -> ∃ t p, b.ld = some (t, p) /\ (qy a.v = true -> eqv b.v b.v = true) /\
  ∀ y, a.ld = some y -> ∃ x0 o, p = .pointer (some ⟨x0, o, none⟩) /\ φ y = some (some x0) /\ (calm rsS i rsS.length y -> (∃ B, S.get y = some B) /\ bJ P H t p = some b.v) /\
   ∀ (k : Nat) (d : Rec), i < k -> rsE[k]? = some d -> calm rsS i k y -> bJ P d.h1 t p = some b.v
 res : ∀ (i : Nat) (a : dk) (b : Rec) (t : TypeId) (p : SV), rsS[i]? = some a -> rsE[i]? = some b -> a.re = some (t, p) -> ∃ pv, b.ld = some (t, pv) /\ DV φ H (Own φ S) p pv /\ DV φ H (Own φ S) a.v b.v
 back : ∀ (j : Nat) (c : dk) (d : Rec), rsS[j]? = some c -> rsE[j]? = some d -> ∀ y B x0, S.get y = some B -> φ y = some (some x0) -> y < c.n0 -> calm rsS j rsS.length y -> d.h0.get x0 = H.get x0
 KK : ∀ (i : Nat) (a : dk) (b : Rec), rsS[i]? = some a -> rsE[i]? = some b -> a.kind = .load -> ∀ y, a.ld = some y -> ∀ (j : Nat) (c : dk) (d : Rec), j < i -> rsS[j]? = some c -> rsE[j]? = some d -> y < c.n0 -> calm rsS j i y ->
  ∃ t p, b.ld = some (t, p) /\ bJ P (Ev.ca d.h0 (aL A i) (rsE.take j)) t p = some b.v
 oks : ∀ (j : Nat) (c : dk) (d : Rec), rsS[j]? = some c -> rsE[j]? = some d -> ∀ i ∈ c.ok, i < j /\ ∃ b t pv v, rsE[i]? = some b /\ b.ld = some (t, pv) /\ bJ P d.h1 t pv = some v /\ eqv b.v v = true
variable {base : Nat} {φ : Phi} {S : ag} {H : ae} {rsS : List dk} {rsE : List Rec}
def rA (A : Array Nat) (n : Nat) : Prop := ∀ i j m, i < n -> j < n -> aL A i j = true -> aL A j m = true -> aL A i m = true
theorem AS {n : Nat} (h : qL A n = true) : rA A n := by
 intro i j m hi hj h1 h2; unfold qL at h; rw [List.all_eq_true] at h; have h := h i (List.mem_range.2 hi); rw [List.all_eq_true] at h; have h := h j (List.mem_range.2 hj); rw [h1] at h; simp only [Bool.not_true, Bool.false_or, beq_iff_eq] at h; unfold aL at h2 ⊢; rw [<- h, Nat.testBit_or, h2, Bool.or_true]
def Phi.kj (φ : Phi) (S : ag) : Phi := ⟨φ.m, Own φ S⟩
theorem RI.IN (I : RI P A base φ S H rsS rsE) (p : Nat -> Bool) {x : Nat} (hx : x < base \/ H.size <= x) : hidden (cM p rsE 0) x = false := by
 cases hh : hidden (cM p rsE 0) x with
 | false => rfl
 | true =>
  obtain ⟨j, r, h1, _, h2, h3⟩ := (dH p rsE 0 x).1 hh; have := I.esz j r h1; omega
theorem RI.No (I : RI P A base φ S H rsS rsE) (p : Nat -> Bool) {id : Nat} (hx : S.size <= id) : hidden (dT p rsS 0) id = false := by
 cases hh : hidden (dT p rsS 0) id with
 | false => rfl
 | true =>
  obtain ⟨j, r, h1, _, h2, h3⟩ := (hJ p rsS 0 id).1 hh; have := I.ssz j r h1; omega
theorem sk : ∀ {l : List (Nat × Nat)} {x : Nat}, hidden l x = true -> ∃ p ∈ l, p.1 <= x /\ x < p.2
 | [], x, h => by cases h
 | (a, b) :: l, x, h => by
  simp only [hidden, Bool.or_eq_true, Bool.and_eq_true, decide_eq_true_eq] at h; rcases h with h | h
  · exact ⟨(a, b), by simp, h⟩
  · obtain ⟨p, h1, h2⟩ := sk h; exact ⟨p, List.mem_cons_of_mem _ h1, h2⟩
theorem Fq {S : ag} {fr : List SV} {o : Oper} {id : Nat} (h : S.size <= id) : hidden (ph S fr o) id = false := by
 cases hh : hidden (ph S fr o) id with
 | false => rfl
 | true =>
  obtain ⟨p, h1, h2, h3⟩ := sk hh; unfold ph at h1
  split at h1
  · split at h1
    · unfold On at h1; obtain ⟨k, hk, hk2⟩ := List.mem_filterMap.1 h1; have hk := List.mem_range.1 hk
      split at hk2
      · cases hk2
      · cases hk2; have h3 : id < k + 1 := h3; omega
    · cases h1
  · cases h1
theorem qq {K : ae} {p : Nat -> Bool} {rs : List Rec} {x : Nat} {c : Blk} (h : K.get x = some c) (hh : hidden (cM p rs 0) x = false) : (ca K p rs).get x = some c := by
 obtain ⟨h1, h2⟩ := ae.aI h; unfold ae.get; rw [if_pos (show x < (ca K p rs).size by have : x < K.size := ae.aT h; exact this), show hidden (ca K p rs).hid x = false by
  show hidden (cM p rs 0 ++ K.hid) x = false; rw [eI, hh, h2]; rfl]
 exact h1
theorem zB {p : Nat -> Bool} {rs : List Rec} {j x : Nat} (h : hidden (cM p rs 0) x = false) : hidden (cM p (rs.take j) 0) x = false := by
 cases hh : hidden (cM p (rs.take j) 0) x with
 | false => rfl
 | true =>
  obtain ⟨k, r, h1, h2, h3⟩ := (dH p _ 0 x).1 hh; rw [List.getElem?_take] at h1
  split at h1
  · rw [(dH p rs 0 x).2 ⟨k, r, h1, h2, h3⟩] at h; cases h
  · cases h1
theorem RI.seen (I : RI P A base φ S H rsS rsE) {i n : Nat} (hn : rA A n) (hi : i < n) (hlen : rsS.length <= n) {id x : Nat} {B : aJ} (hB : S.get id = some B) (hv : hidden (dT (aL A i) rsS 0) id = false) (hx : φ id = some (some x)) :
 hidden (cM (aL A i) rsE 0) x = false := by
 rcases I.Kh id B x hB hx with h | ⟨j, m, ⟨a, h1, h2, h3⟩, ⟨b, h4, h5, h6⟩, hjm⟩
 · exact I.IN _ (.inl h)
 · cases hh : hidden (cM (aL A i) rsE 0) x with
   | false => rfl
   | true =>
    exfalso; obtain ⟨j', r, g1, g2, g3, g4⟩ := (dH _ rsE 0 x).1 hh; rw [Nat.zero_add] at g2; have hm : j' = m := by
     rcases Nat.lt_trichotomy j' m with h | h | h
     · have := I.F2 j' m r b h g1 h4; omega
     · exact h
     · have := I.F2 m j' b r h h4 g1; omega
    subst hm; have hpj : aL A i j = true := by
     cases hp : aL A i j with
     | true => rfl
     | false =>
      have := (hJ (aL A i) rsS 0 id).2 ⟨j, a, h1, by rw [Nat.zero_add]; exact hp, h2, h3⟩; rw [this] at hv; cases hv
    have hj : j < n := by
     have := (List.getElem?_eq_some_iff.1 h1).1; omega
    rcases hjm with rfl | hjm
    · rw [hpj] at g2; cases g2
    · rw [hn i j j' hi hj hpj hjm] at g2; cases g2
theorem gd {a b : List (Nat × Nat)} {x : Nat} (h1 : hidden a x = false) (h2 : hidden b x = false) : hidden (a ++ b) x = false := by rw [eI, h1, h2]; rfl
theorem eY {a b : List (Nat × Nat)} {x : Nat} (h : hidden (a ++ b) x = false) : hidden a x = false /\ hidden b x = false := by
 rw [eI, Bool.or_eq_false_iff] at h; exact h
theorem ae.dC {H : ae} {k : Nat} (h1 : k < H.size) (h2 : hidden H.hid k = false) : H.get k = H.root.get k := by
 unfold ae.get; rw [if_pos h1, h2]; rfl
theorem RI.lF (I : RI P A base φ S H rsS rsE) (p : Nat -> Bool) {x : Nat} {c : Blk} (h : H.get x = some c) (hh : hidden (cM p rsE 0) x = false) : (ca H p rsE).get x = some c := by
 obtain ⟨h1, h2⟩ := ae.aI h; exact (ae.dC (H := ca H p rsE) (show x < H.size from ae.aT h) (gd hh h2)).trans h1
theorem jI {p : Nat -> Bool} {x : Nat} {c : Blk} (h : (ca H p rsE).get x = some c) : H.get x = some c /\ hidden (cM p rsE 0) x = false := by
 obtain ⟨h1, h2⟩ := ae.aI h; obtain ⟨h3, h4⟩ := eY h2; have hlt : x < H.size := ae.aT (H := ca H p rsE) h; exact ⟨(ae.dC (H := H) hlt h4).trans h1, h3⟩
theorem bs {M : List (Nat × Nat)} {id : Nat} {B : aJ} (h : (eK S M).get id = some B) : S.get id = some B /\ hidden M id = false := by
 obtain ⟨h1, h2⟩ := ag.aI h; obtain ⟨h3, h4⟩ := eY h2; have hlt : id < S.size := ag.aT (S := eK S M) h; exact ⟨(ag.dC (S := S) hlt h4).trans h1, h3⟩
theorem dK {p : Nat -> Bool} {id : Nat} {B : aJ} (h : (nY S p rsS).get id = some B) : S.get id = some B /\ hidden (dT p rsS 0) id = false := by
 obtain ⟨h1, h2⟩ := ag.aI h; obtain ⟨h3, h4⟩ := eY h2; have hlt : id < S.size := ag.aT (S := nY S p rsS) h; exact ⟨(ag.dC (S := S) hlt h4).trans h1, h3⟩
theorem RI.ca (I : RI P A base φ S H rsS rsE) {i n : Nat} (hn : rA A n) (hi : i < n) (hlen : rsS.length <= n) :
 Ext φ H (Own φ S) (φ.kj S) (ca H (aL A i) rsE) (Own (φ.kj S) (nY S (aL A i) rsS)) /\ Sim (φ.kj S) (nY S (aL A i) rsS) (ca H (aL A i) rsE) := by
 have hown : ∀ x, Own (φ.kj S) (nY S (aL A i) rsS) x -> Own φ S x := by
  rintro x (h | ⟨id, B, h1, h2⟩)
  · exact h
  · exact .inr ⟨id, B, (dK h1).1, h2⟩
 have hext : Ext φ H (Own φ S) (φ.kj S) (Ev.ca H (aL A i) rsE) (Own (φ.kj S) (nY S (aL A i) rsS)) := by
  refine ⟨fun _ _ h => h, fun x c h1 h2 => ⟨?_, fun h => h2 (hown x h)⟩, fun id x c' _ h => ⟨c', h, rfl⟩⟩; have hb : x < base := by
   rcases Nat.lt_or_ge x base with h | h
   · exact h
   · exact absurd (.inl (I.ban x h)) h2
  exact I.lF _ h1 (I.IN _ (.inl hb))
 refine ⟨hext, ⟨?_, ?_, I.sim.fresh, I.sim.lt, Nat.le_refl _, Nat.le_refl _, ?_⟩⟩
 · intro id B h; obtain ⟨h1, h2⟩ := dK h; rcases I.sim.blk id B h1 with h3 | ⟨x, c, h3, h4, h5, h6⟩
   · exact .inl h3
   · refine .inr ⟨x, c, h3, I.lF _ h4 (I.seen hn hi hlen h1 h2 h3), fun hl => ?_, h6.mono hext⟩; have : id < S.size := ag.aT h1; have : S.size <= id := hl; omega
 · intro id id' B B' x h1 h2 h3 h4; exact I.sim.inj id id' B B' x (dK h1).1 (dK h2).1 h3 h4
 · intro x hx; exact gd (I.IN _ (.inr hx)) (I.sim.eO x hx)
theorem RI.Ob (I : RI P A base φ S H rsS rsE) (M : List (Nat × Nat)) :
 Ext φ H (Own φ S) (φ.kj S) H (Own (φ.kj S) (eK S M)) /\ Sim (φ.kj S) (eK S M) H := by
 have hown : ∀ x, Own (φ.kj S) (eK S M) x -> Own φ S x := by
  rintro x (h | ⟨id, B, h1, h2⟩)
  · exact h
  · exact .inr ⟨id, B, (bs h1).1, h2⟩
 have hext : Ext φ H (Own φ S) (φ.kj S) H (Own (φ.kj S) (eK S M)) :=
  ⟨fun _ _ h => h, fun x c h1 h2 => ⟨h1, fun h => h2 (hown x h)⟩, fun id x c' _ h => ⟨c', h, rfl⟩⟩
 refine ⟨hext, ⟨?_, ?_, I.sim.fresh, I.sim.lt, I.sim.ft, I.sim.cC, I.sim.eO⟩⟩
 · intro id B h; rcases I.sim.blk id B (bs h).1 with h3 | ⟨x, c, h3, h4, h5, h6⟩
   · exact .inl h3
   · exact .inr ⟨x, c, h3, h4, h5, h6.mono hext⟩
 · intro id id' B B' x h1 h2 h3 h4; exact I.sim.inj id id' B B' x (bs h1).1 (bs h2).1 h3 h4
theorem Sim.at {S' : ag} {φ' : Phi} (hS : Sim φ S H) (hle : ∀ id y, φ id = some y -> φ' id = some y) {id x : Nat} {B : aJ} (hB : S.get id = some B) (h : φ' id = some (some x)) : φ id = some (some x) := by
 rcases hS.blk id B hB with ⟨h1, _⟩ | ⟨y, c, h1, _⟩
 · rw [hle _ _ h1] at h; cases h
 · rw [hle _ _ h1] at h; rw [h1]; exact h
theorem RI.bR (I : RI P A base φ S H rsS rsE) {i : Nat} {φ1 : Phi} {S1 : ag} {H1 : ae} (hst : Step (φ.kj S) (nY S (aL A i) rsS) (Ev.ca H (aL A i) rsE) φ1 S1 H1) (hfr : Fr (Ev.ca H (aL A i) rsE) H1) :
 Step φ S H ⟨φ1.m, φ.ban⟩ (bx S S1) (Ev.bR H H1) /\ (∀ s v, DV φ1 H1 (Own φ1 S1) s v -> DV ⟨φ1.m, φ.ban⟩ (Ev.bR H H1) (Own ⟨φ1.m, φ.ban⟩ (bx S S1)) s v) /\
 (∀ x, x < H.size -> (Ev.bR H H1).get x = H.get x) /\
 (∀ id B x, (bx S S1).get id = some B -> φ1 id = some (some x) -> (id < S.size /\ S.get id = some B /\ φ id = some (some x)) \/ (S.size <= id /\ id < S1.size /\ H.size <= x /\ x < H1.size)) /\
 (∀ id, id < S.size -> (bx S S1).get id = S.get id) := by
 have hHs : H.size <= H1.size := hst.dj; have hSs : S.size <= S1.size := hst.ssize; have hE1 : ∀ x, x < H.size -> (Ev.bR H H1).get x = H.get x := by
  intro x hx; unfold ae.get; rw [if_pos (show x < (Ev.bR H H1).size from Nat.lt_of_lt_of_le hx hHs), if_pos hx]; show (if hidden H.hid x = true then none else H1.root.get x) = _; rw [hfr.root x hx hx]; rfl
 have hH1hid : H1.hid = cM (aL A i) rsE 0 ++ H.hid := hst.eO; have hS1hid : S1.hid = dT (aL A i) rsS 0 ++ S.hid := hst.uS; have hE2 : ∀ x, H.size <= x -> (Ev.bR H H1).get x = H1.get x := by
  intro x hx; unfold ae.get; have e1 := I.sim.eO x hx; have e2 : hidden H1.hid x = false := by rw [hH1hid]; exact gd (I.IN _ (.inr hx)) e1
  show (if x < H1.size then (if hidden H.hid x = true then none else H1.root.get x) else none) = _; rw [e1, e2]
 have hE3 : ∀ x c, H1.get x = some c -> (Ev.bR H H1).get x = some c := by
  intro x c h; obtain ⟨h1, h2⟩ := ae.aI h; rw [hH1hid] at h2; exact (ae.dC (H := Ev.bR H H1) (show x < H1.size from ae.aT h) (eY h2).2).trans h1
 have hS1 : ∀ id, id < S.size -> (bx S S1).get id = S.get id := by
  intro id hid; unfold ag.get; rw [if_pos (show id < (bx S S1).size from Nat.lt_of_lt_of_le hid hSs), if_pos hid]; show (if hidden S.hid id = true then none else S1.root.get id) = _; rw [hst.lK id hid (.inl hid)]; rfl
 have hS2 : ∀ id B, S.size <= id -> (bx S S1).get id = some B -> S1.get id = some B := by
  intro id B hid h; obtain ⟨h1, h2⟩ := ag.aI h; exact (ag.dC (S := S1) (show id < S1.size from ag.aT (S := bx S S1) h) (by rw [hS1hid]; exact gd (I.No _ hid) h2)).trans h1
 have hle : ∀ id y, φ id = some y -> φ1 id = some y := hst.le; have hnew : ∀ id B x, S.size <= id -> S1.get id = some B -> φ1 id = some (some x) -> H.size <= x /\ x < H1.size := by
  intro id B x h1 h2 h3; rcases hst.sim.blk id B h2 with ⟨h4, _⟩ | ⟨y, c, h4, h5, h6, _⟩
  · rw [h3] at h4; cases h4
  · rw [h3] at h4; cases h4; refine ⟨?_, ae.aT h5⟩; have := h6 (by rw [hst.ft]; exact h1); rw [hst.cC] at this; exact this
 have hold : ∀ id B x, S.get id = some B -> φ1 id = some (some x) -> φ id = some (some x) := fun id B x h1 h2 => Sim.at (S' := S) (φ' := φ1) I.sim hle h1 h2
 have hbanv : φ1.ban = Own φ S := hst.ban
 let φ' : Phi := ⟨φ1.m, φ.ban⟩
 have hownI : ∀ x, dq φ' (bx S S1) x -> dq φ S x \/ dq φ1 S1 x /\ H.size <= x := by
  rintro x ⟨id, B, h1, h2⟩
  by_cases hid : id < S.size
  · rw [hS1 id hid] at h1; exact .inl ⟨id, B, h1, hold id B x h1 h2⟩
  · have h3 := hS2 id B (by omega) h1; exact .inr ⟨⟨id, B, h3, h2⟩, (hnew id B x (by omega) h3 h2).1⟩
 have hext : Ext φ H (Own φ S) φ' (Ev.bR H H1) (Own φ' (bx S S1)) := by
  refine ⟨hle, fun x c h1 h2 => ?_, fun id x c' h1 h2 => ?_⟩
  · have hlt := ae.aT h1; refine ⟨by rw [hE1 x hlt]; exact h1, ?_⟩
    rintro (h | h)
    · exact h2 (.inl h)
    · rcases hownI x h with h | ⟨_, h⟩
      · exact h2 (.inr h)
      · omega
  · have hlt := I.sim.lt id x h1; refine ⟨c', ?_, rfl⟩; have := hfr.root x hlt hlt; exact this.symm.trans h2
 have hext1 : Ext φ1 H1 (Own φ1 S1) φ' (Ev.bR H H1) (Own φ' (bx S S1)) := by
  refine ⟨fun _ _ h => h, fun x c h1 h2 => ⟨hE3 x c h1, ?_⟩, fun id x c' _ h => ⟨c', h, rfl⟩⟩
  rintro (h | h)
  · exact h2 (.inl (by rw [hbanv]; exact .inl h))
  · rcases hownI x h with h | ⟨h, _⟩
    · exact h2 (.inl (by rw [hbanv]; exact .inr h))
    · exact h2 (.inr h)
 refine ⟨⟨⟨?_, ?_, ?_, ?_, ?_, ?_, ?_⟩, hle, rfl, ?_, fun x hx _ => hE1 x hx, ?_, hHs, rfl, rfl, hSs, rfl, rfl, ?_⟩, fun s v h => h.mono hext1, hE1, ?_, hS1⟩
 · intro id B h
   by_cases hid : id < S.size
   · rw [hS1 id hid] at h; rcases I.sim.blk id B h with h3 | ⟨x, c, h3, h4, h5, h6⟩
     · exact .inl ⟨hle _ _ h3.1, h3.2⟩
     · exact .inr ⟨x, c, hle _ _ h3, by rw [hE1 x (ae.aT h4)]; exact h4, h5, h6.mono hext⟩
   · have h1 := hS2 id B (by omega) h; rcases hst.sim.blk id B h1 with h3 | ⟨x, c, h3, h4, h5, h6⟩
     · exact .inl h3
     · refine .inr ⟨x, c, h3, hE3 x c h4, fun _ => ?_, h6.mono hext1⟩; have := (hnew id B x (by omega) h1 h3).1; exact Nat.le_trans I.sim.cC this
 · intro id id' B B' x h1 h2 h3 h4
   by_cases hid : id < S.size
   · rw [hS1 id hid] at h1; have g1 := hold id B x h1 h3
     by_cases hid' : id' < S.size
     · rw [hS1 id' hid'] at h2; exact I.sim.inj id id' B B' x h1 h2 g1 (hold id' B' x h2 h4)
     · have := (hnew id' B' x (by omega) (hS2 id' B' (by omega) h2) h4).1; have := I.sim.lt id x g1; omega
   · have g1 := hS2 id B (by omega) h1
     by_cases hid' : id' < S.size
     · rw [hS1 id' hid'] at h2; have := (hnew id B x (by omega) g1 h3).1; have := I.sim.lt id' x (hold id' B' x h2 h4); omega
     · exact hst.sim.inj id id' B B' x g1 (hS2 id' B' (by omega) h2) h3 h4
 · exact hst.sim.fresh
 · exact hst.sim.lt
 · exact Nat.le_trans I.sim.ft hSs
 · exact Nat.le_trans I.sim.cC hHs
 · intro x hx; exact I.sim.eO x (Nat.le_trans hHs hx)
 · intro x hx h; rcases hownI x h with h | ⟨_, h⟩
   · exact h
   · omega
 · intro x c' hx h; exact ⟨c', (hfr.root x hx hx).symm.trans h, rfl⟩
 · intro id h1 _; exact hst.lK id h1 (.inl h1)
 · intro id B x h1 h2
   by_cases hid : id < S.size
   · rw [hS1 id hid] at h1; exact .inl ⟨hid, h1, hold id B x h1 h2⟩
   · have g1 := hS2 id B (by omega) h1; obtain ⟨g2, g3⟩ := hnew id B x (by omega) g1 h2; exact .inr ⟨by omega, ag.aT g1, g2, g3⟩
theorem RI.EH (I : RI P A base φ S H rsS rsE) {M : List (Nat × Nat)} (hM : ∀ id, S.size <= id -> hidden M id = false) {φ1 : Phi} {S1 : ag} {H1 : ae} (hst : Step (φ.kj S) (eK S M) H φ1 S1 H1) :
 Step φ S H ⟨φ1.m, φ.ban⟩ (bx S S1) H1 /\ (∀ s v, DV φ1 H1 (Own φ1 S1) s v -> DV ⟨φ1.m, φ.ban⟩ H1 (Own ⟨φ1.m, φ.ban⟩ (bx S S1)) s v) /\
 (∀ id B x, (bx S S1).get id = some B -> φ1 id = some (some x) -> (id < S.size /\ (∃ B, S.get id = some B) /\ φ id = some (some x)) \/
  (S.size <= id /\ id < S1.size /\ ((H.size <= x /\ x < H1.size) \/ ∃ id0 B0, S.get id0 = some B0 /\ hidden (M) id0 = false /\ φ id0 = some (some x)))) := by
 have hSs : S.size <= S1.size := hst.ssize; have hS1hid : S1.hid = M ++ S.hid := hst.uS; have hle : ∀ id y, φ id = some y -> φ1 id = some y := hst.le; have hbanv : φ1.ban = Own φ S := hst.ban; have hold : ∀ id B x, S.get id = some B -> φ1 id = some (some x) -> φ id = some (some x) := fun id B x h1 h2 => Sim.at (S' := S) (φ' := φ1) I.sim hle h1 h2
 have hcase : ∀ id B, (bx S S1).get id = some B -> (id < S.size /\ hidden (M) id = true /\ S.get id = some B) \/ (hidden (M) id = false /\ S1.get id = some B) := by
  intro id B h; obtain ⟨h1, h2⟩ := ag.aI h; have h1 : S1.root.get id = some B := h1; have h2 : hidden S.hid id = false := h2; have hlt : id < S1.size := ag.aT (S := bx S S1) h; cases hm : hidden (M) id with
  | false => exact .inr ⟨rfl, (ag.dC (S := S1) hlt (by rw [hS1hid]; exact gd hm h2)).trans h1⟩
  | true =>
   have hid : id < S.size := by
    rcases Nat.lt_or_ge id S.size with h | h
    · exact h
    · rw [hM id h] at hm; cases hm
   refine .inl ⟨hid, rfl, ?_⟩; have hn : (eK S M).get id = none := by
    cases hg : (eK S M).get id with
    | none => rfl
    | some C => rw [(bs hg).2] at hm; cases hm
   have := hst.lK id hid (.inr hn); rw [ag.dC hid h2]; exact this.symm.trans h1
 have hseen : ∀ id B, id < S.size -> hidden (M) id = false -> S1.get id = some B -> ∃ C, S.get id = some C := by
  intro id B h1 h2 h3; cases hg : (eK S M).get id with
  | some C => exact ⟨C, (bs hg).1⟩
  | none =>
   have e := hst.lK id h1 (.inr hg); rw [ag.Dh hg h1 hst.uS e] at h3; cases h3
 let φ' : Phi := ⟨φ1.m, φ.ban⟩
 have hownI : ∀ x, dq φ' (bx S S1) x -> dq φ S x \/ dq φ1 S1 x := by
  rintro x ⟨id, B, h1, h2⟩
  rcases hcase id B h1 with ⟨_, _, h⟩ | ⟨_, h⟩
  · exact .inl ⟨id, B, h, hold id B x h h2⟩
  · exact .inr ⟨id, B, h, h2⟩
 have hhidden : ∀ id B x, S.get id = some B -> hidden (M) id = true -> φ id = some (some x) -> ¬ dq (φ.kj S) (eK S M) x := by
  rintro id B x h1 h2 h3 ⟨id', B', h4, h5⟩
  obtain ⟨h6, h7⟩ := bs h4; have := I.sim.inj id id' B B' x h1 h6 h3 h5; subst this; rw [h7] at h2; cases h2
 have hsub : ∀ x, dq (φ.kj S) (eK S M) x -> dq φ S x := fun x ⟨id, B, h1, h2⟩ => ⟨id, B, (bs h1).1, h2⟩
 have hsubW : ∀ x, lP (φ.kj S) (eK S M) x -> lP φ S x := fun x ⟨id, B, h0, h1, h2⟩ => ⟨id, B, h0, (bs h1).1, h2⟩
 have hext : Ext φ H (Own φ S) φ' H1 (Own φ' (bx S S1)) := by
  refine ⟨hle, fun x c h1 h2 => ?_, fun id x c' h1 h2 => hst.len x c' (I.sim.lt id x h1) h2⟩; have hlt := ae.aT h1; refine ⟨by rw [hst.et x hlt (fun h => h2 (.inr (hsub x h.toI)))]; exact h1, ?_⟩
  rintro (h | h)
  · exact h2 (.inl h)
  · rcases hownI x h with h | h
    · exact h2 (.inr h)
    · exact h2 (.inr (hsub x (hst.own x hlt h)))
 have hext1 : Ext φ1 H1 (Own φ1 S1) φ' H1 (Own φ' (bx S S1)) := by
  refine ⟨fun _ _ h => h, fun x c h1 h2 => ⟨h1, ?_⟩, fun id x c' _ h => ⟨c', h, rfl⟩⟩
  rintro (h | h)
  · exact h2 (.inl (by rw [hbanv]; exact .inl h))
  · rcases hownI x h with h | h
    · exact h2 (.inl (by rw [hbanv]; exact .inr h))
    · exact h2 (.inr h)
 refine ⟨⟨⟨?_, ?_, hst.sim.fresh, hst.sim.lt, Nat.le_trans I.sim.ft hSs, hst.sim.cC, hst.sim.eO⟩, hle, rfl, ?_, fun x hx h => hst.et x hx (fun h' => h (hsubW x h')), hst.len, hst.dj, hst.cC, hst.eO, hSs, rfl, rfl, ?_⟩, fun s v h => h.mono hext1, ?_⟩
 · intro id B h; rcases hcase id B h with ⟨hid, hm, h1⟩ | ⟨hm, h1⟩
   · rcases I.sim.blk id B h1 with h3 | ⟨x, c, h3, h4, h5, h6⟩
     · exact .inl ⟨hle _ _ h3.1, h3.2⟩
     · exact .inr ⟨x, c, hle _ _ h3, by rw [hst.et x (ae.aT h4) (fun h => hhidden id B x h1 hm h3 h.toI)]; exact h4, by rw [hst.cC]; exact h5, h6.mono hext⟩
   · rcases hst.sim.blk id B h1 with h3 | ⟨x, c, h3, h4, h5, h6⟩
     · exact .inl h3
     · exact .inr ⟨x, c, h3, h4, fun hl => h5 (by rw [hst.ft]; exact hl), h6.mono hext1⟩
 · intro id id' B B' x h1 h2 h3 h4; have mix : ∀ id id' B B', S.get id = some B -> hidden (M) id = true -> φ1 id = some (some x) -> S1.get id' = some B' -> φ1 id' = some (some x) -> False := by
    intro id id' B B' g1 g2 g3 g4 g5; have g6 := hold id B x g1 g3; exact hhidden id B x g1 g2 g6 (hst.own x (I.sim.lt id x g6) ⟨id', B', g4, g5⟩)
   rcases hcase id B h1 with ⟨hid, hm, g1⟩ | ⟨hm, g1⟩
   · rcases hcase id' B' h2 with ⟨hid', hm', g2⟩ | ⟨hm', g2⟩
     · exact I.sim.inj id id' B B' x g1 g2 (hold id B x g1 h3) (hold id' B' x g2 h4)
     · exact (mix id id' B B' g1 hm h3 g2 h4).elim
   · rcases hcase id' B' h2 with ⟨hid', hm', g2⟩ | ⟨hm', g2⟩
     · exact (mix id' id B' B g2 hm' h4 g1 h3).elim
     · exact hst.sim.inj id id' B B' x g1 g2 h3 h4
 · intro x hx h; rcases hownI x h with h | h
   · exact h
   · exact hsub x (hst.own x hx h)
 · intro id h1 h2; refine hst.lK id h1 ?_
   rcases h2 with h2 | h2
   · exact .inl h2
   · refine .inr ?_
     cases hg : (eK S M).get id with
     | none => rfl
     | some C => rw [(bs hg).1] at h2; cases h2
 · intro id B x h1 h2; rcases hcase id B h1 with ⟨hid, hm, g1⟩ | ⟨hm, g1⟩
   · exact .inl ⟨hid, ⟨B, g1⟩, hold id B x g1 h2⟩
   · by_cases hid : id < S.size
     · obtain ⟨C, g2⟩ := hseen id B hid hm g1; exact .inl ⟨hid, ⟨C, g2⟩, hold id C x g2 h2⟩
     · refine .inr ⟨by omega, ag.aT g1, ?_⟩; have hlt := hst.sim.lt id x h2
       by_cases hx : x < H.size
       · obtain ⟨id0, B0, g3, g4⟩ := hst.own x hx ⟨id, B, g1, h2⟩; obtain ⟨g5, g6⟩ := bs g3; exact .inr ⟨id0, B0, g5, g6, g4⟩
       · exact .inl ⟨by omega, hlt⟩
end
end
end
end Go.Proofs.YtdbkoeefnodejaaGreat.Ev
namespace Go.Proofs.YtdbkoeefnodejaaGreat.Ev
noncomputable section
noncomputable section
open Go
section
variable {R : Type} {P : Program} {L : List FuncId} {O : bh} {T : ou} {A : Array Nat} {base : Nat} {φ : Phi} {S : ag} {H : ae} {rsS : List dk} {rsE : List Rec}
theorem pH {H H' : ae} {t : TypeId} {x0 o : Nat} (h : H'.get x0 = H.get x0) : bJ P H' t (.pointer (some ⟨x0, o, none⟩)) = bJ P H t (.pointer (some ⟨x0, o, none⟩)) := by
 unfold bJ bS; simp only [h]
theorem SR.ext {j id : Nat} {a : dk} (h : SR rsS j id) : SR (rsS ++ [a]) j id := by
 obtain ⟨r, h1, h2, h3⟩ := h; exact ⟨r, by rw [List.getElem?_append_left (List.getElem?_eq_some_iff.1 h1).1]; exact h1, h2, h3⟩
theorem ER.ext {j x : Nat} {b : Rec} (h : ER rsE j x) : ER (rsE ++ [b]) j x := by
 obtain ⟨r, h1, h2, h3⟩ := h; exact ⟨r, by rw [List.getElem?_append_left (List.getElem?_eq_some_iff.1 h1).1]; exact h1, h2, h3⟩
theorem bm {α : Type} {l : List α} {a x : α} {j : Nat} (h : (l ++ [a])[j]? = some x) : (j < l.length /\ l[j]? = some x) \/ (j = l.length /\ x = a) := by
 rw [List.getElem?_append] at h
 split at h
 · rename_i hj; exact .inl ⟨hj, h⟩
 · rename_i hj; have hlt := (List.getElem?_eq_some_iff.1 h).1; have : j = l.length := by simp at hlt; omega
   subst this; simp at h; exact .inr ⟨rfl, h.symm⟩
theorem RI.add (I : RI P A base φ S H rsS rsE) {φ' : Phi} {S' : ag} {H' : ae} {a : dk} {b : Rec} (hst : Step φ S H φ' S' H') (hb0 : b.h0 = H) (hb1 : b.h1 = H') (ha0 : a.n0 = S.size) (ha1 : a.n1 = S'.size) (hk : kindOk a.kind b.kind)
 (hcorr : ∀ id B x, S'.get id = some B -> φ' id = some (some x) -> (id < S.size /\ (∃ B, S.get id = some B) /\ φ id = some (some x)) \/
  (S.size <= id /\ id < S'.size /\ ((H.size <= x /\ x < H'.size) \/ x < base \/ ∃ m, ER rsE m x /\ aL A rsS.length m = true)))
 (hld : a.kind = .load -> ∃ t p, b.ld = some (t, p) /\ (qy a.v = true -> eqv b.v b.v = true) /\ ∀ y, a.ld = some y -> ∃ x0 o, p = .pointer (some ⟨x0, o, none⟩) /\ φ' y = some (some x0) /\ (∃ B, S'.get y = some B) /\ bJ P H' t p = some b.v)
 (hstill : ∀ y B x0, S.get y = some B -> φ y = some (some x0) -> (a.kind = .cg -> Du a y = true) -> (∃ B', S'.get y = some B') /\ H'.get x0 = H.get x0)
 (hre : ∀ t p, a.re = some (t, p) -> ∃ pv, b.ld = some (t, pv) /\ DV φ' H' (Own φ' S') p pv /\ DV φ' H' (Own φ' S') a.v b.v) (hok : ∀ i ∈ a.ok, ∃ b' t pv v, rsE[i]? = some b' /\ b'.ld = some (t, pv) /\ bJ P b.h1 t pv = some v /\ eqv b'.v v = true)
 (hlate : a.kind = .load -> ∀ y, a.ld = some y -> ∀ (j : Nat) (c : dk) (d : Rec), rsS[j]? = some c -> rsE[j]? = some d -> y < c.n0 -> calm rsS j rsS.length y -> ∃ t p, b.ld = some (t, p) /\ bJ P (Ev.ca d.h0 (aL A rsS.length) (rsE.take j)) t p = some b.v) :
 RI P A base φ' S' H' (rsS ++ [a]) (rsE ++ [b]) := by
 have hl := I.len; have hext' := hst.ext I.sim; have hres : ∀ (i : Nat) (x : dk) (y : Rec) (t : TypeId) (p : SV), (rsS ++ [a])[i]? = some x -> (rsE ++ [b])[i]? = some y -> x.re = some (t, p) -> ∃ pv, y.ld = some (t, pv) /\ DV φ' H' (Own φ' S') p pv /\ DV φ' H' (Own φ' S') x.v y.v := by
  intro i x y t p h1 h2 h3; rcases bm h1 with ⟨g1, h1⟩ | ⟨g1, rfl⟩
  · rcases bm h2 with ⟨_, h2⟩ | ⟨g2, _⟩
    · obtain ⟨pv, q1, q2, q3⟩ := I.res i x y t p h1 h2 h3; exact ⟨pv, q1, q2.mono hext', q3.mono hext'⟩
    · omega
  · rcases bm h2 with ⟨g2, _⟩ | ⟨_, rfl⟩
    · omega
    · exact hre t p h3
 have hoks : ∀ (j : Nat) (c : dk) (d : Rec), (rsS ++ [a])[j]? = some c -> (rsE ++ [b])[j]? = some d -> ∀ i ∈ c.ok, i < j /\ ∃ b' t pv v, (rsE ++ [b])[i]? = some b' /\ b'.ld = some (t, pv) /\ bJ P d.h1 t pv = some v /\ eqv b'.v v = true := by
  intro j c d h1 h2 i hi; have up : ∀ b', rsE[i]? = some b' -> i < rsE.length /\ (rsE ++ [b])[i]? = some b' := fun b' h => by
   have hlt := (List.getElem?_eq_some_iff.1 h).1; exact ⟨hlt, by rw [List.getElem?_append_left hlt]; exact h⟩
  rcases bm h1 with ⟨g1, h1⟩ | ⟨g1, rfl⟩
  · rcases bm h2 with ⟨_, h2⟩ | ⟨g2, _⟩
    · obtain ⟨q0, b', t, pv, v, q1, q2⟩ := I.oks j c d h1 h2 i hi; exact ⟨q0, b', t, pv, v, (up b' q1).2, q2⟩
    · omega
  · rcases bm h2 with ⟨g2, _⟩ | ⟨_, rfl⟩
    · omega
    · obtain ⟨b', t, pv, v, q1, q2⟩ := hok i hi; exact ⟨by have := (up b' q1).1; omega, b', t, pv, v, (up b' q1).2, q2⟩
 have hback : ∀ (j : Nat) (c : dk) (d : Rec), (rsS ++ [a])[j]? = some c -> (rsE ++ [b])[j]? = some d -> ∀ y B x0, S'.get y = some B -> φ' y = some (some x0) -> y < c.n0 -> calm (rsS ++ [a]) j (rsS ++ [a]).length y -> d.h0.get x0 = H'.get x0 := by
  intro j c d h1 h2 y B x0 hB hx hy hc; have hj : j <= rsS.length := by
   have := (List.getElem?_eq_some_iff.1 h1).1; simp at this; omega
  have hold : y < S.size -> (∃ B0, S.get y = some B0) /\ φ y = some (some x0) := by
   intro hlt; rcases hcorr y B x0 hB hx with ⟨_, g2, g3⟩ | ⟨g1, _⟩
   · exact ⟨g2, g3⟩
   · omega
  have hnow : y < S.size -> H'.get x0 = H.get x0 := by
   intro hlt; obtain ⟨⟨B0, g1⟩, g2⟩ := hold hlt; exact (hstill y B0 x0 g1 g2 (fun hl2 => hc rsS.length a hj (by simp) (by simp) hl2)).2
  rcases bm h1 with ⟨g1, h1⟩ | ⟨g1, rfl⟩
  · rcases bm h2 with ⟨_, h2⟩ | ⟨g2, _⟩
    · have hs := I.ssz j c h1; have hlt : y < S.size := by omega
      obtain ⟨⟨B0, g3⟩, g4⟩ := hold hlt; rw [hnow hlt]; exact I.back j c d h1 h2 y B0 x0 g3 g4 hy (fun m q e1 e2 e3 e4 => hc m q e1 (by simp; omega) (by rw [List.getElem?_append_left (List.getElem?_eq_some_iff.1 e3).1]; exact e3) e4)
    · omega
  · rcases bm h2 with ⟨g2, _⟩ | ⟨_, rfl⟩
    · omega
    · rw [hb0]; exact (hnow (by rw [<- ha0]; exact hy)).symm
 have hlates : ∀ (i : Nat) (x : dk) (y : Rec), (rsS ++ [a])[i]? = some x -> (rsE ++ [b])[i]? = some y -> x.kind = .load -> ∀ z, x.ld = some z -> ∀ (j : Nat) (c : dk) (d : Rec), j < i -> (rsS ++ [a])[j]? = some c -> (rsE ++ [b])[j]? = some d -> z < c.n0 -> calm (rsS ++ [a]) j i z ->
  ∃ t p, y.ld = some (t, p) /\ bJ P (Ev.ca d.h0 (aL A i) ((rsE ++ [b]).take j)) t p = some y.v := by
  intro i x y h1 h2 hk2 z hz j c d hji h3 h4 hlt hc; have hi : i <= rsS.length := by
   have := (List.getElem?_eq_some_iff.1 h1).1; simp at this; omega
  have tk : (rsE ++ [b]).take j = rsE.take j := List.take_append_of_le_length (by omega); rw [tk]; have h5 : rsS[j]? = some c := by
   rcases bm h3 with ⟨_, h⟩ | ⟨h, _⟩
   · exact h
   · omega
  have h6 : rsE[j]? = some d := by
   rcases bm h4 with ⟨_, h⟩ | ⟨h, _⟩
   · exact h
   · omega
  have hc' : ∀ k, k <= i -> calm rsS j k z := fun k hk m q e1 e2 e3 e4 => hc m q e1 (by omega) (by rw [List.getElem?_append_left (List.getElem?_eq_some_iff.1 e3).1]; exact e3) e4
  rcases bm h1 with ⟨g1, h1⟩ | ⟨g1, rfl⟩
  · rcases bm h2 with ⟨_, h2⟩ | ⟨g2, _⟩
    · exact I.KK i x y h1 h2 hk2 z hz j c d hji h5 h6 hlt (hc' i (Nat.le_refl _))
    · omega
  · rcases bm h2 with ⟨g2, _⟩ | ⟨_, rfl⟩
    · omega
    · subst g1; exact hlate hk2 z hz j c d h5 h6 hlt (hc' _ (Nat.le_refl _))
 refine ⟨hst.sim, by simp [hl], fun x hx => by rw [hst.ban]; exact I.ban x hx, ?_, ?_, ?_, ?_, Nat.le_trans I.KG hst.dj, ?_, ?_, hres, hback, hlates, hoks⟩
 · intro id B x h1 h2; rcases hcorr id B x h1 h2 with ⟨_, ⟨B0, g2⟩, g3⟩ | ⟨g1, g2, g3⟩
   · rcases I.Kh id B0 x g2 g3 with h | ⟨j, m, h3, h4, h5⟩
     · exact .inl h
     · exact .inr ⟨j, m, h3.ext, h4.ext, h5⟩
   · have hnew : SR (rsS ++ [a]) rsS.length id := ⟨a, by simp, by rw [ha0]; exact g1, by rw [ha1]; exact g2⟩
     rcases g3 with g3 | g3 | ⟨m, g3, g4⟩
     · exact .inr ⟨rsS.length, rsS.length, hnew, ⟨b, by rw [hl]; simp, by rw [hb0]; exact g3.1, by rw [hb1]; exact g3.2⟩, .inl rfl⟩
     · exact .inl g3
     · exact .inr ⟨rsS.length, m, hnew, g3.ext, .inr g4⟩
 · intro j r h; rcases bm h with ⟨_, h⟩ | ⟨_, rfl⟩
   · obtain ⟨h1, h2, h3⟩ := I.esz j r h; exact ⟨h1, h2, Nat.le_trans h3 hst.dj⟩
   · rw [hb0, hb1]; exact ⟨I.KG, hst.dj, Nat.le_refl _⟩
 · intro j j' r r' hjj h h'; rcases bm h' with ⟨hlt, h'⟩ | ⟨_, rfl⟩
   · rcases bm h with ⟨_, h⟩ | ⟨h0, _⟩
     · exact I.F2 j j' r r' hjj h h'
     · omega
   · rcases bm h with ⟨_, h⟩ | ⟨h0, _⟩
     · rw [hb0]; exact (I.esz j r h).2.2
     · omega
 · intro j r h; rcases bm h with ⟨_, h⟩ | ⟨_, rfl⟩
   · exact ⟨Nat.le_trans (I.ssz j r h).1 hst.ssize, Nat.le_trans (I.ssz j r h).2 hst.ssize⟩
   · exact ⟨by rw [ha0]; exact hst.ssize, by rw [ha1]; exact Nat.le_refl _⟩
 · intro j x y h1 h2; rcases bm h1 with ⟨g1, h1⟩ | ⟨g1, rfl⟩
   · rcases bm h2 with ⟨_, h2⟩ | ⟨g2, _⟩
     · exact I.kinds j x y h1 h2
     · omega
   · rcases bm h2 with ⟨g2, _⟩ | ⟨_, rfl⟩
     · omega
     · exact hk
 · intro i x y h1 h2 hkl; rcases bm h1 with ⟨g1, h1⟩ | ⟨g1, rfl⟩
   · rcases bm h2 with ⟨_, h2⟩ | ⟨g2, _⟩
     · obtain ⟨t, p, e1, e2, e3⟩ := I.GX i x y h1 h2 hkl; refine ⟨t, p, e1, e2, fun z hz => ?_⟩; obtain ⟨x0, o, rfl, e4, e5, e6⟩ := e3 z hz; have key : calm (rsS ++ [a]) i rsS.length z -> (∃ B, S'.get z = some B) /\ bJ P H' t (.pointer (some ⟨x0, o, none⟩)) = some y.v := by
        intro hc; have hc' : calm rsS i rsS.length z := fun j c h1 h2 h3 h4 => hc j c h1 h2 (by rw [List.getElem?_append_left (List.getElem?_eq_some_iff.1 h3).1]; exact h3) h4
        obtain ⟨⟨B, f1⟩, f2⟩ := e5 hc'; obtain ⟨f3, f4⟩ := hstill z B x0 f1 e4 (fun hl => hc rsS.length a (by omega) (Nat.le_refl _) (by simp) hl); exact ⟨f3, by rw [pH f4]; exact f2⟩
       refine ⟨x0, o, rfl, hst.le _ _ e4, fun hc => key (fun j c h1 h2 h3 h4 => hc j c h1 (by simp; omega) h3 h4), fun k d hik hd hc => ?_⟩; rcases bm hd with ⟨f1, hd⟩ | ⟨f1, rfl⟩
       · exact e6 k d hik hd (fun j c h1 h2 h3 h4 => hc j c h1 h2 (by rw [List.getElem?_append_left (List.getElem?_eq_some_iff.1 h3).1]; exact h3) h4)
       · rw [hb1]; exact (key (fun j c h1 h2 h3 h4 => hc j c h1 (by omega) h3 h4)).2
     · omega
   · rcases bm h2 with ⟨g2, _⟩ | ⟨_, rfl⟩
     · omega
     · obtain ⟨t, p, e1, e2, e3⟩ := hld hkl; refine ⟨t, p, e1, e2, fun z hz => ?_⟩; obtain ⟨x0, o, e4, e5, e6, e7⟩ := e3 z hz; refine ⟨x0, o, e4, e5, fun _ => ⟨e6, e7⟩, fun k d hik hd _ => ?_⟩; have := (List.getElem?_eq_some_iff.1 hd).1; simp at this; omega
theorem RI.same (I : RI P A base φ S H rsS rsE) {a : dk} {b : Rec} (hb0 : b.h0 = H) (hb1 : b.h1 = H) (ha0 : a.n0 = S.size) (ha1 : a.n1 = S.size) (hk : kindOk a.kind b.kind) (hnl : a.kind ≠ .cg)
 (hld : a.kind = .load -> ∃ t p, b.ld = some (t, p) /\ (qy a.v = true -> eqv b.v b.v = true) /\ ∀ y, a.ld = some y -> ∃ x0 o, p = .pointer (some ⟨x0, o, none⟩) /\ φ y = some (some x0) /\ (∃ B, S.get y = some B) /\ bJ P H t p = some b.v)
 (hre : ∀ t p, a.re = some (t, p) -> ∃ pv, b.ld = some (t, pv) /\ DV φ H (Own φ S) p pv /\ DV φ H (Own φ S) a.v b.v) (hok : a.ok = [])
 (hlate : a.kind = .load -> ∀ y, a.ld = some y -> ∀ (j : Nat) (c : dk) (d : Rec), rsS[j]? = some c -> rsE[j]? = some d -> y < c.n0 -> calm rsS j rsS.length y -> ∃ t p, b.ld = some (t, p) /\ bJ P (Ev.ca d.h0 (aL A rsS.length) (rsE.take j)) t p = some b.v) :
 RI P A base φ S H (rsS ++ [a]) (rsE ++ [b]) :=
 I.add (Step.refl I.sim) hb0 hb1 ha0 ha1 hk (fun id B x h1 h2 => .inl ⟨ag.aT h1, ⟨B, h1⟩, h2⟩) hld (fun y B x0 h1 _ _ => ⟨⟨B, h1⟩, rfl⟩) hre (fun i hi => by rw [hok] at hi; cases hi) hlate
theorem Ek {own : Nat -> Prop} {s : SV} {v : Value} (hv : DV φ H own s v) (h : Ap s = true) : eqc v v = true := by
 cases hv <;> simp_all [Ap, eqc]
theorem vb : ∀ {vs : List Value}, (∀ v ∈ vs, eqc v v = true) -> uO vs vs = true
 | [], _ => rfl
 | v :: vs, h => by
  simp only [uO, Bool.and_eq_true]; exact ⟨h v (by simp), vb (fun u hu => h u (by simp [hu]))⟩
theorem GY {own : Nat -> Prop} {s : SV} {v : Value} (hv : DV φ H own s v) (h : qy s = true) : eqv v v = true := by
 cases hv with
 | agg l x' hx vx =>
  simp only [qy, List.all_eq_true] at h; simp only [eqv]; refine vb fun u hu => ?_
  obtain ⟨i, hi⟩ := List.getElem?_of_mem hu; have hlt : i < l.length := by
   have := (List.getElem?_eq_some_iff.1 hi).1; simp at this; omega
  have h1 := List.getElem?_eq_getElem hlt; exact Ek (vx i _ u h1 (by simpa using hi)) (h _ (List.mem_of_getElem? h1))
 | _ => simp_all [qy, Ap, eqv, eqc]
theorem Aa {own : Nat -> Prop} {p : SV} {v : Value} {y : Nat} (hp : DV φ H own p v) (h : mu p = some y) : ∃ x0 o, v = .pointer (some ⟨x0, o, none⟩) /\ φ y = some (some x0) := by
 unfold mu at h
 split at h
 · cases h; cases hp with
   | ptr _ _ _ _ x hx => exact ⟨x, _, rfl, hx⟩
 · cases h
theorem tC {t : TypeId} {p : SV} {k : SV -> Option R} {r : R} {y : Nat} (h : qw P S t p k = some r) (hy : mu p = some y) : ∃ B, S.get y = some B := by
 unfold mu at hy
 split at hy
 · cases hy; unfold qw at h
   split at h
   · unfold Cr at h; simp only at h
     split at h
     · exact ⟨_, by assumption⟩
     · exact ⟨_, by assumption⟩
     · exact ⟨_, by assumption⟩
     · cases h
   · cases h
 · cases hy
theorem uT {p : Nat -> Bool} {t u : TypeId} {s x v : Value} {H2 : ae} (h : dA P (ca H p rsE) t u s x = some (v, H2)) : dA P H t u s x = some (v, bR H H2) := by
 have hc : ∀ b off n cs, bS (ca H p rsE) b off n = some cs -> bS H b off n = some cs := by
  intro b off n cs hg; unfold bS at hg ⊢; cases hb : (ca H p rsE).get b with
  | none => simp [hb] at hg
  | some q => rw [(jI hb).1]; simpa [hb] using hg
 have hs : ∀ size n x cs, aN (ca H p rsE) size n x = some cs -> aN H size n x = some cs := by
  intro size n x cs h; unfold aN at h ⊢
  split at h
  · exact h
  · exact hc _ _ _ _ h
  · cases h
 have hset : ∀ b off vs H', cO (ca H p rsE) b off vs = some H' -> False := by
  intro b off vs H' h; unfold cO at h
  split at h
  · rename_i k hk; have hlt : b < H.size := ae.aT (H := ca H p rsE) hk
    split at h
    · rename_i hm; simp only [Bool.and_eq_true, aG] at hm; have : H.size <= b := hm.1.1; omega
    · cases h
  · cases h
 unfold dA at h ⊢
 split at h
 · rename_i htu; rw [if_pos htu]
   split at h
   · rename_i elem base sLen sCap a n c hu
     try simp only [hu]
     split at h
     · rename_i i hi
       try simp only [hi]
       split at h
       · rename_i z hz
         try simp only [hz]
         split at h
         · rename_i zc new hzc hnew
           try simp only [hzc, hs _ _ _ _ hnew]
           split at h
           · rename_i hcond; rw [if_pos hcond]
             split at h
             · cases h; rfl
             · split at h
               · cases h; rfl
               · rename_i b off sp
                 split at h
                 · rename_i hd; simp only [Option.map_eq_some_iff] at h; obtain ⟨H', h1, _⟩ := h; exact (hset _ _ _ _ h1).elim
                 · rename_i hd
                   try simp only [hd]
                   split at h
                   · rename_i old hold
                     try simp only [hs _ _ _ _ hold]
                     split at h
                     · split at h
                       · rename_i k hk; have hlt : b < H.size := ae.aT (H := ca H p rsE) hk
                         split at h
                         · rename_i hm; simp only [Bool.and_eq_true, aG] at hm; have : H.size <= b := hm.1.1.1.1; omega
                         · cases h
                       · cases h
                     · cases h; rfl
                   · cases h
           · cases h
         · cases h
       · cases h
     · cases h
   · cases h
 · cases h
theorem nS {p : Nat -> Bool} {cl : Cl} {ρ : Operand -> Option Value} {o : Oper} (ha : gE o = true) {v : Value} {H2 : ae} (h : opE P cl ρ o (ca H p rsE) = some (v, H2)) : opE P cl ρ o H = some (v, bR H H2) := by
 unfold gE at ha
 split at ha
 · rename_i c hc; unfold opE at h ⊢; rw [hc] at h ⊢
   split at ha
   · rename_i hb
     try simp only [hb] at h ⊢
     split at h
     · rename_i args hargs
       try simp only [fA] at h ⊢
       split at h
       · exact uT h
       · cases h
     · cases h
   · cases ha
 · cases ha
theorem pF {own : Nat -> Prop} {a b : SV} {u v : Value} {x : Option R} {r : R} (ha : DV φ H own a u) (hb : DV φ H own b v) (h : Dc a b x = some r) : x = some r /\ eqc u v = true := by
 unfold Dc at h
 split at h
 · split at h
   · rename_i n k' m bb hk; cases ha; cases hb
     by_cases e : n = m
     · subst e; rw [decide_eq_true rfl, cond_true] at h; exact ⟨h, by simp only [eqc, hk, Bool.true_and, beq_self_eq_true]⟩
     · rw [decide_eq_false e, cond_false] at h; cases h
   · cases h
 · cases ha; cases hb; rename_i x y; cases x <;> cases y <;> simp at h <;> exact ⟨h, rfl⟩
 · cases h
theorem pI {own : Nat -> Prop} : ∀ {l m : List SV} {us vs : List Value} {x : Option R} {r : R}, us.length = l.length -> (∀ (i : Nat) s u, l[i]? = some s -> us[i]? = some u -> DV φ H own s u) -> vs.length = m.length -> (∀ (i : Nat) s v, m[i]? = some s -> vs[i]? = some v -> DV φ H own s v) -> vD l m x = some r -> x = some r /\ uO us vs = true
 | [], [], us, vs, x, r, h1, _, h2, _, h => by
  rw [List.eq_nil_of_length_eq_zero h1, List.eq_nil_of_length_eq_zero h2]; exact ⟨h, rfl⟩
 | a :: l, b :: m, u :: us, v :: vs, x, r, h1, g1, h2, g2, h => by
  unfold vD at h; obtain ⟨h3, h4⟩ := pF (g1 0 a u rfl rfl) (g2 0 b v rfl rfl) h; obtain ⟨h5, h6⟩ := pI (by simpa using h1) (fun i s w e1 e2 => g1 (i + 1) s w e1 e2) (by simpa using h2) (fun i s w e1 e2 => g2 (i + 1) s w e1 e2) h3; exact ⟨h5, by simp only [uO, h4, h6, Bool.and_self]⟩
 | [], _ :: _, _, _, _, _, _, _, _, _, h => by simp [vD] at h
 | _ :: _, [], _, _, _, _, _, _, _, _, h => by simp [vD] at h
 | _ :: _, _ :: _, [], _, _, _, h1, _, _, _, _ => by simp at h1
 | _ :: _, _ :: _, _ :: _, [], _, _, _, _, h2, _, _ => by simp at h2
theorem GC {u v : Value} (h : eqc u v = true) : eqv u v = true := by
 unfold eqv
 split
 · simp [eqc] at h
 · exact h
theorem y4 {own : Nat -> Prop} {a b : SV} {u v : Value} {x : Option R} {r : R} (ha : DV φ H own a u) (hb : DV φ H own b v) (h : F0 a b x = some r) : x = some r /\ eqv u v = true := by
 unfold F0 at h
 split at h
 · split at h
   · cases ha with
     | agg l x1 hx vx =>
     cases hb with
     | agg m x2 hy vy =>
     exact pI (by simpa using hx.symm) (fun i s u e1 e2 => vx i s u e1 (by simpa using e2)) (by simpa using hy.symm) (fun i s u e1 e2 => vy i s u e1 (by simpa using e2)) h
   · cases h
 · obtain ⟨h1, h2⟩ := pF ha hb h; exact ⟨h1, GC h2⟩
theorem ma {φ' : Phi} {S' : ag} {H' : ae} (I : RI P A base φ S H rsS rsE) (he : Ext φ H (Own φ S) φ' H' (Own φ' S')) (hS : Sim φ' S' H') {j : Nat} : ∀ {l : List dk} {i : Nat} {k : List Nat -> Option R} {r : R}, l = rsS.drop i -> reS P S' A j l i k = some r ->
 ∃ oks, k oks = some r /\ ∀ m ∈ oks, ∃ b t pv v, rsE[m]? = some b /\ b.ld = some (t, pv) /\ bJ P H' t pv = some v /\ eqv b.v v = true
 | [], i, k, r, _, h => ⟨[], h, fun m hm => by cases hm⟩
 | a :: l, i, k, r, hl, h => by
  have ha : rsS[i]? = some a := by
   have : (rsS.drop i)[0]? = some a := by rw [<- hl]; rfl
   rwa [List.getElem?_drop, Nat.add_zero] at this
  have hl' : l = rsS.drop (i + 1) := by rw [<- List.drop_drop, <- hl]; rfl
  unfold reS at h
  split at h
  · rename_i t p hre
    split at h
    · exact ma I he hS hl' h
    · have hi : i < rsE.length := by rw [<- I.len]; exact (List.getElem?_eq_some_iff.1 ha).1
      obtain ⟨pv, q1, q2, q3⟩ := I.res i a _ t p ha (List.getElem?_eq_getElem hi) hre; obtain ⟨s, u, g1, g2, g3⟩ := iP hS (q2.mono he) h; obtain ⟨h5, h6⟩ := y4 (q3.mono he) g2 g3; obtain ⟨oks, h7, h8⟩ := ma I he hS hl' h5; refine ⟨i :: oks, h7, fun m hm => ?_⟩; rcases List.mem_cons.1 hm with rfl | hm
      · exact ⟨_, t, pv, u, List.getElem?_eq_getElem hi, q1, g1, h6⟩
      · exact h8 m hm
  · exact ma I he hS hl' h
theorem DN {φ' : Phi} {S' : ag} {H' : ae} (I : RI P A base φ S H rsS rsE) (he : Ext φ H (Own φ S) φ' H' (Own φ' S')) (hS : Sim φ' S' H') {j : Nat} {o : Oper} {k : List Nat -> Option R} {r : R} (h : reL P S' A j o rsS k = some r) :
 ∃ oks, k oks = some r /\ ∀ m ∈ oks, ∃ b t pv v, rsE[m]? = some b /\ b.ld = some (t, pv) /\ bJ P H' t pv = some v /\ eqv b.v v = true := by
 unfold reL at h
 split at h
 · exact ⟨[], h, fun m hm => by cases hm⟩
 · exact ma I he hS (by simp) h
theorem pT {cx : oa R} (hT : dg P L O T) (hcx : mg P L O cx) {ops : Array Oper} (htr : rA A ops.size) : ∀ {l : List Oper} {i : Nat} {fr : List SV} {S : ag} {rsS : List dk} {k : SSt -> Option R} {r : R} {φ : Phi} {H : ae} {rsE : List Rec} {fv : List Value},
 kC P L T cx ops A l i ⟨fr, S⟩ rsS k = some r -> RI P A base φ S H rsS rsE -> DVL φ H (Own φ S) fr fv -> rsS.length = i -> i + l.length = ops.size ->
 ∃ φ' fr' S' fv' H' rsS' rsE', k ⟨fr', S'⟩ = some r /\ RI P A base φ' S' H' rsS' rsE' /\ Step φ S H φ' S' H' /\ DVL φ' H' (Own φ' S') fr' fv' /\ uz A (dO ops) rsS' = true /\
  ∃ N, dS P L (bj P L O N) ops A l i ⟨fv, H⟩ rsE = some (⟨fv', H'⟩, rsE')
 | [], i, fr, S, rsS, k, r, φ, H, rsE, fv, h, I, hf, hi, hn => by
  unfold kC at h
  split at h
  · rename_i hl; exact ⟨φ, fr, S, fv, H, rsS, rsE, h, I, Step.refl I.sim, hf, hl, 0, rfl⟩
  · cases h
 | o :: l, i, fr, S, rsS, k, r, φ, H, rsE, fv, h, I, hf, hi, hn => by
  unfold kC at h; have hilt : i < ops.size := by simp at hn; omega
  have hlen : rsS.length <= ops.size := by omega
  have step : ∀ {φ1 : Phi} {fr1 : List SV} {S1 : ag} {H1 : ae} {fv1 : List Value} {a : dk} {b : Rec}, RI P A base φ1 S1 H1 (rsS ++ [a]) (rsE ++ [b]) -> Step φ S H φ1 S1 H1 -> DVL φ1 H1 (Own φ1 S1) fr1 fv1 ->
   (∃ N, dr P L (bj P L O N) ops A i o ⟨fv, H⟩ rsE = some b) -> b.h1 = H1 -> fv1 = fu fv o.dst b.v -> kC P L T cx ops A l (i + 1) ⟨fr1, S1⟩ (rsS ++ [a]) k = some r ->
   ∃ φ' fr' S' fv' H' rsS' rsE', k ⟨fr', S'⟩ = some r /\ RI P A base φ' S' H' rsS' rsE' /\ Step φ S H φ' S' H' /\ DVL φ' H' (Own φ' S') fr' fv' /\ uz A (dO ops) rsS' = true /\
    ∃ N, dS P L (bj P L O N) ops A (o :: l) i ⟨fv, H⟩ rsE = some (⟨fv', H'⟩, rsE') := by
   rintro φ1 fr1 S1 H1 fv1 a b I1 hst hf1 ⟨N, hrec⟩ rfl rfl hd
   obtain ⟨φ', fr', S', fv', H', rsS', rsE', g1, g2, g3, g4, g5, M, g6⟩ := pT hT hcx htr hd I1 hf1 (by simp [hi]) (by simp at hn ⊢; omega); refine ⟨φ', fr', S', fv', H', rsS', rsE', g1, g2, hst.trans g3, g4, g5, max N M, ?_⟩; rw [dS, mN (cv (Nat.le_max_left N M)) hrec]; exact hG (cv (Nat.le_max_right N M)) g6
  obtain ⟨fr1, hf1, ⟨hw, h⟩ | ⟨hw, h⟩⟩ := se hf h
  · have hρ : ∀ x s, fR fr1 x = some s -> ∃ v, cy fv x = some v /\ DV φ H (Own φ S) s v := fun x s hs => gv hf1 hs
    split at h
    ·
     rename_i hk; obtain ⟨s, S1, v, H1, ⟨N, ho⟩, _, hpure, hd, _⟩ := jy (L := L) hT hcx I.sim hρ (fun hp => absurd hk hp) h; obtain ⟨rfl, hv⟩ := hpure hk; exact step (a := ⟨.pure, S1.size, S1.size, none, none, .any, none, [], []⟩) (b := ⟨.pure, v, H, H, none⟩) (I.same rfl rfl rfl rfl trivial (by simp) (fun h => by cases h) (fun _ _ h => by cases h) rfl (fun h => by cases h)) (Step.refl I.sim) (gI hf1 o.dst hv) ⟨N, by unfold dr; simp only [hw, hk, ho]⟩ rfl rfl hd
    ·
     rename_i hk
     split at h
     · rename_i t a hop
       split at h
       · rename_i p hp; obtain ⟨pv, hpv, hdp⟩ := hρ a p hp; obtain ⟨he, hs⟩ := I.ca htr hilt hlen; obtain ⟨s, u, g1, g2, g3⟩ := iP hs (hdp.mono he) h; have hfull : bJ P H t pv = some u /\ DV φ H (Own φ S) s u := by
          have hmono : bJ P H t pv = some u := by
           unfold bJ at g1 ⊢
           split at g1
           · split at g1
             · rename_i hu hinf; have hc : ∀ b off n cs, bS (Ev.ca H (aL A i) rsE) b off n = some cs -> bS H b off n = some cs := by
                intro b off n cs hg; unfold bS at hg ⊢; cases hb : (Ev.ca H (aL A i) rsE).get b with
                | none => simp [hb] at hg
                | some q => rw [(jI hb).1]; simpa [hb] using hg
               split at g1
               · rename_i ha
                 try simp only [ha]
                 simp only [Option.map_eq_some_iff] at g1 ⊢; obtain ⟨cs, c1, c2⟩ := g1; exact ⟨cs, hc _ _ _ _ c1, c2⟩
               · rename_i ha
                 try simp only [ha]
                 split at g1
                 · rename_i hcs; rw [hc _ _ _ _ hcs]; exact g1
                 · cases g1
             · cases g1
           · cases g1
          refine ⟨hmono, DV.mono (φ := φ.kj S) (φ' := φ) (H' := H) (own' := Own φ S) ⟨fun _ _ h => h, fun x c h1 h2 => ⟨(jI h1).1, fun h3 => h2 (.inl h3)⟩, fun id x c' _ h => ⟨c', h, rfl⟩⟩ g2⟩
         have hlate : ∀ y, mu p = some y -> ∀ (j : Nat) (c : dk) (d : Rec), rsS[j]? = some c -> rsE[j]? = some d -> y < c.n0 -> calm rsS j rsS.length y -> ∃ t' p', some (t, pv) = some (t', p') /\ bJ P (Ev.ca d.h0 (aL A rsS.length) (rsE.take j)) t' p' = some u := by
          intro y hy j c d hc hd hlt hcalm; obtain ⟨x0, o', e1, e2⟩ := Aa hdp hy; obtain ⟨B, hB⟩ := tC h hy; obtain ⟨hB1, hB2⟩ := dK hB; have hv := I.seen htr hilt hlen hB1 hB2 e2; have hbk := I.back j c d hc hd y B x0 hB1 e2 hlt hcalm; refine ⟨t, pv, rfl, ?_⟩; subst e1; rw [pH (H := Ev.ca H (aL A i) rsE) ?_]
          · exact g1
          · rcases I.sim.blk y B hB1 with ⟨q1, _⟩ | ⟨x1, cc, q1, q2, _⟩
            · rw [e2] at q1; cases q1
            · rw [e2] at q1; cases q1; rw [qq q2 hv, hi]; exact qq (by rw [hbk]; exact q2) (zB hv)
         exact step (a := ⟨.load, S.size, S.size, mu p, none, s, some (t, p), [], []⟩) (b := ⟨.load, u, H, H, some (t, pv)⟩) (I.same rfl rfl rfl rfl trivial (by simp) (fun _ => ⟨t, pv, rfl, fun hself => GY hfull.2 hself, fun y hy => by
          obtain ⟨x0, o, e1, e2⟩ := Aa hdp hy; refine ⟨x0, o, e1, e2, ?_, hfull.1⟩; obtain ⟨B, hB⟩ := tC h hy; exact ⟨B, (dK hB).1⟩⟩) (fun t' p' h => by cases h; exact ⟨pv, rfl, hdp, hfull.2⟩) rfl (fun _ y hy j c d hc hd hlt hcalm => hlate y hy j c d hc hd hlt hcalm)) (Step.refl I.sim) (gI hf1 o.dst hfull.2) ⟨0, by unfold dr; simp only [hw, hk, hop, hpv, g1]⟩ rfl rfl g3
       · cases h
     · cases h
    ·
     rename_i hk
     split at h
     · obtain ⟨he, hs⟩ := I.ca htr hilt hlen; obtain ⟨s, S1, v, H1, ⟨N, ho⟩, ⟨φ1, hst, hv⟩, _, hd, _⟩ := jy (L := L) hT hcx hs (fun x s hs => by
        obtain ⟨v, h1, h2⟩ := hρ x s hs; exact ⟨v, h1, h2.mono he⟩) (fun _ e => absurd e (nE _ _ _ _)) h
       have hfr := lL (yS N) ho; obtain ⟨u1, u2, u3, u4, u5⟩ := I.bR hst hfr; have hext := u1.ext I.sim; refine step (φ1 := ⟨φ1.m, φ.ban⟩) (S1 := bx S S1) (H1 := Ev.bR H H1) (a := ⟨.quiet, S.size, S1.size, none, none, .any, none, [], []⟩) (b := ⟨.quiet, v, H, Ev.bR H H1, none⟩) ?_ u1 (gI (hf1.mono hext) o.dst (u2 s v hv)) ⟨N, by unfold dr; simp only [hw, hk, ho]⟩ rfl rfl hd; refine I.add u1 rfl rfl rfl rfl trivial (fun id B x h1 h2 => ?_) (fun h => by cases h) (fun y B x0 h1 h2 _ => ⟨⟨B, by rw [u5 y (ag.aT h1)]; exact h1⟩, u3 x0 (I.sim.lt y x0 h2)⟩) (fun _ _ h => by cases h) (fun _ h => by cases h) (fun h => by cases h); rcases u4 id B x h1 h2 with ⟨g1, g2, g3⟩ | ⟨g1, g2, g3, g4⟩
       · exact .inl ⟨g1, ⟨B, g2⟩, g3⟩
       · exact .inr ⟨g1, g2, .inl ⟨g3, g4⟩⟩
     ·
      rename_i hq; obtain ⟨he, hs⟩ := I.Ob (dT (aL A i) rsS 0); obtain ⟨s, S1, v, H1, ⟨N, ho⟩, ⟨φ1, hst, hv⟩, _, hd, _⟩ := jy (L := L) hT hcx hs (fun x s hs => by
       obtain ⟨v, h1, h2⟩ := hρ x s hs; exact ⟨v, h1, h2.mono he⟩) (fun _ e => absurd e (nE _ _ _ _)) h
      obtain ⟨u1, u2, u3⟩ := I.EH (fun id h => I.No _ h) hst; have hext := u1.ext I.sim; have happ : gE o = true := by
       unfold GO at hq
       split at hq
       · rename_i c hc
         split at hq
         · rename_i hb _; unfold gE; rw [hc]; simp only [hb]
         · cases hq
       · cases hq
      have hrec : ∃ b : Rec, (∃ N, dr P L (bj P L O N) ops A i o ⟨fv, H⟩ rsE = some b) /\ b.h0 = H /\ b.h1 = H1 /\ b.v = v /\ kindOk .cg b.kind := by
       cases hv2 : opE P (bj P L O N) (cy fv) o (Ev.ca H (aL A i) rsE) with
       | none => exact ⟨⟨.cg, v, H, H1, none⟩, ⟨N, by unfold dr; simp only [hw, hk, hv2, happ, if_true, ho]⟩, rfl, rfl, rfl, trivial⟩
       | some q =>
        obtain ⟨v2, H2⟩ := q; have := nS happ hv2; rw [ho] at this; cases this; exact ⟨⟨.quiet, v, H, Ev.bR H H2, none⟩, ⟨N, by unfold dr; simp only [hw, hk, hv2]⟩, rfl, rfl, rfl, trivial⟩
      obtain ⟨b, hrec, hb0, hb1, hbv, hbk⟩ := hrec; refine step (φ1 := ⟨φ1.m, φ.ban⟩) (S1 := bx S S1) (H1 := H1) (a := ⟨.cg, S.size, S1.size, none, none, .any, none, [], []⟩) (b := b) ?_ u1 (gI (hf1.mono hext) o.dst (u2 s v hv)) hrec hb1 (by rw [hbv]) hd; refine I.add u1 hb0 hb1 rfl rfl hbk (fun id B x h1 h2 => ?_) (fun h => by cases h) (fun y B x0 h1 h2 h3 => by have h4 := h3 rfl; simp [Du, hidden] at h4) (fun _ _ h => by cases h) (fun _ h => by cases h) (fun h => by cases h); rcases u3 id B x h1 h2 with h | ⟨g1, g2, g3 | ⟨id0, B0, g3, g4, g5⟩⟩
      · exact .inl h
      · exact .inr ⟨g1, g2, .inl g3⟩
      · refine .inr ⟨g1, g2, .inr ?_⟩; rcases I.Kh id0 B0 x g3 g5 with g6 | ⟨j, m, ⟨r0, q1, q2, q3⟩, g7, g8⟩
        · exact .inl g6
        · refine .inr ⟨m, g7, ?_⟩; have hij : aL A i j = true := by
           cases hp : aL A i j with
           | true => rfl
           | false =>
            have := (hJ (aL A i) rsS 0 id0).2 ⟨j, r0, q1, by rw [Nat.zero_add]; exact hp, q2, q3⟩; rw [this] at g4; cases g4
          have hjn : j < ops.size := by
           have := (List.getElem?_eq_some_iff.1 q1).1; omega
          rw [hi]; rcases g8 with rfl | g8
          · exact hij
          · exact htr i j m hilt hjn hij g8
    ·
     rename_i hk; obtain ⟨he, hs⟩ := I.Ob (ph S fr1 o ++ dT (aL A i) rsS 0); obtain ⟨s, S1, v, H1, ⟨N, ho⟩, ⟨φ1, hst, hv⟩, _, hd, hstore⟩ := jy (L := L) hT hcx hs (fun x s hs => by
      obtain ⟨v, h1, h2⟩ := hρ x s hs; exact ⟨v, h1, h2.mono he⟩) (fun _ e => by
      have e : (ph S fr1 o ++ dT (aL A i) rsS 0) ++ S.hid = [] := e; simp only [List.append_eq_nil_iff] at e; exact (nE _ _ _ [] (by rw [List.append_nil]; exact e.1.2)).elim) h
     obtain ⟨u1, u2, u3⟩ := I.EH (fun id h => gd (Fq h) (I.No _ h)) hst; have hext := u1.ext I.sim; obtain ⟨oks, hd, hoks⟩ := DN I hext u1.sim hd; refine step (φ1 := ⟨φ1.m, φ.ban⟩) (S1 := bx S S1) (H1 := H1) (b := ⟨.cg, v, H, H1, none⟩) ?_ u1 (gI (hf1.mono hext) o.dst (u2 s v hv)) ⟨N, by unfold dr; simp only [hw, hk, ho]⟩ rfl rfl hd; refine I.add u1 rfl rfl rfl rfl trivial (fun id B x h1 h2 => ?_) (fun h => by cases h) (fun y B x0 h1 h2 h3 => ?_) (fun _ _ h => by cases h) hoks (fun h => by cases h)
     · rcases u3 id B x h1 h2 with h | ⟨g1, g2, g3 | ⟨id0, B0, g3, g4, g5⟩⟩
       · exact .inl h
       · exact .inr ⟨g1, g2, .inl g3⟩
       · refine .inr ⟨g1, g2, .inr ?_⟩; rcases I.Kh id0 B0 x g3 g5 with g6 | ⟨j, m, ⟨r0, q1, q2, q3⟩, g7, g8⟩
         · exact .inl g6
         · refine .inr ⟨m, g7, ?_⟩; have hij : aL A i j = true := by
            cases hp : aL A i j with
            | true => rfl
            | false =>
             have := (hJ (aL A i) rsS 0 id0).2 ⟨j, r0, q1, by rw [Nat.zero_add]; exact hp, q2, q3⟩; rw [(eY g4).2] at this; cases this
           have hjn : j < ops.size := by
            have := (List.getElem?_eq_some_iff.1 q1).1; omega
           rw [hi]; rcases g8 with rfl | g8
           · exact hij
           · exact htr i j m hilt hjn hij g8
     · have hfar := h3 rfl; unfold Du at hfar; rw [Bool.or_eq_true] at hfar; rcases hfar with hfar | hfar
       case inr =>
        have hnone : (eK S (ph S fr1 o ++ dT (aL A i) rsS 0)).get y = none := by
         cases hg : (eK S (ph S fr1 o ++ dT (aL A i) rsS 0)).get y with
         | none => rfl
         | some C =>
          have := (eY (bs hg).2).1; have hfar : hidden (ph S fr1 o) y = true := hfar; rw [hfar] at this; cases this
        have hno : ¬ lP (φ.kj S) (eK S (ph S fr1 o ++ dT (aL A i) rsS 0)) x0 := by
         rintro ⟨id', B', _, q2, q3⟩
         have := I.sim.inj id' y B' B x0 (bs q2).1 h1 q3 h2; subst this; rw [q2] at hnone; cases hnone
        have hroot := hst.lK y (show y < S.size from ag.aT h1) (.inr hnone); refine ⟨⟨B, ?_⟩, hst.et x0 (I.sim.lt y x0 h2) hno⟩; obtain ⟨r1, r2⟩ := ag.aI h1; exact (ag.dC (S := bx S S1) (show y < S1.size from Nat.lt_of_lt_of_le (ag.aT h1) hst.ssize) r2).trans (hroot.trans r1)
       obtain ⟨z, hz, hzy⟩ : ∃ z, (match o.op with | .store _ a _ => (match fR fr1 a with | some p => mu p | none => none) | _ => none) = some z /\ z ≠ y := by
        split at hfar
        · rename_i z hz; exact ⟨z, hz, by simpa using hfar⟩
        · cases hfar
       have hz2 : (match o.op with | .store _ a _ => (match fR fr1 a with | some p => mu p | none => none) | _ => none) = some z := hz; clear hz
       split at hz2
       · rename_i t a x hop
         split at hz2
         · rename_i p hp; obtain ⟨id, row, w, col, B', xz, rfl, rfl, g3, ⟨B0, g4⟩, g5⟩ := hstore t a x p hop hp; have hz3 : id = z := Option.some.inj hz2; subst hz3; have g6 := (bs g4).1; have hne : x0 ≠ xz := by
            rintro rfl
            exact hzy (I.sim.inj id y B0 B x0 g6 h1 g3 h2)
           refine ⟨⟨B, ?_⟩, g5 x0 hne⟩; obtain ⟨r1, r2⟩ := ag.aI h1; refine (ag.dC (S := bx S ((eK S (ph S fr1 o ++ dT (aL A i) rsS 0)).put id (some B'))) (show y < S.size from ag.aT h1) r2).trans ?_
           show ((eK S (ph S fr1 o ++ dT (aL A i) rsS 0)).put id (some B')).root.get y = some B; rw [ag.b9, if_neg (Ne.symm hzy)]; exact r1
         · cases hz2
       · cases hz2
  · exact step (a := ⟨.pure, S.size, S.size, none, none, .any, none, [], []⟩) (b := ⟨.pure, undef, H, H, none⟩) (I.same rfl rfl rfl rfl trivial (by simp) (fun h => by cases h) (fun _ _ h => by cases h) rfl (fun h => by cases h)) (Step.refl I.sim) (gI hf1 o.dst DV.undef) ⟨0, by unfold dr; simp only [hw]⟩ rfl rfl h
end
end
end
end Go.Proofs.YtdbkoeefnodejaaGreat.Ev
namespace Go.Proofs.YtdbkoeefnodejaaGreat.Ev
noncomputable section
noncomputable section
open Go
section
variable {R : Type} {P : Program} {L : List FuncId} {O : bh} {T : ou} {A : Array Nat} {base : Nat} {φ : Phi} {S : ag} {H : ae} {rsS : List dk} {rsE : List Rec}
theorem rL {B : Nat -> Bool} (I : RI P A base φ S H rsS rsE) (h : uz A B rsS = true) : l6 P A B rsE = true := by
 unfold l6; rw [List.all_eq_true]
 rintro ⟨b, i⟩ hb
 rw [List.all_eq_true]
 rintro ⟨d, j⟩ hd
 have hbi : rsE[i]? = some b := by
  have := List.mem_zipIdx_iff_getElem?.1 hb; simpa using this
 have hdj : rsE[j]? = some d := by
  have := List.mem_zipIdx_iff_getElem?.1 hd; simpa using this
 have hi : i < rsS.length := by rw [I.len]; exact (List.getElem?_eq_some_iff.1 hbi).1
 have hj : j < rsS.length := by rw [I.len]; exact (List.getElem?_eq_some_iff.1 hdj).1
 have ha := List.getElem?_eq_getElem hi; have hc := List.getElem?_eq_getElem hj; generalize rsS[i] = a at ha; generalize rsS[j] = c at hc; have k1 := I.kinds i a b ha hbi; have k2 := I.kinds j c d hc hdj; have hp : xv A B rsS i a j c = true := by
  unfold uz at h; rw [List.all_eq_true] at h; have h := h (a, i) (List.mem_zipIdx_iff_getElem?.2 (by simpa using ha)); rw [List.all_eq_true] at h; exact h (c, j) (List.mem_zipIdx_iff_getElem?.2 (by simpa using hc))
 simp only; unfold tK; cases hdk : d.kind with
 | cg =>
  have hck : c.kind = .cg := by
   rw [hdk] at k2; cases hck : c.kind <;> rw [hck] at k2 <;> first | rfl | exact k2.elim
  unfold xv at hp; rw [hck] at hp; simp only at hp ⊢; cases hbk : b.kind with
  | pure => rfl
  | load =>
   have hak : a.kind = .load := by
    rw [hbk] at k1; cases hak : a.kind <;> rw [hak] at k1 <;> first | rfl | exact k1.elim
   rw [hak] at hp; simp only [Bool.or_eq_true] at hp ⊢; rcases hp with hp | hp | (hp | hp) | hp
   · exact .inl (.inl hp)
   · exact .inl (.inr hp)
   · refine .inr ?_
     obtain ⟨hij, b', t, pv, v, e1, e2, e3, e4⟩ := I.oks j c d hc hdj i (by simpa using hp); rw [hbi] at e1; cases e1; rw [e2]; simp only; rw [if_neg (by omega), e3]; exact e4
   · refine .inr ?_
     simp only [Bool.and_eq_true, decide_eq_true_eq] at hp; obtain ⟨hij, hp⟩ := hp; obtain ⟨t, p, e1, e2, e3⟩ := I.GX i a b ha hbi hak
     split at hp
     · rename_i y hy; simp only [Bool.and_eq_true, List.all_eq_true] at hp; obtain ⟨hself, hall⟩ := hp; obtain ⟨x0, o, rfl, _, _, e6⟩ := e3 y hy; have hcalm : calm rsS i j y := by
        intro m q h1 h2 h3 h4; have hmem : q ∈ (rsS.take (j + 1)).drop i := by
         refine List.mem_of_getElem? (i := m - i) ?_
         rw [List.getElem?_drop, List.getElem?_take, if_pos (by omega), show i + (m - i) = m by omega]; exact h3
        have := hall q hmem; rw [h4] at this; exact this
       rw [e1]; simp only; rw [if_neg (by omega), e6 j d hij hdj hcalm]; exact e2 hself
     · cases hp
   · refine .inr ?_
     simp only [Bool.and_eq_true, decide_eq_true_eq] at hp; obtain ⟨hij, hp⟩ := hp
     split at hp
     · rename_i y hy; simp only [Bool.and_eq_true, List.all_eq_true, decide_eq_true_eq] at hp; obtain ⟨⟨hself, hyn⟩, hall⟩ := hp; have hcalm : calm rsS j i y := by
        intro m q h1 h2 h3 h4; have hmem : q ∈ (rsS.take (i + 1)).drop j := by
         refine List.mem_of_getElem? (i := m - j) ?_
         rw [List.getElem?_drop, List.getElem?_take, if_pos (by omega), show j + (m - j) = m by omega]; exact h3
        have := hall q hmem; rw [h4] at this; exact this
       obtain ⟨t, p, e1, e2⟩ := I.KK i a b ha hbi hak y hy j c d hij hc hdj hyn hcalm; obtain ⟨_, _, _, e3, _⟩ := I.GX i a b ha hbi hak; rw [e1]; simp only; rw [if_pos hij, e2]; exact e3 hself
     · cases hp
  | quiet =>
   have hak : a.kind = .quiet \/ a.kind = .cg := by
    rw [hbk] at k1; cases hak : a.kind <;> rw [hak] at k1 <;> first | exact .inl rfl | exact .inr rfl | exact k1.elim
   simp only; rcases hak with hak | hak <;> (rw [hak] at hp; dsimp only at hp)
   · simpa [Bool.or_assoc] using hp
   · rw [<- Bool.or_assoc] at hp; rw [hp, Bool.true_or]
  | cg =>
   have hak : a.kind = .cg := by
    rw [hbk] at k1; cases hak : a.kind <;> rw [hak] at k1 <;> first | rfl | exact k1.elim
   simp only; rw [hak] at hp; simpa [Bool.or_assoc] using hp
 | _ => rfl
theorem Step.FJ {b : Nat -> Prop} (hb : ∀ x, φ.ban x -> b x) {φ' : Phi} {S' : ag} {H' : ae} (hst : Step ⟨φ.m, b⟩ S H φ' S' H') :
 Step φ S H ⟨φ'.m, φ.ban⟩ S' H' /\ ∀ s v, DV φ' H' (Own φ' S') s v -> DV ⟨φ'.m, φ.ban⟩ H' (Own ⟨φ'.m, φ.ban⟩ S') s v := by
 have hext : Ext φ' H' (Own φ' S') ⟨φ'.m, φ.ban⟩ H' (Own ⟨φ'.m, φ.ban⟩ S') := by
  refine ⟨fun _ _ h => h, fun x c h1 h2 => ⟨h1, fun h => h2 ?_⟩, fun id x c' _ h => ⟨c', h, rfl⟩⟩; rcases h with h | h
  · exact .inl (by rw [hst.ban]; exact hb x h)
  · exact .inr h
 refine ⟨⟨⟨?_, hst.sim.inj, hst.sim.fresh, hst.sim.lt, hst.sim.ft, hst.sim.cC, hst.sim.eO⟩, hst.le, rfl, hst.own, hst.et, hst.len, hst.dj, hst.cC, hst.eO, hst.ssize, hst.ft, hst.uS, hst.lK⟩, fun s v h => h.mono hext⟩; intro id B h; rcases hst.sim.blk id B h with h3 | ⟨x, c, h3, h4, h5, h6⟩
 · exact .inl h3
 · exact .inr ⟨x, c, h3, h4, h5, h6.mono hext⟩
theorem Sim.FJ (hS : Sim φ S H) {b : Nat -> Prop} (hb : ∀ x, b x -> φ.ban x \/ H.size <= x) :
 Ext φ H (Own φ S) ⟨φ.m, b⟩ H (Own ⟨φ.m, b⟩ S) /\ Sim ⟨φ.m, b⟩ S H := by
 have hext : Ext φ H (Own φ S) ⟨φ.m, b⟩ H (Own ⟨φ.m, b⟩ S) := by
  refine ⟨fun _ _ h => h, fun x c h1 h2 => ⟨h1, fun h => ?_⟩, fun id x c' _ h => ⟨c', h, rfl⟩⟩; have hlt := ae.aT h1; rcases h with h | h
  · rcases hb x h with h | h
    · exact h2 (.inl h)
    · omega
  · exact h2 (.inr h)
 refine ⟨hext, ⟨?_, hS.inj, hS.fresh, hS.lt, hS.ft, hS.cC, hS.eO⟩⟩; intro id B h; rcases hS.blk id B h with h3 | ⟨x, c, h3, h4, h5, h6⟩
 · exact .inl h3
 · exact .inr ⟨x, c, h3, h4, h5, h6.mono hext⟩
theorem zM {cx : oa R} (hT : dg P L O T) (hcx : mg P L O cx) {ops : Array Oper} {fr : List SV} {fv : List Value} {k : SSt -> Option R} {r : R} (hS : Sim φ S H) (hf : DVL φ H (Own φ S) fr fv)
 (hst : fH ops (Region.before ops) fr.length = true) (htr : qL (Region.before ops) ops.size = true) (h : kC P L T cx ops (Region.before ops) ops.toList 0 ⟨fr, S⟩ [] k = some r) :
 ∃ φ' fr' S' fv' H', k ⟨fr', S'⟩ = some r /\ Step φ S H φ' S' H' /\ DVL φ' H' (Own φ' S') fr' fv' /\ ∃ N, ir P L (bj P L O N) ops ⟨fv, H⟩ = some ⟨fv', H'⟩ := by
 have hb : ∀ x, (φ.ban x \/ H.size <= x) -> φ.ban x \/ H.size <= x := fun _ h => h
 obtain ⟨he, hs⟩ := hS.FJ (b := fun x => φ.ban x \/ H.size <= x) hb; have I : RI P (Region.before ops) H.size ⟨φ.m, fun x => φ.ban x \/ H.size <= x⟩ S H [] [] := by
  refine ⟨hs, rfl, fun x hx => .inr hx, fun id B x _ h => .inl (hS.lt id x h), ?_, ?_, ?_, Nat.le_refl _, ?_, ?_, ?_, ?_, ?_, ?_⟩
  all_goals (intros; simp_all)
 obtain ⟨φ', fr', S', fv', H', rsS', rsE', g1, g2, g3, g4, g5, N, g6⟩ := pT hT hcx (AS htr) h I (hf.mono he) rfl (by simp); obtain ⟨h1, h2⟩ := Step.FJ (φ := φ) (b := fun x => φ.ban x \/ H.size <= x) (fun x hx => .inl hx) g3; refine ⟨⟨φ'.m, φ.ban⟩, fr', S', fv', H', g1, h1, ⟨g4.1, fun i s v a b => h2 s v (g4.2 i s v a b)⟩, N, ?_⟩; unfold ir; rw [show (⟨fv, H⟩ : St).fr.length = fr.length from hf.1.symm, hst]; simp only [g6, rL g2 g5, if_true]
theorem gA {cx : oa R} (hT : dg P L O T) (hcx : mg P L O cx) {stop : List Nat -> Bool} {body : Code} : ∀ {n : Nat} {its : List Item} {fr : List SV} {S : ag} {k : List Item -> SSt -> Option R} {r : R} {φ : Phi} {H : ae} {fv : List Value},
 eZ P L T cx stop n its ⟨fr, S⟩ k = some r -> cB body its -> NBh φ S H -> Sim φ S H -> DVL φ H (Own φ S) fr fv ->
 ∃ its' φ' fr' S' fv' H', k its' ⟨fr', S'⟩ = some r /\ cB body its' /\ Step φ S H φ' S' H' /\ DVL φ' H' (Own φ' S') fr' fv' /\ ∀ rv w, gX P L O rv its' ⟨fv', H'⟩ w -> gX P L O rv its ⟨fv, H⟩ w
 | 0, _, _, _, _, _, _, _, _, h, _, _, _, _ => by cases h
 | n + 1, its, fr, S, k, r, φ, H, fv, h, ha, hnb, hS, hf => by
  unfold eZ at h; have same : ∀ {its2 : List Item}, cB body its2 -> eZ P L T cx stop n its2 ⟨fr, S⟩ k = some r -> (∀ q, ck P L O its2 ⟨fv, H⟩ q -> ck P L O its ⟨fv, H⟩ q) ->
   ∃ its' φ' fr' S' fv' H', k its' ⟨fr', S'⟩ = some r /\ cB body its' /\ Step φ S H φ' S' H' /\ DVL φ' H' (Own φ' S') fr' fv' /\ ∀ rv w, gX P L O rv its' ⟨fv', H'⟩ w -> gX P L O rv its ⟨fv, H⟩ w := by
   intro its2 ha2 h2 hm; obtain ⟨i, φ', fr', S', fv', H', h1, h2, h3, h4, h5⟩ := gA hT hcx h2 ha2 hnb hS hf; exact ⟨i, φ', fr', S', fv', H', h1, h2, h3, h4, fun rv w hw => (h5 rv w hw).of hm⟩
  split at h
  · exact ⟨[], φ, fr, S, fv, H, h, ha, Step.refl hS, hf, fun _ _ h => h⟩
  · rename_i p c rest; have hc : nav body p = some c := by
     have := ha (.code p c) (by simp); simp only [Item.tag, Tag.item] at this; cases hn : nav body p with
     | none => rw [hn] at this; cases this
     | some c' => rw [hn] at this; cases this; rfl
    split at h
    · exact same ha.tail h (fun q => .skip)
    · exact same ha.tail h (fun q => .label)
    · rename_i id ops d
      split at h
      · obtain ⟨φ1, fr1, S1, fv1, H1, g1, g2, g3, g4⟩ := mS hT hcx hnb hS hf h; obtain ⟨i, φ', fr', S', fv', H', h1, h2, h3, h4, h5⟩ := gA hT hcx g1 ha.tail (hnb.step g2) g2.sim g3; exact ⟨i, φ', fr', S', fv', H', h1, h2, g2.trans h3, h4, fun rv w hw => (h5 rv w hw).of fun q hq => .region (g4 _ q hq)⟩
      · split at h
        · rename_i hst; simp only [Bool.and_eq_true] at hst; obtain ⟨φ1, fr1, S1, fv1, H1, g1, g2, g3, g4⟩ := zM hT hcx hS hf hst.1 hst.2 h; obtain ⟨i, φ', fr', S', fv', H', h1, h2, h3, h4, h5⟩ := gA hT hcx g1 ha.tail (hnb.step g2) g2.sim g3; exact ⟨i, φ', fr', S', fv', H', h1, h2, g2.trans h3, h4, fun rv w hw => (h5 rv w hw).of fun q hq => .draw g4 hq⟩
        · cases h
    · rename_i a b; exact same (.cons (by simp [Item.tag, Tag.item, nav, hc, child]) (.cons (by simp [Item.tag, Tag.item, nav, hc, child]) ha.tail)) h (fun q => .seq)
    · rename_i x a b
      split at h
      · rename_i t hx; obtain ⟨v, hv, hd⟩ := gv hf hx; cases hd
        split at h
        · exact same (.cons (by simp [Item.tag, Tag.item, nav, hc, child]) ha.tail) h (fun q => .cond (t := true) hv)
        · exact same (.cons (by simp [Item.tag, Tag.item, nav, hc, child]) ha.tail) h (fun q => .cond (t := false) hv)
      · cases h
    · rename_i id b; exact same (.cons (by simp [Item.tag, Tag.item, nav, hc, child]) (.cons (by simp [Item.tag, Tag.item]) ha.tail)) h (fun q => .block)
    · rename_i b; exact same (.cons (by simp [Item.tag, Tag.item, nav, hc, child]) ha.tail) h (fun q => .loop)
    · split at h
      · rename_i id r' hr; exact same (cB.leave hr ha.tail) h (fun q => .exit hr)
      · cases h
    · refine ⟨[], φ, fr, S, fv, H, h, (fun _ hi => by cases hi), Step.refl hS, hf, fun rv w hw => ?_⟩; obtain ⟨q, ⟨N, h1⟩, h2⟩ := hw; rw [bD] at h1; cases h1; exact ⟨_, .ret, h2⟩
    · cases h
  · rename_i p b rest; have hb : nav body (0 :: p) = some b := by
     have := ha (.lp p b) (by simp); simp only [Item.tag, Tag.item] at this; cases hn : nav body (0 :: p) with
     | none => rw [hn] at this; cases this
     | some c' => rw [hn] at this; cases this; rfl
    split at h
    · exact ⟨_, φ, fr, S, fv, H, h, ha, Step.refl hS, hf, fun _ _ h => h⟩
    · exact same (.cons (by simp only [Item.tag, Tag.item, hb]; rfl) ha) h (fun q => .round)
  · exact same ha.tail h (fun q => .blk)
  · cases h
theorem gr (hS : Sim φ S H) {fr : List SV} {fv : List Value} (hf : DVL φ H (Own φ S) fr fv) : ∀ {rv : List ResultVar} {k : List SV -> Option R} {r : R}, ng P S fr rv k = some r ->
 ∃ ss vs, dz P H fv rv = some vs /\ DVL φ H (Own φ S) ss vs /\ k ss = some r
 | [], k, r, h => ⟨[], [], rfl, .nil, h⟩
 | .tmp t :: rv, k, r, h => by
  obtain ⟨ss, vs, h1, h2, h3⟩ := gr hS hf (rv := rv) h; obtain ⟨v, h4, h5⟩ := gv (x := .tmp t) hf rfl; cases h4; exact ⟨_, _, by simp only [dz, h1], .cons h5 h2, h3⟩
 | .cell a t :: rv, k, r, h => by
  obtain ⟨v, h4, h5⟩ := gv (x := .tmp a) hf rfl; cases h4; obtain ⟨s, u, g1, g2, g3⟩ := iP hS h5 h; obtain ⟨ss, vs, h1, h2, h3⟩ := gr hS hf (rv := rv) g3; exact ⟨_, _, by simp only [dz, g1, h1], .cons g2 h2, h3⟩
theorem qf {own : Nat -> Prop} {ss : List SV} {vs : List Value} (h : DVL φ H own ss vs) : DV φ H own (mz ss) (jn vs) := by
 match ss, vs, h with
 | [], vs, h =>
  rw [h.mb]; exact .tup [] #[] rfl (fun i s v h => by simp at h)
 | [s], vs, h =>
  obtain ⟨v, rfl, h1⟩ := h.one; exact h1
 | a :: b :: ss, vs, h =>
  obtain ⟨v, vs1, rfl, h1, h2⟩ := h.fz; obtain ⟨w, vs2, rfl, h3, h4⟩ := h2.fz; exact .tup _ _ (by simpa using h.1) (fun i s v g1 g2 => h.2 i s v g1 (by simpa using g2))
theorem vt {own : Nat -> Prop} {args : List SV} {vs : List Value} (h : DVL φ H own args vs) (n : Nat) : DVL φ H own (args ++ List.replicate (n - args.length) (.tup [])) (vs ++ List.replicate (n - vs.length) undef) := by
 rw [h.1]; refine h.append ⟨by simp, fun i s v h1 h2 => ?_⟩; rw [List.getElem?_replicate] at h1 h2
 split at h1
 · rename_i hi; rw [if_pos hi] at h2; cases h1; cases h2; exact DV.undef
 · cases h1
theorem pD {kn : FuncId -> Bool} (hkn : ∀ g, kn g = false -> ∀ args, O g args = none) (hT : dg P L O T) : ∀ (n : Nat), mg P L O (rZ (R := R) P L T kn n)
 | 0, _, _, _, _, _, h, _, _, _, _, _, _ => by cases h
 | n + 1, g, args, S, k, r, h, φ, H, vs, hnb, hS, hd => by
  unfold rZ at h
  split at h
  · cases h
  rename_i hk0
  split at h
  · rename_i fn hg
    split at h
    · rename_i c hb; obtain ⟨its, φ', fr', S', fv', H', hk, _, hst, hf, hm⟩ := gA hT (pD hkn hT n) h rC hnb hS (vt hd fn.ntmps)
      split at hk
      · obtain ⟨ss, vs', g1, g2, g3⟩ := gr hst.sim hf hk; have hw : gX P L O fn.results.toList [] ⟨fv', H'⟩ (jn vs', H') := ⟨(.normal, ⟨fv', H'⟩), .nil, by simp only [fin, g1]; rfl⟩
        obtain ⟨N, hN⟩ := hY (hkn g hk0 _) hg hb (hm _ _ hw); exact ⟨mz ss, S', N, jn vs', H', hN, ⟨φ', hst, qf g2⟩, g3⟩
      · cases hk
    · cases h
  · cases h
end
end
end
end Go.Proofs.YtdbkoeefnodejaaGreat.Ev
namespace Go.Proofs.YtdbkoeefnodejaaGreat.Ev
noncomputable section
noncomputable section
open Go
inductive Un where
 | i (n : Int)
 | b (x : Bool)
 | l (xs : List Int)
 | d (xs : List Dat)
inductive VP where
 | any
 | int (k : IntKind)
 | bool
 | fL
 | dn
 | jD
 | ptr (j w col : Nat)
 | np (j w col : Nat)
 | buf (j w : Nat)
 | sl (j w : Nat)
 | ints (k : IntKind)
 | af (l : List Sch)
 | dpt (l : List Sch)
 | fn (g : Nat) (x y : List VP)
 | agg (l : List VP)
mutual
def VP.size : VP -> Nat
 | .int _ => 1
 | .np _ _ _ => 1
 | .sl _ _ => 2
 | .bool => 1
 | .ints _ => 1
 | .af _ => 1
 | .dpt _ => 1
 | .fn _ x y => VP.jC x + VP.jC y
 | .agg l => VP.jC l
 | _ => 0
def VP.jC : List VP -> Nat
 | [] => 0
 | p :: ps => p.size + VP.jC ps
end
mutual
def VP.to : VP -> List Un -> SV
 | .any, _ => .any
 | .int k, .i n :: _ => .i k n
 | .bool, .b x :: _ => .b x
 | .fL, _ => .fL
 | .dn, _ => .dn
 | .jD, _ => .jD
 | .ptr j w col, _ => .ptr j 0 w col
 | .np j w col, .i n :: _ => .np j w col n
 | .buf j w, _ => .buf j w false
 | .sl j w, .i off :: .i len :: _ => .sl j off.toNat len.toNat w
 | .ints k, .l xs :: _ => .deep (.ints k xs)
 | .af s, .d xs :: _ => .deep (.af s xs)
 | .dpt s, .d xs :: _ => .dp (.af s xs) 0 0
 | .fn g x y, us => .fn g (VP.tos x us) (VP.tos y (us.drop (VP.jC x)))
 | .agg l, us => .agg (VP.tos l us)
 | _, _ => .any
def VP.tos : List VP -> List Un -> List SV
 | [], _ => []
 | p :: ps, us => p.to us :: VP.tos ps (us.drop p.size)
end
abbrev Sub := List (Nat × Option Nat)
def Sub.get : Sub -> Nat -> Option (Option Nat)
 | [], _ => none
 | (j, x) :: r, k => if k = j then some x else Sub.get r k
def Sub.bind (σ : Sub) (j : Nat) (x : Option Nat) : Option Sub :=
 match σ.get j with
 | none => some ((j, x) :: σ)
 | some y => match x, y with
  | some a, some b => if a = b then some σ else none
  | none, none => some σ
  | _, _ => none
def seen : SV -> Sub -> Option Sub
 | .buf id _ _, σ => σ.bind (1000000 + id) (some id)
 | .sl id _ _ _, σ => σ.bind (1000000 + id) (some id)
 | _, σ => some σ
def xK (S : ag) (k : IntKind) : SV -> Option (List Int)
 | .dn => some []
 | .deep (.ints k' xs) => if k = k' then some xs else none
 | .buf id w ex => match kx S (.buf id w ex) with | some (.ints k' xs) => if k = k' then some xs else none | _ => none
 | .sl id off len w => match kx S (.sl id off len w) with | some (.ints k' xs) => if k = k' then some xs else none | _ => none
 | _ => none
def w6 (S : ag) (l : List Sch) : SV -> Option (List Dat)
 | .dn => some []
 | .deep (.af l' xs) => match dB l l' with | true => some xs | false => none
 | .buf id w ex => match kx S (.buf id w ex) with | some (.af l' xs) => (match dB l l' with | true => some xs | false => none) | _ => none
 | .sl id off len w => match kx S (.sl id off len w) with | some (.af l' xs) => (match dB l l' with | true => some xs | false => none) | _ => none
 | _ => none
def xQ (S : ag) : Sch -> SV -> Option Dat
 | .int k, .i k' n => if k = k' then some (.n n) else none
 | .bool, .b x => some (.n (bif x then 1 else 0))
 | .ints k, s => (match xK S k s with | some xs => some (.r (xs.map .n)) | none => none)
 | .af l, s => (match w6 S l s with | some xs => some (.r xs) | none => none)
 | _, _ => none
def Dm (S : ag) : List Sch -> List SV -> Option (List Dat)
 | [], [] => some []
 | a :: l, s :: ss => (match xQ S a s, Dm S l ss with | some d, some r => some (d :: r) | _, _ => none)
 | _, _ => none
def Cd : List SV -> Sub -> Option Sub
 | [], σ => some σ
 | s :: ss, σ => (match seen s σ with | some τ => Cd ss τ | none => none)
section
variable (S : ag)
mutual
def VP.of : VP -> SV -> Sub -> Option (List Un × Sub)
 | .any, _, σ => some ([], σ)
 | .int k, .i k' n, σ => if k = k' then some ([.i n], σ) else none
 | .bool, .b x, σ => some ([.b x], σ)
 | .fL, .fL, σ => some ([], σ)
 | .dn, .dn, σ => some ([], σ)
 | .jD, .jD, σ => some ([], σ)
 | .ptr j w col, .ptr id row w' col', σ => if row = 0 /\ w = w' /\ col = col' /\ j < 1000000 then (match σ.bind j (some id) with | some τ => some ([], τ) | none => none) else none
 | .np _ _ _, .fL, σ => some ([.i (-1)], σ)
 | .np j w col, .ptr id row w' col', σ => if w = w' /\ col = col' /\ j < 1000000 then (match σ.bind j (some id) with | some τ => some ([.i (row : Int)], τ) | none => none) else none
 | .np j w col, .np id w' col' n, σ => if w = w' /\ col = col' /\ j < 1000000 then (match σ.bind j (some id) with | some τ => some ([.i n], τ) | none => none) else none
 | .buf j w, .buf id w' _, σ => if w = w' /\ j < 1000000 then (match σ.bind j (some id) with | some τ => some ([], τ) | none => none) else none
 | .sl j w, .sl id off len w', σ => if w = w' /\ j < 1000000 then (match σ.bind j (some id) with | some τ => some ([.i (off : Int), .i (len : Int)], τ) | none => none) else none
 | .buf j _, .dn, σ => if j < 1000000 then (match σ.bind j none with | some τ => some ([], τ) | none => none) else none
 | .ints k, s, σ => (match xK S k s, seen s σ with | some xs, some τ => some ([.l xs], τ) | _, _ => none)
 | .af l, s, σ => (match w6 S l s, seen s σ with | some xs, some τ => some ([.d xs], τ) | _, _ => none)
 | .dpt l, .dp c row col, σ => if row = 0 /\ col = 0 then (match c with | .af l' xs => (match dB l l' with | true => some ([.d xs], σ) | false => none) | _ => none) else none
 | .dpt l, .ptr id row w col, σ => if row = 0 /\ col = 0 then (match S.get id with
  | some (.cells cs) => (match Dm S l cs, Cd (.buf id w true :: cs) σ with | some r, some τ => some ([.d [.r r]], τ) | _, _ => none)
  | _ => none) else none
 | .fn g x y, .fn g' x' y', σ => if g = g' then
  (match VP.ofs x x' σ with
   | some (a, τ) => (match VP.ofs y y' τ with | some (c, υ) => some (a ++ c, υ) | none => none)
   | none => none) else none
 | .agg l, .agg l', σ => VP.ofs l l' σ
 | _, _, _ => none
def VP.ofs : List VP -> List SV -> Sub -> Option (List Un × Sub)
 | [], [], σ => some ([], σ)
 | p :: ps, s :: ss, σ =>
  (match p.of s σ with
   | some (a, τ) => (match VP.ofs ps ss τ with | some (c, υ) => some (a ++ c, υ) | none => none)
   | none => none)
 | _, _, _ => none
end
end
inductive BP where
 | cells (l : List VP)
 | ints (k : IntKind)
 | af (l : List Sch)
 | cW (j w col : Nat)
 | gone
def BP.size : BP -> Nat
 | .cells l => VP.jC l
 | .gone => 0
 | _ => 1
def BP.to : BP -> List Un -> Option aJ
 | .cells l, us => some (.cells (VP.tos l us))
 | .ints k, .l xs :: _ => some (.cont (.ints k xs))
 | .af s, .d xs :: _ => some (.cont (.af s xs))
 | .cW j w col, .l xs :: _ => some (.cW j w col xs)
 | .gone, _ => none
 | _, _ => some (.cells [])
def BP.of (S : ag) : BP -> aJ -> Sub -> Option (List Un × Sub)
 | .cells l, .cells l', σ => VP.ofs S l l' σ
 | .ints k, .cont (.ints k' xs), σ => if k = k' then some ([.l xs], σ) else none
 | .af l, .cont (.af l' xs), σ => (match dB l l' with | true => some ([.d xs], σ) | false => none)
 | .cW j w col, .cW id w' col' xs, σ => if w = w' /\ col = col' /\ j < 1000000 then (match σ.bind j (some id) with | some τ => some ([.l xs], τ) | none => none) else none
 | _, _, _ => none
mutual
def VP.JD : VP -> List Un
 | .int _ => [.i 0]
 | .np _ _ _ => [.i (-1)]
 | .sl _ _ => [.i 0, .i 0]
 | .bool => [.b false]
 | .ints _ => [.l []]
 | .af _ => [.d []]
 | .dpt _ => [.d []]
 | .fn _ x y => VP.rX x ++ VP.rX y
 | .agg l => VP.rX l
 | _ => []
def VP.rX : List VP -> List Un
 | [] => []
 | p :: ps => p.JD ++ VP.rX ps
end
def BP.nil : BP -> List Un
 | .cells l => VP.rX l
 | .ints _ => [.l []]
 | .af _ => [.d []]
 | .cW _ _ _ => [.l []]
 | .gone => []
def BP.fU : BP -> Bool
 | .gone => true
 | _ => false
def kW (S : ag) : Nat -> List BP -> Sub -> Option (List Un × Sub)
 | _, [], σ => some ([], σ)
 | j, p :: ps, σ =>
  match p.fU with
  | true => kW S (j + 1) ps σ
  | false =>
   match σ.get j with
   | some (some id) =>
    (match S.get id with
     | some B => (match p.of S B σ with
      | some (a, τ) => (match kW S (j + 1) ps τ with | some (c, υ) => some (a ++ c, υ) | none => none)
      | none => none)
     | none => none)
   | some none => (match kW S (j + 1) ps σ with | some (c, υ) => some (p.nil ++ c, υ) | none => none)
   | none => (match kW S (j + 1) ps ((j, none) :: σ) with | some (c, υ) => some (p.nil ++ c, υ) | none => none)
def cJ : List BP -> List Un -> List (Option aJ)
 | [], _ => []
 | p :: ps, us => p.to us :: cJ ps (us.drop p.size)
def ag.mo (S : ag) (b : Option aJ) : ag := { S with size := S.size + 1, root := S.root.put b (S.size + 1) S.size }
def eU (l : List (Option aJ)) : ag := l.foldl ag.mo ⟨0, .e, 0, []⟩
def Sub.keys (σ : Sub) (n lk lock : Nat) : Bool := σ.all fun p => decide (1000000 <= p.1) || (decide (p.1 < n) && (match p.2 with | some id => (decide (p.1 < lk) || decide (lock <= id)) | none => true))
def Sub.apart : Sub -> Bool
 | [] => true
 | (j, x) :: r => (match x with
  | some a => r.all fun p => (match p.2 with | some c => a != c | none => true) || p.1 == j
  | none => true) && Sub.apart r
def idn (K : List Nat) : Sub := K.map fun j => (j, some j)
structure Pn where
 JQ : List VP
 bG : List BP
 lk : Nat
def Pn.size (p : Pn) : Nat := VP.jC p.JQ
def Pn.of (p : Pn) (σ0 : Sub) (vs : List SV) (S : ag) : Option (List Un × Sub) :=
 match VP.ofs S p.JQ vs σ0 with
 | some (a, σ) =>
  (match kW S 0 p.bG σ with
   | some (c, τ) => if Sub.keys τ p.bG.length p.lk S.lock = true /\ Sub.apart τ = true /\ (p.bG.length <= 1000000 /\ p.lk <= p.bG.length) /\ (σ0.all fun q => decide (q.1 < p.bG.length)) = true then some (a ++ c, τ) else none
   | none => none)
 | none => none
def Pn.eA (p : Pn) (us : List Un) : List SV := VP.tos p.JQ us
def Pn.bQ (p : Pn) (us : List Un) : ag := { eU (cJ p.bG (us.drop p.size)) with lock := p.lk }
def bA (en ex : Pn) : List Nat := (List.range en.bG.length).filter fun j => match ex.bG[j]? with | some b => !b.fU | none => false
def Sub.le (σ τ : Sub) : Prop := ∀ j x, σ.get j = some x -> τ.get j = some x
theorem Sub.le_refl (σ : Sub) : Sub.le σ σ := fun _ _ h => h
theorem Sub.le_trans {a b c : Sub} (h : Sub.le a b) (k : Sub.le b c) : Sub.le a c := fun j x hx => k j x (h j x hx)
theorem Sub.gZ {σ τ : Sub} {j : Nat} {x : Option Nat} (h : σ.bind j x = some τ) : Sub.le σ τ /\ τ.get j = some x := by
 unfold Sub.bind at h
 split at h
 · rename_i hn; cases h; refine ⟨fun k y hk => ?_, by simp [Sub.get]⟩; simp only [Sub.get]
   split
   · rename_i e; subst e; rw [hn] at hk; cases hk
   · exact hk
 · rename_i y hy
   split at h
   · split at h
     · rename_i e; cases h; subst e; exact ⟨Sub.le_refl _, hy⟩
     · cases h
   · cases h; exact ⟨Sub.le_refl _, hy⟩
   · cases h
section
variable {φ : Phi} {S : ag} {H : ae}
def Phi.sub (φ : Phi) (ban : Nat -> Prop) (τ : Sub) (n : Nat) : Phi := ⟨fun j => if j < n then (match τ.get j with | some (some id) => φ id | some none => some none | none => none) else none, ban⟩
def flat : SV -> Prop
 | .i _ _ => True
 | .b _ => True
 | .deep _ => True
 | _ => False
theorem GZ (s : Sch) (d : Dat) : flat (nR s d) := by cases s <;> trivial
theorem gJ {c : aD} {r j : Nat} {s : SV} (h : (c.row r)[j]? = some s) : flat s := by
 cases c with
 | ints k xs =>
  simp only [aD.row] at h; cases j with
  | zero => simp at h; subst h; trivial
  | succ j => simp at h
 | af l xs =>
  simp only [aD.row] at h; rw [fi] at h; cases hl : l[j]? with
  | none => rw [hl] at h; cases h
  | some sc => rw [hl] at h; cases h; exact GZ _ _
theorem DV.jY {own own' : Nat -> Prop} {φ' : Phi} (ho : ∀ x, own' x -> own x) {s : SV} {v : Value} (h : DV φ H own s v) : flat s -> DV φ' H own' s v := by
 induction h with
 | i k n => intro _; exact .i k n
 | b x => intro _; exact .b x
 | cp c h => intro _; exact .cp c h
 | deep c x o sp cap blk hs hc hb hx hl _ ih =>
  intro _; exact .deep c x o sp cap blk hs hc hb (fun h => hx (ho x h)) hl (fun r hr j s hj v hv => ih r hr j s hj v hv (gJ hj))
 | _ => intro h; exact h.elim
theorem hP (hS : Sim φ S H) {s : SV} {v : Value} {c : aD} (hv : DV φ H (Own φ S) s v) (h : kx S s = some c) (hs : ∀ c, s ≠ .deep c) {φ' : Phi} {own' : Nat -> Prop}
 (hcell : ∀ s v, flat s -> DV φ H (Own φ S) s v -> DV φ' H own' s v) (hout : ∀ id x, (∃ B, S.get id = some B) -> φ id = some (some x) -> (∃ w ex, s = .buf id w ex) \/ (∃ o n w, s = .sl id o n w) -> ¬ own' x) : DV φ' H own' (.deep c) v := by
 have reg : ∀ (c : aD) (x o : Nat) (sp : Option Nat) (cap : Nat) (blk : Blk), H.get x = some blk -> Rgn φ H (Own φ S) c blk.cells o -> c.len <= cap -> (sp = none \/ sp = some c.w) -> ¬ own' x -> DV φ' H own' (.deep c) (.slice (some ⟨x, o, sp⟩) c.len cap) := by
  intro c x o sp cap blk hb hr hc hsp hx; exact .deep c x o sp cap blk hsp hc hb hx hr.1 (fun r hr' j s hs v hv => hcell s v (gJ hs) (hr.2 r hr' j s hs v hv))
 unfold kx at h
 split at h
 · rename_i id w ex
   split at h
   · rename_i d hB
     split at h
     · rename_i hw; simp only [Bool.and_eq_true, beq_iff_eq, decide_eq_true_eq] at hw; cases h; cases hv with
       | buf _ _ _ x n sp hx hn hsp =>
        rcases hS.blk _ _ hB with ⟨h0, _⟩ | ⟨y, d, h1, h2, _, h4⟩
        · rw [hx] at h0; cases h0
        · rw [hx] at h1; cases h1; have e1 := hn d (ae.aI h2).1; have e2 := h4.1; have : n = c.len := by
           rw [e1, hw.1] at e2; exact Nat.eq_of_mul_eq_mul_right (by omega) e2
          subst this; refine reg c x 0 sp _ d h2 (BV.rgn h4) (Nat.le_refl _) ?_ (hout id x ⟨_, hB⟩ hx (.inl ⟨w, ex, rfl⟩)); rcases hsp with h | ⟨_, h, _⟩
          · exact .inl h
          · exact .inr (by rw [h, hw.1])
       | cN _ _ hx =>
        rcases hS.blk _ _ hB with ⟨_, h0⟩ | ⟨y, d, h1, _⟩
        · exact .cp _ h0
        · rw [hx] at h1; cases h1
     · cases h
   · cases h
 · rename_i id off len w
   split at h
   · rename_i d hB
     split at h
     · rename_i hw; simp only [Bool.and_eq_true, beq_iff_eq, decide_eq_true_eq] at hw; cases h; cases hv with
       | sl _ _ _ _ x o sp cap hx ho hsp hc hin =>
        rcases hS.blk _ _ hB with ⟨h0, _⟩ | ⟨y, b, h1, h2, _, h4⟩
        · rw [hx] at h0; cases h0
        · rw [hx] at h1; cases h1; obtain ⟨i1, i2⟩ := hin b (ae.aI h2).1; have e2 := h4.1; have hle : off + len <= d.len := by
           rw [e2, hw.1, <- Nat.add_mul] at i2; exact Nat.le_of_mul_le_mul_right i2 (by omega)
          have hcut := (BV.rgn h4).cut hle; have hl := d.iT hle; have hsp' : sp = none \/ sp = some (d.cut off len).w := by rw [d.Ci, <- hw.1]; exact hsp
          have hx' := hout id x ⟨_, hB⟩ hx (.inr ⟨off, len, w, rfl⟩); rcases ho with h0 | h0
          · subst h0; have := reg (d.cut off 0) x o sp cap b h2 ⟨by rw [hl]; omega, fun r hr => by rw [hl] at hr; omega⟩ (by rw [hl]; omega) hsp' hx'; rw [hl] at this; exact this
          · rw [Nat.zero_add, <- hw.1, <- h0] at hcut; have := reg (d.cut off len) x o sp cap b h2 hcut (by rw [hl]; exact hc) hsp' hx'; rw [hl] at this; exact this
       | cY _ _ hx =>
        rcases hS.blk _ _ hB with ⟨_, h0⟩ | ⟨y, b, h1, _⟩
        · have h0 : d.len = 0 := h0; exact .cp _ (d.iT (by omega))
        · rw [hx] at h1; cases h1
     · cases h
   · cases h
 · exact absurd rfl (hs _)
 · cases h
theorem xS {s : SV} {σ τ : Sub} (h : seen s σ = some τ) : Sub.le σ τ /\ ∀ id, ((∃ w ex, s = .buf id w ex) \/ (∃ o n w, s = .sl id o n w)) -> τ.get (1000000 + id) = some (some id) := by
 unfold seen at h
 split at h
 · obtain ⟨h1, h2⟩ := Sub.gZ h; refine ⟨h1, ?_⟩
   rintro id (⟨w, ex, e⟩ | ⟨o, n, w, e⟩)
   · cases e; exact h2
   · cases e
 · obtain ⟨h1, h2⟩ := Sub.gZ h; refine ⟨h1, ?_⟩
   rintro id (⟨w, ex, e⟩ | ⟨o, n, w, e⟩)
   · cases e
   · cases e; exact h2
 · rename_i h1 h2; cases h; refine ⟨Sub.le_refl _, ?_⟩
   rintro id (⟨w, ex, e⟩ | ⟨o, n, w, e⟩)
   · exact absurd e (h1 id w ex)
   · exact absurd e (h2 id o n w)
theorem ni (hS : Sim φ S H) {k : IntKind} {s : SV} {xs : List Int} (h : xK S k s = some xs) {φ' : Phi} {own' : Nat -> Prop} (ho : ∀ x, own' x -> Own φ S x)
 (hout : ∀ id x, (∃ B, S.get id = some B) -> φ id = some (some x) -> (∃ w ex, s = .buf id w ex) \/ (∃ o n w, s = .sl id o n w) -> ¬ own' x) {v : Value} (hv : DV φ H (Own φ S) s v) : DV φ' H own' (.deep (.ints k xs)) v := by
 have hcell : ∀ s v, flat s -> DV φ H (Own φ S) s v -> DV φ' H own' s v := fun s v hf hd => hd.jY ho hf
 unfold xK at h
 split at h
 · cases h; cases hv; exact .cp _ rfl
 · split at h
   · rename_i e; cases h; subst e; exact hv.jY ho trivial
   · cases h
 · split at h
   · rename_i hvw
     split at h
     · rename_i e; cases h; subst e; exact hP hS hv hvw (fun c e => by cases e) hcell hout
     · cases h
   · cases h
 · split at h
   · rename_i hvw
     split at h
     · rename_i e; cases h; subst e; exact hP hS hv hvw (fun c e => by cases e) hcell hout
     · cases h
   · cases h
 · cases h
theorem nF (hS : Sim φ S H) {l : List Sch} {s : SV} {xs : List Dat} (h : w6 S l s = some xs) {φ' : Phi} {own' : Nat -> Prop} (ho : ∀ x, own' x -> Own φ S x)
 (hout : ∀ id x, (∃ B, S.get id = some B) -> φ id = some (some x) -> (∃ w ex, s = .buf id w ex) \/ (∃ o n w, s = .sl id o n w) -> ¬ own' x) {v : Value} (hv : DV φ H (Own φ S) s v) : DV φ' H own' (.deep (.af l xs)) v := by
 have hcell : ∀ s v, flat s -> DV φ H (Own φ S) s v -> DV φ' H own' s v := fun s v hf hd => hd.jY ho hf
 unfold w6 at h
 split at h
 · cases h; cases hv; exact .cp _ rfl
 · split at h
   · rename_i e; cases h; have := fy.2 _ _ e; subst this; exact hv.jY ho trivial
   · cases h
 · split at h
   · rename_i hvw
     split at h
     · rename_i e; cases h; have := fy.2 _ _ e; subst this; exact hP hS hv hvw (fun c e => by cases e) hcell hout
     · cases h
   · cases h
 · split at h
   · rename_i hvw
     split at h
     · rename_i e; cases h; have := fy.2 _ _ e; subst this; exact hP hS hv hvw (fun c e => by cases e) hcell hout
     · cases h
   · cases h
 · cases h
theorem At : ∀ {ss : List SV} {σ τ : Sub}, Cd ss σ = some τ -> Sub.le σ τ /\ ∀ s ∈ ss, ∀ id, ((∃ w ex, s = .buf id w ex) \/ (∃ o n w, s = .sl id o n w)) -> τ.get (1000000 + id) = some (some id)
 | [], σ, τ, h => by cases h; exact ⟨Sub.le_refl _, fun s hs => by simp at hs⟩
 | a :: ss, σ, τ, h => by
  simp only [Cd] at h
  split at h
  · rename_i τ' h1; obtain ⟨a1, a2⟩ := xS h1; obtain ⟨b1, b2⟩ := At h; refine ⟨Sub.le_trans a1 b1, fun s hs id he => ?_⟩; rcases List.mem_cons.1 hs with rfl | hs
    · exact b1 _ _ (a2 id he)
    · exact b2 s hs id he
  · cases h
theorem yr (hS : Sim φ S H) {c : Sch} {s : SV} {d : Dat} (h : xQ S c s = some d) {φ' : Phi} {own' : Nat -> Prop} (ho : ∀ x, own' x -> Own φ S x)
 (hout : ∀ id x, (∃ B, S.get id = some B) -> φ id = some (some x) -> (∃ w ex, s = .buf id w ex) \/ (∃ o n w, s = .sl id o n w) -> ¬ own' x) {v : Value} (hv : DV φ H (Own φ S) s v) : DV φ' H own' (nR c d) v := by
 unfold xQ at h
 split at h
 · split at h
   · rename_i e; subst e; cases h; cases hv; exact .i _ _
   · cases h
 · rename_i x; cases h; cases hv; have : (Dat.int (.n (bif x then 1 else 0)) != 0) = x := by cases x <;> rfl
   simp only [nR, this]; exact .b x
 · split at h
   · rename_i xs h1; cases h; have := ni hS h1 (φ' := φ') ho hout hv; have e : (xs.map Dat.n).map Dat.int = xs := by rw [List.map_map]; exact List.map_id xs
     simp only [nR, Dat.sub, e]; exact this
   · cases h
 · split at h
   · rename_i xs h1; cases h; exact nF hS h1 (φ' := φ') ho hout hv
   · cases h
 · cases h
theorem ze : ∀ {l : List Sch} {ss : List SV} {r : List Dat}, Dm S l ss = some r -> l.length = ss.length /\ r.length = ss.length /\ ∀ (j : Nat) c s d, l[j]? = some c -> ss[j]? = some s -> r[j]? = some d -> xQ S c s = some d
 | [], [], r, h => by cases h; exact ⟨rfl, rfl, fun j c s d h => by simp at h⟩
 | [], _ :: _, _, h => by cases h
 | _ :: _, [], _, h => by cases h
 | a :: l, s :: ss, r, h => by
  simp only [Dm] at h
  split at h
  · rename_i d q h1 h2; cases h; obtain ⟨g1, g2, g3⟩ := ze h2; refine ⟨by simp [g1], by simp [g2], fun j c s' d' a1 a2 a3 => ?_⟩; cases j with
    | zero => simp at a1 a2 a3; subst a1; subst a2; subst a3; exact h1
    | succ j => exact g3 j c s' d' (by simpa using a1) (by simpa using a2) (by simpa using a3)
  · cases h
structure Dx (φ : Phi) (S : ag) (own' : Nat -> Prop) (n : Nat) (υ : Sub) : Prop where
 keys : ∀ (j : Nat) y, υ.get j = some y -> j < n \/ 1000000 <= j
 out : ∀ (id x : Nat), υ.get (1000000 + id) = some (some id) -> (∃ B, S.get id = some B) -> φ id = some (some x) -> ¬ own' x
def Fits (φ : Phi) (S : ag) (H : ae) (ban : Nat -> Prop) (n : Nat) (own' : Nat -> Prop) (υ : Sub) (s s' : SV) : Prop := ∀ v, DV φ H (Own φ S) s v -> DV (φ.sub ban υ n) H own' s' v
theorem Phi.mD {ban : Nat -> Prop} {υ : Sub} {n j : Nat} {y : Option Nat} {own' : Nat -> Prop} (hf : Dx φ S own' n υ) (hj : j < 1000000) (h : υ.get j = some y) : (φ.sub ban υ n) j = (match y with | some id => φ id | none => some none) := by
 have hn : j < n := by
  rcases hf.keys j y h with h | h <;> omega
 unfold Phi.sub; simp only [if_pos hn, h]; cases y <;> rfl
section
variable {ban : Nat -> Prop} {n : Nat} {own' : Nat -> Prop}
theorem Fits.agg {υ : Sub} {ss ss' : List SV} (hl : ss'.length = ss.length) (h : ∀ (i : Nat) s s', ss[i]? = some s -> ss'[i]? = some s' -> Fits φ S H ban n own' υ s s') : Fits φ S H ban n own' υ (.agg ss) (.agg ss') := by
 intro v hv; cases hv with
 | agg l x' hx vx =>
  refine .agg _ _ (by rw [hl]; exact hx) (fun i s v h1 h2 => ?_); have hi : i < ss.length := by rw [<- hl]; exact (List.getElem?_eq_some_iff.1 h1).1
  exact h i _ s (List.getElem?_eq_getElem hi) h1 v (vx i _ v (List.getElem?_eq_getElem hi) h2)
theorem Fits.fn {υ : Sub} {g : Nat} {x y x2 y2 : List SV} (hl : x2.length = x.length) (hm : y2.length = y.length) (h : ∀ (i : Nat) s s', x[i]? = some s -> x2[i]? = some s' -> Fits φ S H ban n own' υ s s')
 (k : ∀ (i : Nat) s s', y[i]? = some s -> y2[i]? = some s' -> Fits φ S H ban n own' υ s s') : Fits φ S H ban n own' υ (.fn g x y) (.fn g x2 y2) := by
 intro v hv; cases hv with
 | fn _ _ _ x' y' hx hy vx vy =>
  refine .fn g _ _ _ _ (by rw [hl]; exact hx) (by rw [hm]; exact hy) (fun i s v h1 h2 => ?_) (fun i s v h1 h2 => ?_)
  · have hi : i < x.length := by rw [<- hl]; exact (List.getElem?_eq_some_iff.1 h1).1
    exact h i _ s (List.getElem?_eq_getElem hi) h1 v (vx i _ v (List.getElem?_eq_getElem hi) h2)
  · have hi : i < y.length := by rw [<- hm]; exact (List.getElem?_eq_some_iff.1 h1).1
    exact k i _ s (List.getElem?_eq_getElem hi) h1 v (vy i _ v (List.getElem?_eq_getElem hi) h2)
def M8 (φ : Phi) (S : ag) (H : ae) (ban : Nat -> Prop) (n : Nat) (own' : Nat -> Prop) (υ : Sub) (ss ss' : List SV) : Prop := ss'.length = ss.length /\ ∀ (i : Nat) s s', ss[i]? = some s -> ss'[i]? = some s' -> Fits φ S H ban n own' υ s s'
mutual
theorem N4 (hS : Sim φ S H) (ho : ∀ x, own' x -> Own φ S x) : ∀ (p : VP) (s : SV) (σ τ : Sub) (a : List Un), VP.of S p s σ = some (a, τ) ->
 Sub.le σ τ /\ a.length = p.size /\ ∀ υ, Sub.le τ υ -> Dx φ S own' n υ -> ∀ rest, Fits φ S H ban n own' υ s (p.to (a ++ rest))
 | .any, s, σ, τ, a, h => by
  simp only [VP.of, Option.some.injEq, Prod.mk.injEq] at h; obtain ⟨rfl, rfl⟩ := h; exact ⟨Sub.le_refl _, rfl, fun _ _ _ _ v _ => .any v⟩
 | .int k, s, σ, τ, a, h => by
  cases s <;> simp only [VP.of] at h <;> try (cases h; done)
  split at h
  · rename_i e; cases h; subst e; exact ⟨Sub.le_refl _, rfl, fun _ _ _ _ v hv => by cases hv; exact .i _ _⟩
  · cases h
 | .bool, s, σ, τ, a, h => by
  cases s <;> simp only [VP.of] at h <;> try (cases h; done)
  cases h; exact ⟨Sub.le_refl _, rfl, fun _ _ _ _ v hv => by cases hv; exact .b _⟩
 | .fL, s, σ, τ, a, h => by
  cases s <;> simp only [VP.of] at h <;> try (cases h; done)
  cases h; exact ⟨Sub.le_refl _, rfl, fun _ _ _ _ v hv => by cases hv; exact .fL⟩
 | .dn, s, σ, τ, a, h => by
  cases s <;> simp only [VP.of] at h <;> try (cases h; done)
  cases h; exact ⟨Sub.le_refl _, rfl, fun _ _ _ _ v hv => by cases hv; exact .dn⟩
 | .jD, s, σ, τ, a, h => by
  cases s <;> simp only [VP.of] at h <;> try (cases h; done)
  cases h; exact ⟨Sub.le_refl _, rfl, fun _ _ _ _ v hv => by cases hv; exact .jD⟩
 | .ptr j w col, s, σ, τ, a, h => by
  cases s <;> simp only [VP.of] at h <;> try (cases h; done)
  split at h
  · rename_i e; obtain ⟨rfl, rfl, rfl, hj⟩ := e
    split at h
    · rename_i τ' hb; cases h; obtain ⟨h1, h2⟩ := Sub.gZ hb; refine ⟨h1, rfl, fun υ hle hf rest v hv => ?_⟩; cases hv with
      | ptr _ _ _ _ x hx => exact .ptr j 0 w col x (by rw [Phi.mD hf hj (hle _ _ h2)]; exact hx)
    · cases h
  · cases h
 | .np j w col, s, σ, τ, a, h => by
  cases s <;> simp only [VP.of] at h <;> try (cases h; done)
  · cases h; exact ⟨Sub.le_refl _, rfl, fun _ _ _ _ v hv => by cases hv; exact .gV _ _ _ _ (by omega)⟩
  · split at h
    · rename_i e; obtain ⟨rfl, rfl, hj⟩ := e
      split at h
      · rename_i τ' hb; cases h; obtain ⟨h1, h2⟩ := Sub.gZ hb; refine ⟨h1, rfl, fun υ hle hf rest v hv => ?_⟩; cases hv with
        | ptr _ _ _ _ x hx => exact .np j w col x _ (by omega) (by rw [Phi.mD hf hj (hle _ _ h2)]; exact hx)
      · cases h
    · cases h
  · split at h
    · rename_i e; obtain ⟨rfl, rfl, hj⟩ := e
      split at h
      · rename_i τ' hb; cases h; obtain ⟨h1, h2⟩ := Sub.gZ hb; refine ⟨h1, rfl, fun υ hle hf rest v hv => ?_⟩; cases hv with
        | gV _ _ _ _ hn => exact .gV j w col _ hn
        | np _ _ _ x _ hn hx => exact .np j w col x _ hn (by rw [Phi.mD hf hj (hle _ _ h2)]; exact hx)
      · cases h
    · cases h
 | .sl j w, s, σ, τ, a, h => by
  cases s <;> simp only [VP.of] at h <;> try (cases h; done)
  split at h
  · rename_i e; obtain ⟨rfl, hj⟩ := e
    split at h
    · rename_i τ' hb; cases h; obtain ⟨h1, h2⟩ := Sub.gZ hb; refine ⟨h1, rfl, fun υ hle hf rest v hv => ?_⟩; have hat := Phi.mD (ban := ban) hf hj (hle _ _ h2); cases hv with
      | sl _ _ _ _ x o sp cap hx ho hs hc hin => exact .sl j _ _ w x o sp cap (by rw [hat]; exact hx) ho hs hc hin
      | cY _ _ hx => exact .cY j w (by rw [hat]; exact hx)
    · cases h
  · cases h
 | .buf j w, s, σ, τ, a, h => by
  cases s <;> simp only [VP.of] at h <;> try (cases h; done)
  · split at h
    · rename_i hj
      split at h
      · rename_i τ' hb; cases h; obtain ⟨h1, h2⟩ := Sub.gZ hb; refine ⟨h1, rfl, fun υ hle hf rest v hv => ?_⟩; cases hv; exact .cN j w (by rw [Phi.mD hf hj (hle _ _ h2)])
      · cases h
    · cases h
  · split at h
    · rename_i e; obtain ⟨rfl, hj⟩ := e
      split at h
      · rename_i τ' hb; cases h; obtain ⟨h1, h2⟩ := Sub.gZ hb; refine ⟨h1, rfl, fun υ hle hf rest v hv => ?_⟩; have hat := Phi.mD (ban := ban) hf hj (hle _ _ h2); cases hv with
        | buf _ _ _ x n sp hx hn hs =>
         refine .buf j _ false x n sp (by rw [hat]; exact hx) hn ?_
         rcases hs with h | ⟨_, h⟩
         · exact .inl h
         · exact .inr ⟨rfl, h⟩
        | cN _ _ hx => exact .cN j _ (by rw [hat]; exact hx)
      · cases h
    · cases h
 | .ints k, s, σ, τ, a, h => by
  simp only [VP.of] at h
  split at h
  · rename_i xs τ' h1 h2; cases h; obtain ⟨g1, g2⟩ := xS h2; refine ⟨g1, rfl, fun υ hle hf rest v hv => ?_⟩; exact ni hS h1 ho (fun id x hB hx hs => hf.out id x (hle _ _ (g2 id hs)) hB hx) hv
  · cases h
 | .af l, s, σ, τ, a, h => by
  simp only [VP.of] at h
  split at h
  · rename_i xs τ' h1 h2; cases h; obtain ⟨g1, g2⟩ := xS h2; refine ⟨g1, rfl, fun υ hle hf rest v hv => ?_⟩; exact nF hS h1 ho (fun id x hB hx hs => hf.out id x (hle _ _ (g2 id hs)) hB hx) hv
  · cases h
 | .dpt l, s, σ, τ, a, h => by
  cases s <;> simp only [VP.of] at h <;> try (cases h; done)
  · rename_i id row w col
    split at h
    · rename_i e; obtain ⟨rfl, rfl⟩ := e
      split at h
      · rename_i cs hB
        split at h
        · rename_i r τ' h1 h2; cases h; obtain ⟨g1, g2⟩ := At h2; obtain ⟨k1, k2, k3⟩ := ze h1; refine ⟨g1, rfl, fun υ hle hf rest v hv => ?_⟩; cases hv with
          | ptr _ _ _ _ x hx =>
           rcases hS.blk _ _ hB with ⟨q0, _⟩ | ⟨y, c, q1, q2, _, q4⟩
           · rw [hx] at q0; cases q0
           · rw [hx] at q1; cases q1; have hout : ∀ s ∈ cs, ∀ id x, (∃ B, S.get id = some B) -> φ id = some (some x) -> (∃ w ex, s = .buf id w ex) \/ (∃ o n w, s = .sl id o n w) -> ¬ own' x :=
              fun s hs id x hB hx he => hf.out id x (hle _ _ (g2 s (List.mem_cons_of_mem _ hs) id he)) hB hx
             have hno : ¬ own' x := hf.out id x (hle _ _ (g2 _ (List.mem_cons_self ..) id (.inl ⟨_, _, rfl⟩))) ⟨_, hB⟩ hx; have hcl : cs.length = c.cells.length := q4.1; rw [show 0 * w + 0 = 0 + 0 * (aD.af l [.r r]).w + 0 by simp]; refine .dp (.af l [.r r]) 0 0 x 0 c q2 hno (by simp [aD.len, aD.w]; omega) (fun rr hr j s' hs' u hu => ?_); have hr : rr = 0 := by simp [aD.len] at hr; exact hr
             subst hr; simp only [aD.row, List.getD_cons_zero, fi, Nat.zero_mul, Nat.zero_add] at hs' hu; have hj : j < cs.length := by rw [hcl]; exact (List.getElem?_eq_some_iff.1 hu).1
             have hlj : l[j]? = some l[j] := List.getElem?_eq_getElem (by omega); rw [hlj, Option.map_some] at hs'; cases hs'; have hrj : r[j]? = some r[j] := List.getElem?_eq_getElem (by omega); have hd : (Dat.r r).fld j = r[j] := by simp [Dat.fld, Dat.sub, List.getD_eq_getElem?_getD, hrj]
             have hsj : cs[j]? = some cs[j] := List.getElem?_eq_getElem hj
             try rw [hd]
             exact yr hS (k3 j _ _ _ hlj hsj hrj) ho (hout _ (List.getElem_mem _)) (q4.2 j _ u hsj hu)
        · cases h
      · cases h
    · cases h
  · split at h
    · rename_i e; obtain ⟨rfl, rfl⟩ := e
      split at h
      · split at h
        · rename_i e; cases h; have := fy.2 _ _ e; subst this; refine ⟨Sub.le_refl _, rfl, fun _ _ _ _ v hv => ?_⟩; cases hv with
          | dp _ _ _ x o blk hb hno hl hc => exact .dp _ 0 0 x o blk hb (fun h => hno (ho x h)) hl (fun r hr j s hs v hv => (hc r hr j s hs v hv).jY ho (gJ hs))
        · cases h
      · cases h
    · cases h
 | .fn g x y, s, σ, τ, a, h => by
  cases s <;> simp only [VP.of] at h <;> try (cases h; done)
  split at h
  · rename_i e; subst e
    split at h
    · rename_i c τ1 h1
      split at h
      · rename_i d τ2 h2; cases h; obtain ⟨a1, a2, a3⟩ := oO hS ho x _ _ _ _ h1; obtain ⟨b1, b2, b3⟩ := oO hS ho y _ _ _ _ h2; refine ⟨Sub.le_trans a1 b1, by simp [VP.size, a2, b2], fun υ hle hf rest => ?_⟩; simp only [VP.to, List.append_assoc]; rw [<- a2, List.drop_left]; obtain ⟨c1, c2⟩ := a3 υ (Sub.le_trans b1 hle) hf (d ++ rest); obtain ⟨d1, d2⟩ := b3 υ hle hf rest; exact Fits.fn c1 d1 c2 d2
      · cases h
    · cases h
  · cases h
 | .agg l, s, σ, τ, a, h => by
  cases s <;> simp only [VP.of] at h <;> try (cases h; done)
  obtain ⟨a1, a2, a3⟩ := oO hS ho l _ _ _ _ h; refine ⟨a1, by simp [VP.size, a2], fun υ hle hf rest => ?_⟩; obtain ⟨c1, c2⟩ := a3 υ hle hf rest; exact Fits.agg c1 c2
theorem oO (hS : Sim φ S H) (ho : ∀ x, own' x -> Own φ S x) : ∀ (ps : List VP) (ss : List SV) (σ τ : Sub) (a : List Un), VP.ofs S ps ss σ = some (a, τ) ->
 Sub.le σ τ /\ a.length = VP.jC ps /\ ∀ υ, Sub.le τ υ -> Dx φ S own' n υ -> ∀ rest, M8 φ S H ban n own' υ ss (VP.tos ps (a ++ rest))
 | [], ss, σ, τ, a, h => by
  cases ss <;> simp only [VP.ofs] at h <;> try (cases h; done)
  cases h; exact ⟨Sub.le_refl _, rfl, fun _ _ _ _ => ⟨rfl, fun i s s' h1 h2 => by simp at h1⟩⟩
 | p :: ps, ss, σ, τ, a, h => by
  cases ss <;> simp only [VP.ofs] at h <;> try (cases h; done)
  rename_i s ss
  split at h
  · rename_i c τ1 h1
    split at h
    · rename_i d τ2 h2; cases h; obtain ⟨a1, a2, a3⟩ := N4 hS ho p _ _ _ _ h1; obtain ⟨b1, b2, b3⟩ := oO hS ho ps _ _ _ _ h2; refine ⟨Sub.le_trans a1 b1, by simp [VP.jC, a2, b2], fun υ hle hf rest => ?_⟩; simp only [VP.tos, List.append_assoc]; rw [<- a2, List.drop_left]; have c1 := a3 υ (Sub.le_trans b1 hle) hf (d ++ rest); obtain ⟨d1, d2⟩ := b3 υ hle hf rest; refine ⟨by simp [d1], fun i u u' h3 h4 => ?_⟩; cases i with
      | zero =>
       simp at h3 h4; subst h3; subst h4; exact c1
      | succ i =>
       simp only [List.getElem?_cons_succ] at h3 h4; exact d2 i u u' h3 h4
    · cases h
  · cases h
end
end
end
end
end
end Go.Proofs.YtdbkoeefnodejaaGreat.Ev
namespace Go.Proofs.YtdbkoeefnodejaaGreat.Ev
noncomputable section
noncomputable section
open Go
theorem ag.Bg (S : ag) (b : Option aJ) (k : Nat) : (S.mo b).root.get k = if k = S.size then b else S.root.get k :=
 STr.dy _ _ _ _ _ (Nat.lt_succ_self _)
theorem foldl_push : ∀ (l : List (Option aJ)) (S : ag), (l.foldl ag.mo S).size = S.size + l.length /\ (l.foldl ag.mo S).lock = S.lock /\ (l.foldl ag.mo S).hid = S.hid /\
 ∀ j, (l.foldl ag.mo S).root.get j = if S.size <= j /\ j < S.size + l.length then (l[j - S.size]?).join else S.root.get j
 | [], S => by
  refine ⟨by simp, rfl, rfl, fun j => ?_⟩; rw [if_neg (by simp)]; rfl
 | b :: l, S => by
  obtain ⟨h1, h2, h3, h4⟩ := foldl_push l (S.mo b); have hs : (S.mo b).size = S.size + 1 := rfl; refine ⟨by simp only [List.foldl_cons, List.length_cons]; rw [h1, hs]; omega, h2, h3, fun j => ?_⟩; simp only [List.foldl_cons, List.length_cons]; rw [h4, hs, ag.Bg]
  by_cases h : S.size + 1 <= j /\ j < S.size + 1 + l.length
  · rw [if_pos h, if_pos (by omega), show j - S.size = (j - (S.size + 1)) + 1 by omega, List.getElem?_cons_succ]
  · rw [if_neg h]
    by_cases e : j = S.size
    · rw [if_pos e, if_pos (by omega), e]; simp
    · rw [if_neg e, if_neg (by omega)]
theorem iW (l : List (Option aJ)) : (eU l).size = l.length := by
 have := (foldl_push l ⟨0, .e, 0, []⟩).1; simpa [eU] using this
theorem Bp (l : List (Option aJ)) : (eU l).hid = [] := (foldl_push l ⟨0, .e, 0, []⟩).2.2.1
theorem sP (l : List (Option aJ)) (j : Nat) : (eU l).get j = (l[j]?).join := by
 by_cases h : j < l.length
 · rw [ag.dC (by rw [iW]; exact h) (by rw [Bp]; rfl)]; have := (foldl_push l ⟨0, .e, 0, []⟩).2.2.2 j; unfold eU; rw [this, if_pos ⟨Nat.zero_le _, by simpa using h⟩]; simp
 · rw [List.getElem?_eq_none (by omega)]; unfold ag.get; rw [if_neg (by rw [iW]; exact h)]; rfl
theorem kK {l : List (Option aJ)} {j : Nat} {B : aJ} (h : (eU l).get j = some B) : l[j]? = some (some B) := by
 rw [sP] at h; cases hl : l[j]? with
 | none => rw [hl] at h; cases h
 | some x => rw [hl] at h; simp at h; rw [h]
section
variable {φ : Phi} {S : ag} {H : ae} {ban : Nat -> Prop} {n : Nat} {own' : Nat -> Prop}
def Told (φ : Phi) (S : ag) (H : ae) (ban : Nat -> Prop) (n : Nat) (own' : Nat -> Prop) (υ : Sub) (B : aJ) (B' : Option aJ) : Prop :=
 ∀ C, B' = some C -> (∀ cs, BV φ H (Own φ S) B cs -> BV (φ.sub ban υ n) H own' C cs) /\ (B.empty -> C.empty)
theorem GU (hS : Sim φ S H) (ho : ∀ x, own' x -> Own φ S x) {p : BP} {B : aJ} {σ τ : Sub} {a : List Un} (h : BP.of S p B σ = some (a, τ)) :
 Sub.le σ τ /\ a.length = p.size /\ ∀ υ, Sub.le τ υ -> Dx φ S own' n υ -> ∀ rest, Told φ S H ban n own' υ B (p.to (a ++ rest)) := by
 unfold BP.of at h
 split at h
 · rename_i l l'; obtain ⟨h1, h2, h3⟩ := oO (n := n) (ban := ban) hS ho l l' _ _ _ h; refine ⟨h1, h2, fun υ hle hf rest C hC => ?_⟩; cases hC; refine ⟨fun cs hB => ?_, fun _ => trivial⟩; obtain ⟨c1, c2⟩ := h3 υ hle hf rest; refine ⟨by rw [c1]; exact hB.1, fun i s v g1 g2 => ?_⟩; have hi : i < l'.length := by rw [<- c1]; exact (List.getElem?_eq_some_iff.1 g1).1
   exact c2 i _ s (List.getElem?_eq_getElem hi) g1 v (hB.2 i _ v (List.getElem?_eq_getElem hi) g2)
 · split at h
   · rename_i e; cases h; subst e; refine ⟨Sub.le_refl _, rfl, fun υ hle hf rest C hC => ?_⟩; cases hC; refine ⟨fun cs hB => ?_, fun e => e⟩; exact ⟨hB.1, fun r hr j s hs v hv => (hB.2 r hr j s hs v hv).jY ho (gJ hs)⟩
   · cases h
 · split at h
   · rename_i e; cases h; have := fy.2 _ _ e; subst this; refine ⟨Sub.le_refl _, rfl, fun υ hle hf rest C hC => ?_⟩; cases hC; refine ⟨fun cs hB => ?_, fun e => e⟩; exact ⟨hB.1, fun r hr j s hs v hv => (hB.2 r hr j s hs v hv).jY ho (gJ hs)⟩
   · cases h
 · split at h
   · rename_i e; obtain ⟨rfl, rfl, hj⟩ := e
     split at h
     · rename_i τ' hb; cases h; obtain ⟨h1, h2⟩ := Sub.gZ hb; refine ⟨h1, rfl, fun υ hle hf rest C hC => ?_⟩; cases hC; refine ⟨fun cs hB => ⟨hB.1, fun r v hr hv => ?_⟩, fun e => e⟩; have := hB.2 r v hr hv; cases this with
       | gV _ _ _ _ hn => exact .gV _ _ _ _ hn
       | np _ _ _ x _ hn hx => exact .np _ _ _ x _ hn (by rw [Phi.mD hf hj (hle _ _ h2)]; exact hx)
     · cases h
   · cases h
 · cases h
mutual
theorem En : ∀ (p : VP), p.JD.length = p.size
 | .int _ => rfl
 | .np _ _ _ => rfl
 | .sl _ _ => rfl
 | .bool => rfl
 | .ints _ => rfl
 | .af _ => rfl
 | .dpt _ => rfl
 | .fn _ x y => by simp [VP.JD, VP.size, jo x, jo y]
 | .agg l => by simp [VP.JD, VP.size, jo l]
 | .any => rfl
 | .fL => rfl
 | .dn => rfl
 | .jD => rfl
 | .ptr _ _ _ => rfl
 | .buf _ _ => rfl
theorem jo : ∀ (l : List VP), (VP.rX l).length = VP.jC l
 | [] => rfl
 | p :: ps => by simp [VP.rX, VP.jC, En p, jo ps]
end
theorem GK (p : BP) : p.nil.length = p.size /\ ∀ rest C, p.to (p.nil ++ rest) = some C -> C.empty := by
 cases p with
 | cells l => exact ⟨jo l, fun rest C h => by cases h; trivial⟩
 | ints k => exact ⟨rfl, fun rest C h => by cases h; rfl⟩
 | af l => exact ⟨rfl, fun rest C h => by cases h; rfl⟩
 | cW j w col => exact ⟨rfl, fun rest C h => by cases h; rfl⟩
 | gone => exact ⟨rfl, fun rest C h => by cases h⟩
theorem pb : ∀ (ps : List BP) (us : List Un), (cJ ps us).length = ps.length
 | [], _ => rfl
 | p :: ps, us => by simp [cJ, pb ps]
theorem u6 {p : BP} (h : p.fU = true) (us : List Un) : p.size = 0 /\ p.to us = none := by
 cases p <;> simp [BP.fU] at h
 exact ⟨rfl, rfl⟩
theorem bind_none {σ : Sub} {j : Nat} (h : σ.get j = none) : Sub.le σ ((j, none) :: σ) /\ Sub.get ((j, none) :: σ) j = some none := by
 refine ⟨fun k y hk => ?_, by simp [Sub.get]⟩; simp only [Sub.get]
 split
 · rename_i e; subst e; rw [h] at hk; cases hk
 · exact hk
theorem gF (hS : Sim φ S H) (ho : ∀ x, own' x -> Own φ S x) : ∀ {ps : List BP} {j : Nat} {σ τ : Sub} {a : List Un}, kW S j ps σ = some (a, τ) ->
 Sub.le σ τ /\ ∀ υ, Sub.le τ υ -> Dx φ S own' n υ -> ∀ rest, ∀ i B', (cJ ps (a ++ rest))[i]? = some (some B') ->
  (υ.get (j + i) = some none /\ B'.empty) \/ ∃ id B, υ.get (j + i) = some (some id) /\ S.get id = some B /\ (∀ cs, BV φ H (Own φ S) B cs -> BV (φ.sub ban υ n) H own' B' cs) /\ (B.empty -> B'.empty)
 | [], j, σ, τ, a, h => by
  simp only [kW, Option.some.injEq, Prod.mk.injEq] at h; obtain ⟨rfl, rfl⟩ := h; exact ⟨Sub.le_refl _, fun υ _ _ rest i B' hi => by simp [cJ] at hi⟩
 | p :: ps, j, σ, τ, a, h => by
  simp only [kW] at h
  split at h
  · rename_i hg; obtain ⟨b1, b2⟩ := gF hS ho h; refine ⟨b1, fun υ hle hf rest i B' hi => ?_⟩; obtain ⟨g1, g2⟩ := u6 hg (a ++ rest); cases i with
    | zero =>
     simp only [cJ, List.getElem?_cons_zero, Option.some.injEq, g2] at hi; cases hi
    | succ i =>
     simp only [cJ, List.getElem?_cons_succ, g1, List.drop_zero] at hi; have := b2 υ hle hf rest i B' hi
     rwa [show j + 1 + i = j + (i + 1) by omega] at this
  · split at h
    · rename_i id hid
      split at h
      · rename_i B hB
        split at h
        · rename_i c τ1 h1
          split at h
          · rename_i d τ2 h2; cases h; obtain ⟨a1, a2, a3⟩ := GU (n := n) (ban := ban) hS ho h1; obtain ⟨b1, b2⟩ := gF hS ho h2; refine ⟨Sub.le_trans a1 b1, fun υ hle hf rest i B' hi => ?_⟩; cases i with
            | zero =>
             simp only [cJ, List.getElem?_cons_zero, Option.some.injEq] at hi; rw [List.append_assoc] at hi; obtain ⟨c1, c2⟩ := a3 υ (Sub.le_trans b1 hle) hf (d ++ rest) B' hi; exact .inr ⟨id, B, hle _ _ (b1 _ _ (a1 _ _ hid)), hB, c1, c2⟩
            | succ i =>
             simp only [cJ, List.getElem?_cons_succ] at hi; rw [List.append_assoc, <- a2, List.drop_left] at hi; have := b2 υ hle hf rest i B' hi
             rwa [show j + 1 + i = j + (i + 1) by omega] at this
          · cases h
        · cases h
      · cases h
    · rename_i hid
      split at h
      · rename_i d τ2 h2; cases h; obtain ⟨a2, a3⟩ := GK p; obtain ⟨b1, b2⟩ := gF hS ho h2; refine ⟨b1, fun υ hle hf rest i B' hi => ?_⟩; cases i with
        | zero =>
         simp only [cJ, List.getElem?_cons_zero, Option.some.injEq] at hi; rw [List.append_assoc] at hi; exact .inl ⟨hle _ _ (b1 _ _ hid), a3 _ _ hi⟩
        | succ i =>
         simp only [cJ, List.getElem?_cons_succ] at hi; rw [List.append_assoc, <- a2, List.drop_left] at hi; have := b2 υ hle hf rest i B' hi
         rwa [show j + 1 + i = j + (i + 1) by omega] at this
      · cases h
    · rename_i hid
      split at h
      · rename_i d τ2 h2; cases h; obtain ⟨a2, a3⟩ := GK p; obtain ⟨b1, b2⟩ := gF hS ho h2; obtain ⟨e1, e2⟩ := bind_none hid; refine ⟨Sub.le_trans e1 b1, fun υ hle hf rest i B' hi => ?_⟩; cases i with
        | zero =>
         simp only [cJ, List.getElem?_cons_zero, Option.some.injEq] at hi; rw [List.append_assoc] at hi; exact .inl ⟨hle _ _ (b1 _ _ e2), a3 _ _ hi⟩
        | succ i =>
         simp only [cJ, List.getElem?_cons_succ] at hi; rw [List.append_assoc, <- a2, List.drop_left] at hi; have := b2 υ hle hf rest i B' hi
         rwa [show j + 1 + i = j + (i + 1) by omega] at this
      · cases h
theorem CE : ∀ {σ : Sub} {j : Nat} {y : Option Nat}, σ.get j = some y -> (j, y) ∈ σ
 | [], j, y, h => by cases h
 | (i, x) :: σ, j, y, h => by
  simp only [Sub.get] at h
  split at h
  · rename_i e; cases h; subst e; simp
  · exact List.mem_cons_of_mem _ (CE h)
theorem po : ∀ {σ : Sub}, Sub.apart σ = true -> ∀ {j k id : Nat}, σ.get j = some (some id) -> σ.get k = some (some id) -> j = k
 | [], _, _, _, _, h, _ => by cases h
 | (i, x) :: r, ha, j, k, id, h1, h2 => by
  simp only [Sub.apart, Bool.and_eq_true] at ha; obtain ⟨ha1, ha2⟩ := ha; have mem : ∀ {σ : Sub} {j : Nat} {y : Option Nat}, σ.get j = some y -> (j, y) ∈ σ := by
   intro σ
   induction σ with
   | nil => intro j y h; cases h
   | cons p σ ih =>
    intro j y h; obtain ⟨i, x⟩ := p; simp only [Sub.get] at h
    split at h
    · rename_i e; cases h; subst e; simp
    · exact List.mem_cons_of_mem _ (ih h)
  simp only [Sub.get] at h1 h2
  by_cases e1 : j = i
  · by_cases e2 : k = i
    · rw [e1, e2]
    · rw [if_pos e1] at h1; rw [if_neg e2] at h2; cases h1; simp only [List.all_eq_true, Bool.or_eq_true, beq_iff_eq] at ha1; rcases ha1 _ (mem h2) with h | h
      · simp at h
      · exact absurd h e2
  · rw [if_neg e1] at h1
    by_cases e2 : k = i
    · rw [if_pos e2] at h2; cases h2; simp only [List.all_eq_true, Bool.or_eq_true, beq_iff_eq] at ha1; rcases ha1 _ (mem h1) with h | h
      · simp at h
      · exact absurd h e1
    · rw [if_neg e2] at h2; exact po ha2 h1 h2
theorem rf {σ : Sub} {n lk lock : Nat} (h : Sub.keys σ n lk lock = true) {j : Nat} {y : Option Nat} (hj : σ.get j = some y) : 1000000 <= j \/ (j < n /\ ∀ id, y = some id -> lk <= j -> lock <= id) := by
 have mem : ∀ {σ : Sub} {j : Nat} {y : Option Nat}, σ.get j = some y -> (j, y) ∈ σ := by
  intro σ
  induction σ with
  | nil => intro j y h; cases h
  | cons p σ ih =>
   intro j y h; obtain ⟨i, x⟩ := p; simp only [Sub.get] at h
   split at h
   · rename_i e; cases h; subst e; simp
   · exact List.mem_cons_of_mem _ (ih h)
 simp only [Sub.keys, List.all_eq_true] at h; have := h _ (mem hj); simp only [Bool.or_eq_true, Bool.and_eq_true, decide_eq_true_eq] at this; rcases this with h | ⟨h1, h2⟩
 · exact .inl h
 · refine .inr ⟨h1, ?_⟩
   rintro id rfl hlk
   have h2 : j < lk \/ lock <= id := by simpa using h2
   omega
theorem il : ∀ {ps : List BP} {j : Nat} {σ τ : Sub} {a : List Un}, kW S j ps σ = some (a, τ) -> (∀ σ1 σ2 p B b, BP.of S p B σ1 = some (b, σ2) -> Sub.le σ1 σ2) ->
 Sub.le σ τ /\ ∀ i p, ps[i]? = some p -> p.fU = false -> τ.get (j + i) = some none \/ ∃ id B, τ.get (j + i) = some (some id) /\ S.get id = some B
 | [], j, σ, τ, a, h, _ => by
  simp only [kW, Option.some.injEq, Prod.mk.injEq] at h; obtain ⟨rfl, rfl⟩ := h; exact ⟨Sub.le_refl _, fun i p hi => by simp at hi⟩
 | p :: ps, j, σ, τ, a, h, hle => by
  simp only [kW] at h
  split at h
  · rename_i hg; obtain ⟨b1, b2⟩ := il h hle; refine ⟨b1, fun i q hi hq => ?_⟩; cases i with
    | zero => simp at hi; subst hi; rw [hg] at hq; cases hq
    | succ i =>
     have := b2 i q (by simpa using hi) hq
     rwa [show j + 1 + i = j + (i + 1) by omega] at this
  · split at h
    · rename_i id hid
      split at h
      · rename_i B hB
        split at h
        · rename_i c τ1 h1
          split at h
          · rename_i d τ2 h2; cases h; have a1 := hle _ _ _ _ _ h1; obtain ⟨b1, b2⟩ := il h2 hle; refine ⟨Sub.le_trans a1 b1, fun i q hi hq => ?_⟩; cases i with
            | zero => exact .inr ⟨id, B, b1 _ _ (a1 _ _ hid), hB⟩
            | succ i =>
             have := b2 i q (by simpa using hi) hq
             rwa [show j + 1 + i = j + (i + 1) by omega] at this
          · cases h
        · cases h
      · cases h
    · rename_i hid
      split at h
      · rename_i d τ2 h2; cases h; obtain ⟨b1, b2⟩ := il h2 hle; refine ⟨b1, fun i q hi hq => ?_⟩; cases i with
        | zero => exact .inl (b1 _ _ hid)
        | succ i =>
         have := b2 i q (by simpa using hi) hq
         rwa [show j + 1 + i = j + (i + 1) by omega] at this
      · cases h
    · rename_i hid
      split at h
      · rename_i d τ2 h2; cases h; obtain ⟨b1, b2⟩ := il h2 hle; obtain ⟨e1, e2⟩ := bind_none hid; refine ⟨Sub.le_trans e1 b1, fun i q hi hq => ?_⟩; cases i with
        | zero => exact .inl (b1 _ _ e2)
        | succ i =>
         have := b2 i q (by simpa using hi) hq
         rwa [show j + 1 + i = j + (i + 1) by omega] at this
      · cases h
theorem mM : ∀ {ps : List BP} {us : List Un} {j : Nat} {B : aJ}, (cJ ps us)[j]? = some (some B) -> ∃ p, ps[j]? = some p /\ p.fU = false
 | [], us, j, B, h => by simp [cJ] at h
 | p :: ps, us, 0, B, h => by
  simp only [cJ, List.getElem?_cons_zero, Option.some.injEq] at h; refine ⟨p, by simp, ?_⟩; cases hg : p.fU with
  | false => rfl
  | true => rw [(u6 hg us).2] at h; cases h
 | p :: ps, us, j + 1, B, h => by
  simp only [cJ, List.getElem?_cons_succ] at h; simpa using mM h
theorem KH {p : Pn} {σ0 : Sub} {vs : List SV} {us : List Un} {τ : Sub} (h : p.of σ0 vs S = some (us, τ)) (hS : Sim φ S H) (hban : ∀ x, ban x -> Own φ S x)
 (hv : ∀ (id x : Nat) B, τ.get (1000000 + id) = some (some id) -> S.get id = some B -> φ id = some (some x) -> ¬ ban x) :
 Sim (φ.sub ban τ p.bG.length) (p.bQ us) H /\ (∀ ws, DVL φ H (Own φ S) vs ws -> DVL (φ.sub ban τ p.bG.length) H (Own (φ.sub ban τ p.bG.length) (p.bQ us)) (p.eA us) ws) /\
 (∀ x, dq (φ.sub ban τ p.bG.length) (p.bQ us) x -> ∃ (j id : Nat) (B : aJ), j < p.bG.length /\ τ.get j = some (some id) /\ S.get id = some B /\ φ id = some (some x)) /\
 (∀ j id, j < p.bG.length -> τ.get j = some (some id) -> (φ.sub ban τ p.bG.length) j = φ id) /\ Sub.le σ0 τ /\ Sub.apart τ = true /\ Sub.keys τ p.bG.length p.lk S.lock = true /\ (∀ q ∈ σ0, q.1 < p.bG.length) /\
 (∀ x, lP (φ.sub ban τ p.bG.length) (p.bQ us) x -> ∃ (j id : Nat) (B : aJ), p.lk <= j /\ j < p.bG.length /\ τ.get j = some (some id) /\ S.lock <= id /\ S.get id = some B /\ φ id = some (some x)) := by
 unfold Pn.of at h
 split at h
 · rename_i a σ h1
   split at h
   · rename_i c τ' h2
     split at h
     · rename_i hc; obtain ⟨hk, hap, hn, hin⟩ := hc; cases h; have hdummy : ∀ σ1 σ2 (p : BP) B b, BP.of S p B σ1 = some (b, σ2) -> Sub.le σ1 σ2 := fun σ1 σ2 p B b hb =>
        (GU (φ := φ) (H := H) (ban := fun _ => False) (n := 0) (own' := fun _ => False) hS (fun _ h => h.elim) hb).1
       obtain ⟨hle2, hids⟩ := il h2 hdummy; have hsz : (p.bQ (a ++ c)).size = p.bG.length := by show (eU _).size = _; rw [iW, pb]
       have hgetn : ∀ j B, (p.bQ (a ++ c)).get j = some B -> j < p.bG.length := fun j B h => by have := ag.aT h; omega
       have hat : ∀ j, j < p.bG.length -> ∀ y, τ.get j = some y -> (φ.sub ban τ p.bG.length) j = (match y with | some id => φ id | none => some none) := by
        intro j hj y hy; unfold Phi.sub; simp only [if_pos hj, hy]; cases y <;> rfl
       have hownw : ∀ x, lP (φ.sub ban τ p.bG.length) (p.bQ (a ++ c)) x -> ∃ (j id : Nat) (B : aJ), p.lk <= j /\ j < p.bG.length /\ τ.get j = some (some id) /\ S.lock <= id /\ S.get id = some B /\ φ id = some (some x) := by
        rintro x ⟨j, B, g0, g1, g2⟩
        have hj := hgetn j B g1; obtain ⟨q, q1, q2⟩ := mM (kK g1); rcases hids j q q1 q2 with g3 | ⟨id, B0, g3, g4⟩
        · rw [Nat.zero_add] at g3; rw [hat j hj _ g3] at g2; cases g2
        · rw [Nat.zero_add] at g3; rw [hat j hj _ g3] at g2; have g0 : p.lk <= j := g0; refine ⟨j, id, B0, g0, hj, g3, ?_, g4, g2⟩; rcases rf hk g3 with h | ⟨_, h⟩
          · have := hn.1; omega
          · exact h id rfl g0
       have hown0 : ∀ x, dq (φ.sub ban τ p.bG.length) (p.bQ (a ++ c)) x -> ∃ (j id : Nat) (B : aJ), j < p.bG.length /\ τ.get j = some (some id) /\ S.get id = some B /\ φ id = some (some x) := by
        rintro x ⟨j, B, g1, g2⟩
        have hj := hgetn j B g1; obtain ⟨q, q1, q2⟩ := mM (kK g1); rcases hids j q q1 q2 with g3 | ⟨id, B0, g3, g4⟩
        · rw [Nat.zero_add] at g3; rw [hat j hj _ g3] at g2; cases g2
        · rw [Nat.zero_add] at g3; rw [hat j hj _ g3] at g2; exact ⟨j, id, B0, hj, g3, g4, g2⟩
       have hown : ∀ x, Own (φ.sub ban τ p.bG.length) (p.bQ (a ++ c)) x -> Own φ S x := by
        rintro x (hx | hx)
        · exact hban x hx
        · obtain ⟨j, id, B, _, _, g1, g2⟩ := hown0 x hx; exact .inr ⟨id, B, g1, g2⟩
       have hfine : Dx φ S (Own (φ.sub ban τ p.bG.length) (p.bQ (a ++ c))) p.bG.length τ := by
        refine ⟨fun j y hy => ?_, fun id x hid ⟨B, hB⟩ hx => ?_⟩
        · rcases rf hk hy with h | ⟨h, _⟩
          · exact .inr h
          · exact .inl h
        · rintro (hb | hb)
          · exact hv id x B hid hB hx hb
          · obtain ⟨j, id', B', g0, g1, g2, g3⟩ := hown0 x hb; have := hS.inj id id' B B' x hB g2 hx g3; subst this; have := po hap hid g1; omega
       obtain ⟨hle1, ha, hvals⟩ := oO (n := p.bG.length) (ban := ban) hS hown p.JQ vs _ _ _ h1; obtain ⟨_, hblks⟩ := gF (n := p.bG.length) (ban := ban) hS hown h2; have hblk : ∀ j B', (p.bQ (a ++ c)).get j = some B' -> (τ.get j = some none /\ B'.empty) \/ ∃ id B, τ.get j = some (some id) /\ S.get id = some B /\
        (∀ cs, BV φ H (Own φ S) B cs -> BV (φ.sub ban τ p.bG.length) H (Own (φ.sub ban τ p.bG.length) (p.bQ (a ++ c))) B' cs) /\ (B.empty -> B'.empty) := by
        intro j B' hB'; have hB' := kK hB'; have := hblks τ (Sub.le_refl _) hfine [] j B' (by
         rw [List.append_nil]; have e : (a ++ c).drop p.size = c := by
          unfold Pn.size; rw [<- ha, List.drop_left]
         rw [e] at hB'; exact hB')
        rwa [Nat.zero_add] at this
       refine ⟨⟨?_, ?_, ?_, ?_, ?_, hS.cC, hS.eO⟩, ?_, hown0, fun j id hj hid => hat j hj _ hid, Sub.le_trans hle1 hle2, hap, hk, fun q hq => by simpa using List.all_eq_true.1 hin q hq, hownw⟩
       · intro j B' hB'; have hj := hgetn j B' hB'; rcases hblk j B' hB' with ⟨g1, g2⟩ | ⟨id, B, g1, g2, g3, g4⟩
         · exact .inl ⟨hat j hj _ g1, g2⟩
         · have e := hat j hj _ g1; rcases hS.blk id B g2 with ⟨g5, g6⟩ | ⟨x, d, g5, g6, g7, g8⟩
           · exact .inl ⟨by rw [e]; exact g5, g4 g6⟩
           · refine .inr ⟨x, d, by rw [e]; exact g5, g6, fun hlk => g7 ?_, g3 _ g8⟩; have hlk : p.lk <= j := hlk; rcases rf hk g1 with h | ⟨_, h⟩
             · have := hn.1; omega
             · exact h id rfl hlk
       · intro j j' B B' x g1 g2 g3 g4; have hj := hgetn j B g1; have hj' := hgetn j' B' g2; rcases hblk j B g1 with ⟨e1, _⟩ | ⟨id, C, e1, e2, _⟩
         · rw [hat j hj _ e1] at g3; cases g3
         · rcases hblk j' B' g2 with ⟨f1, _⟩ | ⟨id', C', f1, f2, _⟩
           · rw [hat j' hj' _ f1] at g4; cases g4
           · rw [hat j hj _ e1] at g3; rw [hat j' hj' _ f1] at g4; have := hS.inj id id' C C' x e2 f2 g3 g4; subst this; exact po hap e1 f1
       · intro j hj; rw [hsz] at hj; unfold Phi.sub; simp only [if_neg (show ¬ j < p.bG.length by omega)]
       · intro j x hx; unfold Phi.sub at hx; simp only at hx
         split at hx
         · split at hx
           · rename_i id _; exact hS.lt id x hx
           · cases hx
           · cases hx
         · cases hx
       · rw [hsz]; exact hn.2
       · intro ws hws; obtain ⟨c1, c2⟩ := hvals τ hle2 hfine c; refine ⟨by unfold Pn.eA; rw [c1]; exact hws.1, fun i s v g1 g2 => ?_⟩; have hi : i < vs.length := by rw [<- c1]; exact (List.getElem?_eq_some_iff.1 g1).1
         exact c2 i _ s (List.getElem?_eq_getElem hi) g1 v (hws.2 i _ v (List.getElem?_eq_getElem hi) g2)
     · cases h
   · cases h
 · cases h
theorem EW {p : Pn} {σ0 : Sub} {vs : List SV} {us : List Un} {τ : Sub} (h : p.of σ0 vs S = some (us, τ)) : p.bG.length <= 1000000 := by
 unfold Pn.of at h
 split at h
 · split at h
   · split at h
     · rename_i hc; exact hc.2.2.1.1
     · cases h
   · cases h
 · cases h
theorem Kn {p : Pn} {σ0 : Sub} {vs : List SV} {us : List Un} {τ : Sub} (h : p.of σ0 vs S = some (us, τ)) (hS : Sim φ S H) (hgn : p.bG.any BP.fU = false) {j id : Nat} (hj : j < p.bG.length) (hid : τ.get j = some (some id)) : ∃ B, S.get id = some B := by
 unfold Pn.of at h
 split at h
 · rename_i a σ h1
   split at h
   · rename_i c τ' h2
     split at h
     · rename_i hc; cases h; have hdummy : ∀ σ1 σ2 (p : BP) B b, BP.of S p B σ1 = some (b, σ2) -> Sub.le σ1 σ2 := fun σ1 σ2 p B b hb =>
        (GU (φ := φ) (H := H) (ban := fun _ => False) (n := 0) (own' := fun _ => False) hS (fun _ h => h.elim) hb).1
       obtain ⟨_, hids⟩ := il h2 hdummy; have hq : p.bG[j]? = some p.bG[j] := List.getElem?_eq_getElem hj; cases hg : (p.bG[j]).fU with
       | false =>
        rcases hids j _ hq hg with g3 | ⟨id', B0, g3, g4⟩
        · rw [Nat.zero_add, hid] at g3; cases g3
        · rw [Nat.zero_add, hid] at g3; cases g3; exact ⟨B0, g4⟩
       | true =>
        have := List.any_eq_false.1 hgn _ (List.getElem_mem hj); exact absurd hg this
     · cases h
   · cases h
 · cases h
end
end
end
end Go.Proofs.YtdbkoeefnodejaaGreat.Ev
namespace Go.Proofs.YtdbkoeefnodejaaGreat.Ev
noncomputable section
noncomputable section
open Go
structure ob (K : List Nat) (φ : Phi) (S : ag) (H : ae) (φ' : Phi) (S' : ag) (H' : ae) : Prop where
 sim : Sim φ' S' H'
 ban : φ'.ban = φ.ban
 own : ∀ x, x < H.size -> dq φ' S' x -> dq φ S x
 yM : ∀ x, x < H.size -> lP φ' S' x -> lP φ S x
 et : ∀ x, x < H.size -> ¬ lP φ S x -> H'.get x = H.get x
 len : ∀ x c', x < H.size -> H'.root.get x = some c' -> ∃ c, H.root.get x = some c /\ c'.cells.length = c.cells.length
 dj : H.size <= H'.size
 cC : H'.lock = H.lock
 eO : H'.hid = H.hid
 ent : ∀ j, j ∈ K -> ∀ y, φ j = some y -> φ' j = some y
section
variable {K : List Nat} {φ φ' φ'' : Phi} {S S' S'' : ag} {H H' H'' : ae}
theorem ob.trans (a : ob K φ S H φ' S' H') (b : ob K φ' S' H' φ'' S'' H'') : ob K φ S H φ'' S'' H'' where
 sim := b.sim
 ban := b.ban.trans a.ban
 own x h1 h2 := a.own x h1 (b.own x (Nat.lt_of_lt_of_le h1 a.dj) h2)
 yM x h1 h2 := a.yM x h1 (b.yM x (Nat.lt_of_lt_of_le h1 a.dj) h2)
 et x h1 h2 := (b.et x (Nat.lt_of_lt_of_le h1 a.dj) (fun h => h2 (a.yM x h1 h))).trans (a.et x h1 h2)
 len x c' h1 h2 := by
  obtain ⟨c1, h3, h4⟩ := b.len x c' (Nat.lt_of_lt_of_le h1 a.dj) h2; obtain ⟨c2, h5, h6⟩ := a.len x c1 h1 h3; exact ⟨c2, h5, h4.trans h6⟩
 dj := Nat.le_trans a.dj b.dj
 cC := b.cC.trans a.cC
 eO := b.eO.trans a.eO
 ent j hj y h := b.ent j hj y (a.ent j hj y h)
theorem Step.since (h : Step φ S H φ' S' H') : ob K φ S H φ' S' H' :=
 ⟨h.sim, h.ban, h.own, fun x hx => h.yM hx, h.et, h.len, h.dj, h.cC, h.eO, fun j _ y hy => h.le j y hy⟩
theorem NB.since (hn : NB φ S H) (h : ob K φ S H φ' S' H') : NB φ' S' H' := fun x hx => by
 rw [h.ban] at hx; obtain ⟨a, b⟩ := hn x hx; exact ⟨Nat.lt_of_lt_of_le a h.dj, fun ho => b (h.own x a ho)⟩
theorem CM : ∀ {K : List Nat} {j : Nat}, j ∈ K -> (idn K).get j = some (some j)
 | i :: K, j, h => by
  simp only [idn, List.map_cons, Sub.get]
  by_cases e : j = i
  · rw [if_pos e, e]
  · rw [if_neg e]; refine CM (K := K) ?_
    rcases List.mem_cons.1 h with h | h
    · exact absurd h e
    · exact h
theorem zQ {p : Pn} {vs : List SV} {us : List Un} {τ : Sub} (h : p.of (idn K) vs S = some (us, τ)) (hnb : NB φ S H) (hS : Sim φ S H) :
 ∃ φ', ob K φ S H φ' (p.bQ us) H /\ ∀ ws, DVL φ H (Own φ S) vs ws -> DVL φ' H (Own φ' (p.bQ us)) (p.eA us) ws := by
 obtain ⟨h1, h2, h3, h4, h5, _, h6, h7, h8⟩ := KH (ban := φ.ban) h hS (fun x hx => .inl hx) (fun id x B _ hB hx hb => (hnb x hb).2 ⟨id, B, hB, hx⟩); refine ⟨_, ⟨h1, rfl, fun x _ hx => ?_, fun x _ hx => ?_, fun _ _ _ => rfl, fun x c' _ h => ⟨c', h, rfl⟩, Nat.le_refl _, rfl, rfl, fun j hj y hy => ?_⟩, h2⟩
 · obtain ⟨j, id, B, _, _, g1, g2⟩ := h3 x hx; exact ⟨id, B, g1, g2⟩
 · obtain ⟨j, id, B, _, _, _, g0, g1, g2⟩ := h8 x hx; exact ⟨id, B, g0, g1, g2⟩
 · rw [h4 j j (h7 (j, some j) (List.mem_map.2 ⟨j, hj, rfl⟩)) (h5 _ _ (CM hj))]; exact hy
end
structure aP where
 tags : List Tag
 pat : Pn
 F : List Un -> Option (List Un)
def KL (ex : Pn) (K : List Nat) (vs : List SV) (S : ag) : Option (List Un) :=
 match ex.of (idn K) vs S with
 | some (us, _) => some us
 | none => none
def aP.at (t : aP) (K : List Nat) (s : SSt) : Option (List Un) :=
 match t.pat.of (idn K) s.fr s.hp with
 | some (us, _) => t.F us
 | none => none
def DR (P : Program) (rv : List ResultVar) (ex : Pn) (K : List Nat) (W : List aP) (its : List Item) (s : SSt) : Option (List Un) :=
 match its with
 | [] => ng P s.hp s.fr rv fun vs => KL ex K vs s.hp
 | _ =>
  match W.find? fun t => decide (t.tags = its.map Item.tag) with
  | some t => t.at K s
  | none => none
section
variable {P : Program} {L : List FuncId} {O : bh} {kn : FuncId -> Bool} {T : ou} {K : List Nat} {ex : Pn} {rv : List ResultVar} {body : Code}
def Mp (P : Program) (L : List FuncId) (O : bh) (rv : List ResultVar) (ex : Pn) (K : List Nat) (its : List Item) (fv : List Value) (H : ae) (φ : Phi) (S : ag) (ys : List Un) : Prop :=
 ∃ y H' φ', gX P L O rv its ⟨fv, H⟩ (y, H') /\ ob K φ S H φ' (ex.bQ ys) H' /\ DV φ' H' (Own φ' (ex.bQ ys)) (mz (ex.eA ys)) y
def sW (P : Program) (L : List FuncId) (O : bh) (rv : List ResultVar) (ex : Pn) (K : List Nat) (body : Code) (t : aP) : Prop :=
 ∀ its φ fr S fv H ys, cB body its -> its.map Item.tag = t.tags -> NB φ S H -> Sim φ S H -> DVL φ H (Own φ S) fr fv -> t.at K ⟨fr, S⟩ = some ys -> Mp P L O rv ex K its fv H φ S ys
theorem AF {W : List aP} (hW : ∀ t ∈ W, sW P L O rv ex K body t) {its : List Item} {φ : Phi} {fr : List SV} {S : ag} {fv : List Value} {H : ae} {ys : List Un}
 (ha : cB body its) (hnb : NB φ S H) (hS : Sim φ S H) (hf : DVL φ H (Own φ S) fr fv) (h : DR P rv ex K W its ⟨fr, S⟩ = some ys) : Mp P L O rv ex K its fv H φ S ys := by
 unfold DR at h
 split at h
 · obtain ⟨ss, vs, h1, h2, h3⟩ := gr hS hf h; unfold KL at h3
   split at h3
   · rename_i us τ hof; cases h3; obtain ⟨φ', g1, g2⟩ := zQ hof hnb hS; exact ⟨jn vs, H, φ', ⟨(.normal, ⟨fv, H⟩), .nil, by simp only [fin, h1]; rfl⟩, g1, qf (g2 vs h2)⟩
   · cases h3
 · split at h
   · rename_i t ht; have hd := List.find?_some ht; exact hW t (List.mem_of_find?_eq_some ht) its φ fr S fv H ys ha (of_decide_eq_true hd).symm hnb hS hf h
   · cases h
theorem KF (hkn : ∀ g, kn g = false -> ∀ args, O g args = none) (hT : dg P L O T) {W : List aP} (hW : ∀ t ∈ W, sW P L O rv ex K body t) {d n : Nat} {stop : List Nat -> Bool} {its : List Item} {φ : Phi} {fr : List SV} {S : ag} {fv : List Value} {H : ae} {ys : List Un}
 (ha : cB body its) (hnb : NB φ S H) (hS : Sim φ S H) (hf : DVL φ H (Own φ S) fr fv) (h : eZ P L T (rZ P L T kn d) stop n its ⟨fr, S⟩ (DR P rv ex K W) = some ys) : Mp P L O rv ex K its fv H φ S ys := by
 obtain ⟨its', φ1, fr1, S1, fv1, H1, hk, ha1, hst, hf1, hm⟩ := gA hT (pD hkn hT d) h ha (fun _ => hnb) hS hf; obtain ⟨y, H', φ', g1, g2, g3⟩ := AF hW ha1 (hnb.step hst) hst.sim hf1 hk; exact ⟨y, H', φ', hm _ _ g1, hst.since.trans g2, g3⟩
theorem aP.step (hkn : ∀ g, kn g = false -> ∀ args, O g args = none) (hT : dg P L O T) {W : List aP} {t : aP} {p : List Nat} {rest : List Tag} {its : List Item} {b : Code} {d n : Nat} {stop : List Nat -> Bool}
 (ht : t.tags = .lp p :: rest) (hi : eN body rest = some its) (hb : nav body (0 :: p) = some b) (hW : ∀ t ∈ W, sW P L O rv ex K body t)
 (h : ∀ us ys, t.F us = some ys -> eZ P L T (rZ P L T kn d) stop n (.code (0 :: p) b :: .lp p b :: its) ⟨t.pat.eA us, t.pat.bQ us⟩ (DR P rv ex K W) = some ys) : sW P L O rv ex K body t := by
 intro its' φ fr S fv H ys ha htag hnb hS hf hat; obtain ⟨a1, a2⟩ := iZ hi; have hl : Tag.item body (.lp p) = some (.lp p b) := by simp [Tag.item, hb]
 have : its' = .lp p b :: its := by
  refine cB.same ha (.cons (i := .lp p b) hl a1) ?_
  rw [htag, ht]; simp [Item.tag, a2]
 subst this; unfold aP.at at hat
 split at hat
 · rename_i us τ hof; obtain ⟨φ1, g1, g2⟩ := zQ hof hnb hS; obtain ⟨y, H', φ', k1, k2, k3⟩ := KF hkn hT hW (.cons (by simp [Item.tag, Tag.item, hb]) (.cons (i := .lp p b) hl a1)) (hnb.since g1) g1.sim (g2 fv hf) (h us ys hat); exact ⟨y, H', φ', k1.of fun q hq => .round hq, g1.trans k2, k3⟩
 · cases hat
def rY (P : Program) (L : List FuncId) (O : bh) (g : FuncId) (en ex : Pn) (us ys : List Un) : Prop :=
 ∀ φ H vs, NB φ (en.bQ us) H -> Sim φ (en.bQ us) H -> DVL φ H (Own φ (en.bQ us)) (en.eA us) vs ->
  ∃ N y H' φ', bj P L O N g vs H = some (y, H') /\ ob (bA en ex) φ (en.bQ us) H φ' (ex.bQ ys) H' /\ DV φ' H' (Own φ' (ex.bQ ys)) (mz (ex.eA ys)) y
end
class Uns (A : Type) where
 enc : A -> List Un
 dec : List Un -> Option (A × List Un)
 ok : ∀ us a r, dec us = some (a, r) -> us = enc a ++ r
instance : Uns Int := ⟨fun n => [.i n], fun us => match us with | .i n :: r => some (n, r) | _ => none, fun us a r h => by split at h <;> simp_all⟩
instance : Uns Bool := ⟨fun n => [.b n], fun us => match us with | .b n :: r => some (n, r) | _ => none, fun us a r h => by split at h <;> simp_all⟩
instance : Uns (List Int) := ⟨fun n => [.l n], fun us => match us with | .l n :: r => some (n, r) | _ => none, fun us a r h => by split at h <;> simp_all⟩
instance : Uns (List Dat) := ⟨fun n => [.d n], fun us => match us with | .d n :: r => some (n, r) | _ => none, fun us a r h => by split at h <;> simp_all⟩
instance : Uns Unit := ⟨fun _ => [], fun us => some ((), us), fun us a r h => by simp_all⟩
instance {A B : Type} [Uns A] [Uns B] : Uns (A × B) := ⟨fun p => Uns.enc p.1 ++ Uns.enc p.2,
 fun us => match (Uns.dec us : Option (A × List Un)) with | some (a, r) => (match (Uns.dec r : Option (B × List Un)) with | some (b, s) => some ((a, b), s) | none => none) | none => none,
 fun us p r h => by
  split at h
  · rename_i a r1 h1
    split at h
    · rename_i b s h2; cases h; rw [Uns.ok _ _ _ h1, Uns.ok _ _ _ h2, List.append_assoc]
    · cases h
  · cases h⟩
abbrev Uns.via {A B : Type} [Uns B] (f : A -> B) (g : B -> A) (h : ∀ b, f (g b) = b) : Uns A := ⟨fun a => Uns.enc (f a), fun us => match (Uns.dec us : Option (B × List Un)) with | some (b, r) => some (g b, r) | none => none, fun us a r e => by
 split at e
 · rename_i b r1 h1; cases e; rw [Uns.ok _ _ _ h1, h]
 · cases e⟩
def onU {A R : Type} [Uns A] (f : A -> Option R) (us : List Un) : Option R :=
 match (Uns.dec us : Option (A × List Un)) with
 | some (a, r) => (match r with | [] => f a | _ => none)
 | none => none
theorem og {A R : Type} [Uns A] {f : A -> Option R} {us : List Un} {r : R} (h : onU f us = some r) : ∃ a, us = Uns.enc a /\ f a = some r := by
 unfold onU at h
 split at h
 · rename_i a s h1
   split at h
   · exact ⟨a, by rw [Uns.ok _ _ _ h1]; simp, h⟩
   · cases h
 · cases h
structure aA where
 T : ou
 g : FuncId
 en : Pn
 ex : Pn
 un : List (List Nat)
def OY : List Nat -> List Nat -> Bool
 | [], [] => true
 | a :: r, b :: s => a == b && OY r s
 | _, _ => false
def BU (un : List (List Nat)) (p : List Nat) : Bool := !(un.any fun q => OY p q)
def frm (n : Nat) (l : List (Nat × VP)) : List VP := (List.range n).map fun i => (l.lookup i).getD .any
section
variable (P : Program) (L : List FuncId) (O : bh) (kn : FuncId -> Bool) (F : aA)
def aA.body : Code := fY (cd P F.g)
def aA.rv : List ResultVar := (cd P F.g).results.toList
def aA.K : List Nat := bA F.en F.ex
def aA.ez (t : aP) : Prop := sW P L O (F.rv P) F.ex F.K (F.body P) t
def aA.BB (tg : List Tag) (pat : Pn) (us : List Un) (W : List aP) : Option (List Un) :=
 match tg with
 | .lp p :: rest =>
  (match nav (F.body P) (0 :: p), eN (F.body P) rest with
   | some b, some its => eZ P L F.T (rZ P L F.T kn 20) (BU F.un) 100000 (.code (0 :: p) b :: .lp p b :: its) ⟨pat.eA us, pat.bQ us⟩ (DR P (F.rv P) F.ex F.K W)
   | _, _ => none)
 | _ => none
def aA.Bl (us : List Un) (W : List aP) : Option (List Un) :=
 eZ P L F.T (rZ P L F.T kn 20) (BU F.un) 100000 [.code [] (F.body P)] ⟨F.en.eA us ++ List.replicate ((cd P F.g).ntmps - (F.en.eA us).length) (.tup []), F.en.bQ us⟩ (DR P (F.rv P) F.ex F.K W)
end
def bc {A : Type} (Fs : (A -> Option (List Un)) -> A -> Option (List Un)) : Nat -> A -> Option (List Un)
 | 0 => fun _ => none
 | n + 1 => Fs (bc Fs n)
section
variable {P : Program} {L : List FuncId} {O : bh} {kn : FuncId -> Bool} {F : aA}
theorem aw {A : Type} [Uns A] (hkn : ∀ g, kn g = false -> ∀ args, O g args = none) (hT : dg P L O F.T) {tg : List Tag} {pat : Pn} {Fs : (A -> Option (List Un)) -> A -> Option (List Un)} (W : (A -> Option (List Un)) -> List aP)
 (hW : ∀ k, F.ez P L O ⟨tg, pat, onU k⟩ -> ∀ t ∈ W k, F.ez P L O t)
 (G : ∀ k a, F.BB P L kn tg pat (Uns.enc a) (W k) = Fs k a) (n : Nat) : F.ez P L O ⟨tg, pat, onU (bc Fs n)⟩ := by
 induction n with
 | zero =>
  intro its φ fr S fv H ys _ _ _ _ _ hv; unfold aP.at at hv
  split at hv
  · obtain ⟨a, _, h⟩ := og hv; cases h
  · cases hv
 | succ n ih =>
  intro its φ fr S fv H ys ha htag hnb hS hf hat; have hat0 := hat; unfold aP.at at hat
  split at hat
  · obtain ⟨a, _, h⟩ := og hat; have h : Fs (bc Fs n) a = some ys := h; rw [<- G] at h; unfold aA.BB at h
    split at h
    · rename_i p rest
      split at h
      · rename_i b its2 hb hi; refine aP.step (W := W (bc Fs n)) (d := 20) (n := 100000) (stop := BU F.un) hkn hT rfl hi hb (hW _ ih) (fun us zs hv => ?_) its φ fr S fv H ys ha htag hnb hS hf hat0; obtain ⟨a', e, hv2⟩ := og (f := bc Fs (n + 1)) hv; have hv2 : Fs (bc Fs n) a' = some zs := hv2; rw [<- G] at hv2; unfold aA.BB at hv2; simp only [hb, hi] at hv2; rw [e]; exact hv2
      · cases h
    · cases h
  · cases hat
theorem aA.Kz (hkn : ∀ g, kn g = false -> ∀ args, O g args = none) (hT : dg P L O F.T) {us ys : List Un} {W : List aP} (hk : kn F.g = false) (hg : (P.funcs[F.g]?).isSome = true) (hb : (cd P F.g).body.isSome = true)
 (hW : ∀ t ∈ W, F.ez P L O t) (h : F.Bl P L kn us W = some ys) : rY P L O F.g F.en F.ex us ys := by
 obtain ⟨fn, hg⟩ := Option.isSome_iff_exists.1 hg; have hf : cd P F.g = fn := by simp [cd, hg]
 unfold aA.ez aA.body aA.rv aA.K at hW; unfold aA.Bl aA.body aA.rv aA.K at h; rw [hf] at hb hW h; obtain ⟨c, hb⟩ := Option.isSome_iff_exists.1 hb; have hc : fY fn = c := by simp [fY, hb]
 rw [hc] at hW h; intro φ H vs hnb hS hd; obtain ⟨y, H', φ', h1, h2, h3⟩ := KF hkn hT hW rC hnb hS (vt hd fn.ntmps) h; obtain ⟨N, hN⟩ := hY (hkn F.g hk _) hg hb h1; exact ⟨N, y, H', φ', hN, h2, h3⟩
end
end
end
end Go.Proofs.YtdbkoeefnodejaaGreat.Ev
namespace Go.Proofs.YtdbkoeefnodejaaGreat.Ev
noncomputable section
noncomputable section
open Go
mutual
def zz (ρ : Nat -> Nat) : SV -> SV
 | .ptr id row w col => .ptr (ρ id) row w col
 | .buf id w ex => .buf (ρ id) w ex
 | .sl id off len w => .sl (ρ id) off len w
 | .np id w col n => .np (ρ id) w col n
 | .fn g x y => .fn g (kv ρ x) (kv ρ y)
 | .agg l => .agg (kv ρ l)
 | .tup l => .tup (kv ρ l)
 | v => v
def kv (ρ : Nat -> Nat) : List SV -> List SV
 | [] => []
 | v :: l => zz ρ v :: kv ρ l
end
mutual
def uv : SV -> Bool
 | .deep _ => false
 | .dp _ _ _ => false
 | .fn _ x y => fW x && fW y
 | .agg l => fW l
 | .tup l => fW l
 | _ => true
def fW : List SV -> Bool
 | [] => true
 | v :: l => uv v && fW l
end
def Sch.flat : Sch -> Bool
 | .int _ => true
 | .bool => true
 | _ => false
def EK : aD -> Bool
 | .ints _ _ => true
 | .af l _ => l.all Sch.flat
def yp (ρ : Nat -> Nat) : aJ -> aJ
 | .cells l => .cells (kv ρ l)
 | .cont c => .cont c
 | .cW id w col rows => .cW (ρ id) w col rows
def GG : aJ -> Bool
 | .cells l => fW l
 | .cont c => EK c
 | .cW _ _ _ _ => true
theorem dJ (ρ : Nat -> Nat) : ∀ (l : List SV) (i : Nat), (kv ρ l)[i]? = (l[i]?).map (zz ρ)
 | [], i => by simp [kv]
 | v :: l, 0 => by simp [kv]
 | v :: l, i + 1 => by simp only [kv, List.getElem?_cons_succ]; exact dJ ρ l i
theorem dG (ρ : Nat -> Nat) : ∀ (l : List SV), (kv ρ l).length = l.length
 | [] => rfl
 | v :: l => by simp [kv, dG ρ l]
theorem fX : ∀ {l : List SV} {i : Nat} {s : SV}, fW l = true -> l[i]? = some s -> uv s = true
 | [], i, s, _, h => by simp at h
 | v :: l, 0, s, hl, h => by simp only [fW, Bool.and_eq_true] at hl; simp at h; subst h; exact hl.1
 | v :: l, i + 1, s, hl, h => by simp only [fW, Bool.and_eq_true] at hl; exact fX hl.2 (by simpa using h)
theorem FY {c : aD} (h : EK c = true) {r j : Nat} {s : SV} (hs : (c.row r)[j]? = some s) : (∃ k n, s = .i k n) \/ ∃ x, s = .b x := by
 cases c with
 | ints k xs =>
  simp only [aD.row] at hs; cases j with
  | zero => simp at hs; subst hs; exact .inl ⟨_, _, rfl⟩
  | succ j => simp at hs
 | af l xs =>
  simp only [aD.row] at hs; rw [fi] at hs; cases hl : l[j]? with
  | none => rw [hl] at hs; cases hs
  | some sc =>
   rw [hl] at hs; cases hs; simp only [EK, List.all_eq_true] at h; have := h sc (List.mem_of_getElem? hl); cases sc with
   | int k => exact .inl ⟨_, _, rfl⟩
   | bool => exact .inr ⟨_, rfl⟩
   | ints k => cases this
   | af l => cases this
section
variable {φ φ' φ'' : Phi} {H H' : ae} {own own' : Nat -> Prop} {ρ : Nat -> Nat}
theorem DV.ren (hρ : ∀ j y, φ j = some y -> φ' (ρ j) = some y) {s : SV} {v : Value} (h : DV φ H own s v) : uv s = true -> DV φ' H own' (zz ρ s) v := by
 induction h with
 | any v => intro _; exact .any v
 | i k n => intro _; exact .i k n
 | b x => intro _; exact .b x
 | str s => intro _; exact .str s
 | fL => intro _; exact .fL
 | dn => intro _; exact .dn
 | jD => intro _; exact .jD
 | sr => intro _; exact .sr
 | ptr id row w col x h => intro _; exact .ptr _ row w col x (hρ _ _ h)
 | buf id w ex x n sp h hn hs => intro _; exact .buf _ w ex x n sp (hρ _ _ h) hn hs
 | cN id w h => intro _; exact .cN _ w (hρ _ _ h)
 | sl id off len w x o sp cap h ho hs hc hin => intro _; exact .sl _ off len w x o sp cap (hρ _ _ h) ho hs hc hin
 | cY id w h => intro _; exact .cY _ w (hρ _ _ h)
 | cp c h => intro h; cases h
 | deep c x o sp cap blk hs hc hb ho hl _ ih => intro h; cases h
 | dp c row col x o blk hb ho hl _ ih => intro h; cases h
 | gV id w col n hn => intro _; exact .gV _ w col n hn
 | np id w col x n hn h => intro _; exact .np _ w col x n hn (hρ _ _ h)
 | fn g x y x' y' hx hy _ _ ix iy =>
  intro h; simp only [uv, Bool.and_eq_true] at h; refine .fn g _ _ x' y' (by rw [dG]; exact hx) (by rw [dG]; exact hy) (fun i s v h1 h2 => ?_) (fun i s v h1 h2 => ?_)
  · rw [dJ, Option.map_eq_some_iff] at h1; obtain ⟨u, h3, rfl⟩ := h1; exact ix i u v h3 h2 (fX h.1 h3)
  · rw [dJ, Option.map_eq_some_iff] at h1; obtain ⟨u, h3, rfl⟩ := h1; exact iy i u v h3 h2 (fX h.2 h3)
 | agg l x' hx _ ix =>
  intro h; refine .agg _ x' (by rw [dG]; exact hx) (fun i s v h1 h2 => ?_); rw [dJ, Option.map_eq_some_iff] at h1; obtain ⟨u, h3, rfl⟩ := h1; exact ix i u v h3 h2 (fX (by simpa [uv] using h) h3)
 | tup l x' hx _ ix =>
  intro h; refine .tup _ x' (by rw [dG]; exact hx) (fun i s v h1 h2 => ?_); rw [dJ, Option.map_eq_some_iff] at h1; obtain ⟨u, h3, rfl⟩ := h1; exact ix i u v h3 h2 (fX (by simpa [uv] using h) h3)
theorem ui {s : SV} (h : flat s) : zz ρ s = s := by cases s <;> first | rfl | exact h.elim
theorem DV.K6 (hρ : ∀ j y, φ j = some y -> φ' (ρ j) = some y) (ho : ∀ x c, H.get x = some c -> ¬ own x -> ¬ own' x) {s : SV} {v : Value} (h : DV φ H own s v) : DV φ' H own' (zz ρ s) v := by
 induction h with
 | any v => exact .any v
 | i k n => exact .i k n
 | b x => exact .b x
 | str s => exact .str s
 | fL => exact .fL
 | dn => exact .dn
 | jD => exact .jD
 | sr => exact .sr
 | ptr id row w col x h => exact .ptr _ row w col x (hρ _ _ h)
 | buf id w ex x n sp h hn hs => exact .buf _ w ex x n sp (hρ _ _ h) hn hs
 | cN id w h => exact .cN _ w (hρ _ _ h)
 | sl id off len w x o sp cap h h1 hs hc hin => exact .sl _ off len w x o sp cap (hρ _ _ h) h1 hs hc hin
 | cY id w h => exact .cY _ w (hρ _ _ h)
 | cp c h => exact .cp c h
 | deep c x o sp cap blk hs hc hb h1 hl _ ih =>
  refine .deep c x o sp cap blk hs hc hb (ho x blk hb h1) hl (fun r hr j s hj v hv => ?_); have := ih r hr j s hj v hv
  rwa [ui (gJ hj)] at this
 | dp c row col x o blk hb h1 hl _ ih =>
  refine .dp c row col x o blk hb (ho x blk hb h1) hl (fun r hr j s hj v hv => ?_); have := ih r hr j s hj v hv
  rwa [ui (gJ hj)] at this
 | gV id w col n hn => exact .gV _ w col n hn
 | np id w col x n hn h => exact .np _ w col x n hn (hρ _ _ h)
 | fn g x y x' y' hx hy _ _ ix iy =>
  refine .fn g _ _ x' y' (by rw [dG]; exact hx) (by rw [dG]; exact hy) (fun i s v h1 h2 => ?_) (fun i s v h1 h2 => ?_)
  · rw [dJ, Option.map_eq_some_iff] at h1; obtain ⟨u, h3, rfl⟩ := h1; exact ix i u v h3 h2
  · rw [dJ, Option.map_eq_some_iff] at h1; obtain ⟨u, h3, rfl⟩ := h1; exact iy i u v h3 h2
 | agg l x' hx _ ix =>
  refine .agg _ x' (by rw [dG]; exact hx) (fun i s v h1 h2 => ?_); rw [dJ, Option.map_eq_some_iff] at h1; obtain ⟨u, h3, rfl⟩ := h1; exact ix i u v h3 h2
 | tup l x' hx _ ix =>
  refine .tup _ x' (by rw [dG]; exact hx) (fun i s v h1 h2 => ?_); rw [dJ, Option.map_eq_some_iff] at h1; obtain ⟨u, h3, rfl⟩ := h1; exact ix i u v h3 h2
theorem BV.ren (hρ : ∀ j y, φ j = some y -> φ' (ρ j) = some y) {B : aJ} {cs : List Value} (h : BV φ H own B cs) (hl : GG B = true \/ ∀ x c, H.get x = some c -> ¬ own x -> ¬ own' x) : BV φ' H own' (yp ρ B) cs := by
 cases B with
 | cells l =>
  refine ⟨by rw [dG]; exact h.1, fun i s v h1 h2 => ?_⟩; rw [dJ, Option.map_eq_some_iff] at h1; obtain ⟨u, h3, rfl⟩ := h1; rcases hl with hl | hl
  · exact (h.2 i u v h3 h2).ren hρ (fX hl h3)
  · exact (h.2 i u v h3 h2).K6 hρ hl
 | cont c =>
  refine ⟨h.1, fun r hr j s hs v hv => ?_⟩; have := h.2 r hr j s hs v hv; rcases hl with hl | hl
  · rcases FY hl hs with ⟨k, n, rfl⟩ | ⟨x, rfl⟩
    · cases this; exact .i _ _
    · cases this; exact .b _
  · have := this.K6 (ρ := ρ) hρ hl
    rwa [ui (gJ hs)] at this
 | cW id w col rows =>
  refine ⟨h.1, fun r v hr hv => ?_⟩; have := h.2 r v hr hv; cases this with
  | gV _ _ _ _ hn => exact .gV _ _ _ _ hn
  | np _ _ _ x _ hn hx => exact .np _ _ _ x _ hn (hρ _ _ hx)
theorem Bz {B : aJ} (h : B.empty) : (yp ρ B).empty := by cases B <;> exact h
end
def dQ : List (Nat × Option aJ) -> Nat -> Option (Option aJ)
 | [], _ => none
 | (j, b) :: r, k => if k = j then some b else dQ r k
def gY : List (Nat × Option aJ) -> ag -> ag
 | [], S => S
 | (j, b) :: r, S => (gY r S).put j b
theorem mq : ∀ (l : List (Nat × Option aJ)) (S : ag), (gY l S).size = S.size /\ (gY l S).lock = S.lock /\ (gY l S).hid = S.hid
 | [], S => ⟨rfl, rfl, rfl⟩
 | p :: r, S => mq r S
theorem jK : ∀ (l : List (Nat × Option aJ)) (S : ag) (k : Nat), (gY l S).root.get k = match dQ l k with | some b => b | none => S.root.get k
 | [], S, k => rfl
 | (j, b) :: r, S, k => by
  simp only [gY, dQ]; rw [ag.b9]
  split
  · rfl
  · exact jK r S k
theorem lG : ∀ {l : List (Nat × Option aJ)} {k : Nat} {b : Option aJ}, dQ l k = some b -> (k, b) ∈ l
 | [], k, b, h => by cases h
 | (j, c) :: r, k, b, h => by
  simp only [dQ] at h
  split at h
  · rename_i e; cases h; subst e; simp
  · exact List.mem_cons_of_mem _ (lG h)
theorem fG : ∀ {l : List (Nat × Option aJ)} {k : Nat}, dQ l k = none -> ∀ b, (k, b) ∉ l
 | [], k, h, b => by simp
 | (j, c) :: r, k, h, b => by
  simp only [dQ] at h
  split at h
  · cases h
  · rename_i e; intro hm; rcases List.mem_cons.1 hm with hm | hm
    · cases hm; exact e rfl
    · exact fG h b hm
def uN (K : List Nat) (τ : Sub) (j : Nat) : Option Nat := match K.contains j with | true => (match τ.get j with | some (some id) => some id | _ => none) | false => none
def ku (K : List Nat) (τ : Sub) (n j : Nat) : Nat := match uN K τ j with | some id => id | none => n + j
def B7 (lk : Nat) (K : List Nat) (τ : Sub) (ρ : Nat -> Nat) (Bs : List (Option aJ)) (n : Nat) : List (Nat × Option aJ) :=
 (List.range n).filterMap fun j => match decide (lk <= j) with
  | true => (match τ.get j with | some (some id) => some (id, match K.contains j with | true => ((Bs[j]?).join).map (yp ρ) | false => none) | _ => none)
  | false => none
def ow (τ : Sub) : List (Nat × Option aJ) := τ.filterMap fun p => match decide (1000000 <= p.1) with | true => (match p.2 with | some id => some (id, none) | none => none) | false => none
def GD (τ : Sub) (S : ag) : Bool := (ow τ).all fun p => decide (S.lock <= p.1) && (S.get p.1).isSome
def iV (lk : Nat) (K : List Nat) (τ : Sub) (ρ : Nat -> Nat) : Nat -> List (Option aJ) -> List (Option aJ)
 | _, [] => []
 | j, b :: r => (match decide (lk <= j) with
  | true => (match uN K τ j with | some _ => none | none => b.map (yp ρ))
  | false => none) :: iV lk K τ ρ (j + 1) r
theorem v5 (lk : Nat) (K : List Nat) (τ : Sub) (ρ : Nat -> Nat) : ∀ (j : Nat) (l : List (Option aJ)), (iV lk K τ ρ j l).length = l.length
 | _, [] => rfl
 | j, b :: r => by simp [iV, v5 lk K τ ρ]
theorem vZ {lk : Nat} {K : List Nat} {τ : Sub} {ρ : Nat -> Nat} : ∀ {l : List (Option aJ)} {j i : Nat} {B : aJ}, (iV lk K τ ρ j l)[i]? = some (some B) -> (uN K τ (j + i) = none /\ lk <= j + i) /\ ∃ C, l[i]? = some (some C) /\ B = yp ρ C
 | [], j, i, B, h => by simp [iV] at h
 | b :: r, j, 0, B, h => by
  simp only [iV, List.getElem?_cons_zero, Option.some.injEq] at h
  split at h
  · rename_i hl
    split at h
    · cases h
    · rename_i e; rw [Option.map_eq_some_iff] at h; obtain ⟨C, rfl, rfl⟩ := h; exact ⟨⟨e, of_decide_eq_true hl⟩, C, by simp, rfl⟩
  · cases h
 | b :: r, j, i + 1, B, h => by
  simp only [iV, List.getElem?_cons_succ] at h; obtain ⟨h1, C, h2, h3⟩ := vZ h; exact ⟨by rw [show j + (i + 1) = j + 1 + i by omega]; exact h1, C, by simpa using h2, h3⟩
theorem rV : ∀ {ps : List BP} {us : List Un} {j : Nat} {p : BP}, ps[j]? = some p -> p.fU = false -> ∃ B, (cJ ps us)[j]? = some (some B)
 | [], us, j, p, h, _ => by simp at h
 | q :: ps, us, 0, p, h, hg => by
  simp only [List.getElem?_cons_zero, Option.some.injEq] at h; subst h; simp only [cJ, List.getElem?_cons_zero, Option.some.injEq]; unfold BP.to
  split <;> first | exact ⟨_, rfl⟩ | cases hg
 | q :: ps, us, j + 1, p, h, hg => by
  simp only [cJ, List.getElem?_cons_succ]; exact rV (by simpa using h) hg
def ny (fc : List (Nat × Option aJ)) (news : List (Option aJ)) (S : ag) : ag := news.foldl ag.mo (gY fc S)
structure mn where
 en : Pn
 ex : Pn
 f : List Un -> Option (Bool × List Un)
def KJ : Option aJ -> Bool
 | some B => GG B
 | none => true
def mn.lean (e : mn) (ys : List Un) : Bool := fW (e.ex.eA ys) && (cJ e.ex.bG (ys.drop e.ex.size)).all KJ
def L7 (en ex : Pn) : Bool := (List.range en.lk).all (fun j => (bA en ex).contains j) && decide (ex.lk <= en.lk)
def mn.run (e : mn) (args : List SV) (S : ag) : Option (Bool × SV × ag) :=
 match e.en.bG.any BP.fU || !L7 e.en e.ex, e.en.of [] args S with
 | false, some (us, τ) =>
  (match e.f us with
   | some (c, ys) =>
    (match e.lean ys with
     | true => some (c, zz (ku (bA e.en e.ex) τ S.size) (mz (e.ex.eA ys)),
      ny (B7 e.en.lk (bA e.en e.ex) τ (ku (bA e.en e.ex) τ S.size) (cJ e.ex.bG (ys.drop e.ex.size)) e.en.bG.length) (iV e.en.lk (bA e.en e.ex) τ (ku (bA e.en e.ex) τ S.size) 0 (cJ e.ex.bG (ys.drop e.ex.size))) S)
     | false =>
      (match S.hid.isEmpty && GD τ S with
       | true => some (c, zz (ku (bA e.en e.ex) τ S.size) (mz (e.ex.eA ys)),
        ny (B7 e.en.lk (bA e.en e.ex) τ (ku (bA e.en e.ex) τ S.size) (cJ e.ex.bG (ys.drop e.ex.size)) e.en.bG.length ++ ow τ) (iV e.en.lk (bA e.en e.ex) τ (ku (bA e.en e.ex) τ S.size) 0 (cJ e.ex.bG (ys.drop e.ex.size))) S)
       | false => none))
   | none => none)
 | _, _ => none
section
variable {P : Program} {L : List FuncId} {O : bh} {φ : Phi} {S : ag} {H : ae}
theorem BA {l : List SV} (h : fW l = true) : uv (mz l) = true := by
 match l, h with
 | [], _ => rfl
 | [s], h => simp only [fW, Bool.and_true] at h; exact h
 | a :: b :: l, h => exact h
theorem Ch {en ex : Pn} {j : Nat} (h : j ∈ bA en ex) : j < en.bG.length /\ ∃ b, ex.bG[j]? = some b /\ b.fU = false := by
 simp only [bA, List.mem_filter, List.mem_range] at h; refine ⟨h.1, ?_⟩; have h2 := h.2
 split at h2
 · rename_i b hb; exact ⟨b, hb, by simpa using h2⟩
 · cases h2
theorem tV {en ex : Pn} {g : FuncId} {us ys : List Un} {τ : Sub} {args : List SV} (hE : rY P L O g en ex us ys) (hof : en.of [] args S = some (us, τ)) (hgn : en.bG.any BP.fU = false) (hlo : L7 en ex = true) (ln : Bool) (fc : List (Nat × Option aJ))
 (hln : ln = true -> fW (ex.eA ys) = true /\ (cJ ex.bG (ys.drop ex.size)).all KJ = true)
 (hnl : ln = false -> NB φ S H /\ (∀ p ∈ ow τ, S.lock <= p.1 /\ (S.get p.1).isSome = true))
 (hpairs : fc = B7 en.lk (bA en ex) τ (ku (bA en ex) τ S.size) (cJ ex.bG (ys.drop ex.size)) en.bG.length ++ (bif ln then [] else ow τ))
 {vs : List Value} (hS : Sim φ S H) (hd : DVL φ H (Own φ S) args vs) :
 ∃ N y H', bj P L O N g vs H = some (y, H') /\ Got φ S H (ny fc (iV en.lk (bA en ex) τ (ku (bA en ex) τ S.size) 0 (cJ ex.bG (ys.drop ex.size))) S) (zz (ku (bA en ex) τ S.size) (mz (ex.eA ys))) H' y := by
 generalize hρ : ku (bA en ex) τ S.size = ρ at hpairs ⊢; generalize hBs : cJ ex.bG (ys.drop ex.size) = Bs at hpairs hln ⊢; simp only [L7, Bool.and_eq_true, decide_eq_true_eq] at hlo; obtain ⟨hlo1, hlo2⟩ := hlo; have hlkK : ∀ j, j < en.lk -> j ∈ bA en ex := fun j hj => by
  have := List.all_eq_true.1 hlo1 j (List.mem_range.2 hj); simpa using this
 have hmemH : ∀ j id, en.lk <= j -> j < en.bG.length -> τ.get j = some (some id) -> ∃ b, (id, b) ∈ fc := by
  intro j id hl hj hid; refine ⟨(match (bA en ex).contains j with | true => ((Bs[j]?).join).map (yp ρ) | false => none), ?_⟩; rw [hpairs]; refine List.mem_append_left _ (List.mem_filterMap.2 ⟨j, List.mem_range.2 hj, ?_⟩); rw [decide_eq_true hl, hid]
 have hmemV : ln = false -> ∀ id, τ.get (1000000 + id) = some (some id) -> (id, none) ∈ fc := by
  intro hl id hid; rw [hpairs, hl]; refine List.mem_append_right _ (List.mem_filterMap.2 ⟨(1000000 + id, some id), CE hid, ?_⟩); simp
 let ban1 : Nat -> Prop := fun x => ln = false /\ (φ.ban x \/ ∃ k C, S.get k = some C /\ φ k = some (some x) /\ dQ fc k = none /\ ∀ j, j < en.bG.length -> τ.get j ≠ some (some k))
 obtain ⟨hS1, hd1, ho1, hp1, _, hap, hkeys, _, ho1W⟩ := KH (ban := ban1) hof hS (fun x hx => by
  rcases hx.2 with h | ⟨k, C, h1, h2, _⟩
  · exact .inl h
  · exact .inr ⟨k, C, h1, h2⟩) (fun id x B hid hB hx hb => by
  obtain ⟨hl, hb⟩ := hb; rcases hb with hb | ⟨k, C, h1, h2, h3, _⟩
  · exact ((hnl hl).1 x hb).2 ⟨id, B, hB, hx⟩
  · have := hS.inj id k B C x hB h1 hx h2; subst this; exact fG h3 _ (hmemV hl id hid))
 generalize hφ1 : φ.sub ban1 τ en.bG.length = φ1 at hS1 hd1 ho1 hp1 ho1W; have hb1 : φ1.ban = ban1 := by rw [<- hφ1]; rfl
 have hnb1 : NB φ1 (en.bQ us) H := by
  intro x hx; rw [hb1] at hx; obtain ⟨hl, hx⟩ := hx; rcases hx with hx | ⟨k, C, h1, h2, h3, h9⟩
  · obtain ⟨a, b⟩ := (hnl hl).1 x hx; refine ⟨a, fun h => b ?_⟩; obtain ⟨j, id, B, _, _, g3, g4⟩ := ho1 x h; exact ⟨id, B, g3, g4⟩
  · refine ⟨hS.lt k x h2, fun h => ?_⟩; obtain ⟨j, id, B, g1, g2, g3, g4⟩ := ho1 x h; have := hS.inj k id C B x h1 g3 h2 g4; subst this; exact h9 j g1 g2
 obtain ⟨N, y, H', φ', hcall, hsin, hdv⟩ := hE φ1 H vs hnb1 hS1 (hd1 vs hd); refine ⟨N, y, H', hcall, ?_⟩; have hBl : Bs.length = ex.bG.length := by rw [<- hBs, pb]
 have hxh : ex.bQ ys = { eU Bs with lock := ex.lk } := by unfold Pn.bQ; rw [hBs]
 rw [hxh] at hsin hdv; have hS2 := hsin.sim; have hgetB : ∀ (j : Nat) (B : aJ), Bs[j]? = some (some B) -> ({ eU Bs with lock := ex.lk } : ag).get j = some B := fun j B h => by
  show (eU Bs).get j = some B; rw [sP, h]; rfl
 have hpl : ∀ j id, uN (bA en ex) τ j = some id -> j ∈ bA en ex /\ j < en.bG.length /\ τ.get j = some (some id) /\ ρ j = id := by
  intro j id h; have h0 := h; unfold uN at h
  split at h
  · rename_i hk; have hk : j ∈ bA en ex := by simpa using hk
    split at h
    · rename_i id' hid; cases h; refine ⟨hk, (Ch hk).1, hid, ?_⟩; rw [<- hρ]; unfold ku; rw [h0]
    · cases h
  · cases h
 have hnp : ∀ j, uN (bA en ex) τ j = none -> ρ j = S.size + j := by
  intro j h; rw [<- hρ]; unfold ku; rw [h]
 have hid : ∀ j id, j < en.bG.length -> τ.get j = some (some id) -> (en.lk <= j -> S.lock <= id) /\ (∃ B, S.get id = some B) := by
  intro j id hj h; refine ⟨fun hl => ?_, ?_⟩
  · rcases rf hkeys h with h | ⟨_, h⟩
    · have := EW hof; omega
    · exact h id rfl hl
  · exact Kn hof hS hgn hj h
 let φ2 : Phi := ⟨fun k => if k < S.size then φ k else φ' (k - S.size), φ.ban⟩
 have hφ2lt : ∀ k, k < S.size -> φ2 k = φ k := fun k h => if_pos h
 have hφ2ge : ∀ k, S.size <= k -> φ2 k = φ' (k - S.size) := fun k h => if_neg (by omega)
 have hlt2 : ∀ z y, φ z = some y -> z < S.size := by
  intro z y h; rcases Nat.lt_or_ge z S.size with h1 | h1
  · exact h1
  · rw [hS.fresh z h1] at h; cases h
 have hsame : ∀ j id, uN (bA en ex) τ j = some id -> ∃ y, φ id = some y /\ φ' j = some y := by
  intro j id h; obtain ⟨h1, h2, h3, h4⟩ := hpl j id h; obtain ⟨_, B, hB⟩ := hid j id h2 h3; have e := hp1 j id h2 h3; rcases hS.blk id B hB with ⟨k1, _⟩ | ⟨x, d, k1, _⟩
  · exact ⟨_, k1, hsin.ent j h1 _ (by rw [e]; exact k1)⟩
  · exact ⟨_, k1, hsin.ent j h1 _ (by rw [e]; exact k1)⟩
 have hρφ : ∀ j y, φ' j = some y -> φ2 (ρ j) = some y := by
  intro j y h; cases hi : uN (bA en ex) τ j with
  | some id =>
   obtain ⟨y', k1, k2⟩ := hsame j id hi; rw [(hpl j id hi).2.2.2, hφ2lt _ (hlt2 _ _ k1), k1]; rw [k2] at h; exact h
  | none =>
   rw [hnp j hi, hφ2ge _ (by omega), show S.size + j - S.size = j by omega]; exact h
 have hle : ∀ z y, φ z = some y -> φ2 z = some y := fun z y h => by rw [hφ2lt z (hlt2 z y h)]; exact h
 generalize hSS : ny fc (iV en.lk (bA en ex) τ ρ 0 Bs) S = SS; obtain ⟨f1, f2, f3⟩ := mq fc S; have fr := foldl_push (iV en.lk (bA en ex) τ ρ 0 Bs) (gY fc S); rw [show (iV en.lk (bA en ex) τ ρ 0 Bs).foldl ag.mo (gY fc S) = SS from hSS] at fr; obtain ⟨r1, r2, r3, r4⟩ := fr; rw [f1] at r1 r4; rw [f2] at r2; rw [f3] at r3; rw [v5] at r1 r4; have hget : ∀ (k : Nat) (C : aJ), SS.get k = some C -> (∃ (j : Nat) (B : aJ), (Bs[j]? = some (some B) /\ en.lk <= j) /\ C = yp ρ B /\ ρ j = k) \/ (k < S.size /\ dQ fc k = none /\ S.get k = some C) := by
  intro k C hk; have h1 := ag.aT hk; obtain ⟨h2, h3⟩ := ag.aI hk; rw [r4] at h2; rw [r3] at h3
  by_cases hge : S.size <= k
  · rw [if_pos ⟨hge, by rw [r1] at h1; exact h1⟩] at h2; obtain ⟨g1, B, g2, g3⟩ := vZ (i := k - S.size) (B := C) (by
     cases hx : (iV en.lk (bA en ex) τ ρ 0 Bs)[k - S.size]? with
     | none => rw [hx] at h2; cases h2
     | some o => rw [hx] at h2; simp at h2; rw [h2])
    rw [Nat.zero_add] at g1; exact .inl ⟨_, B, ⟨g2, g1.2⟩, g3, by rw [hnp _ g1.1]; omega⟩
  · rw [if_neg (by omega), jK] at h2; cases hl : dQ fc k with
    | none =>
     rw [hl] at h2; exact .inr ⟨by omega, rfl, (ag.dC (by omega) h3).trans h2⟩
    | some b =>
     rw [hl] at h2; have h2 : b = some C := h2; subst h2; have hm := lG hl; rw [hpairs] at hm; rcases List.mem_append.1 hm with hm | hm
     · obtain ⟨j, hj, hj2⟩ := List.mem_filterMap.1 hm; have hj := List.mem_range.1 hj
       split at hj2
       · rename_i hlj; have hlj := of_decide_eq_true hlj
         split at hj2
         · rename_i id hid'; simp only [Option.some.injEq, Prod.mk.injEq] at hj2; obtain ⟨rfl, hj3⟩ := hj2
           split at hj3
           · rename_i hk; rw [Option.map_eq_some_iff] at hj3; obtain ⟨B, g1, g2⟩ := hj3; have hi : uN (bA en ex) τ j = some id := by unfold uN; rw [hk, hid']
             refine .inl ⟨j, B, ⟨?_, hlj⟩, g2.symm, (hpl j id hi).2.2.2⟩; cases hx : Bs[j]? with
             | none => rw [hx] at g1; cases g1
             | some o => rw [hx] at g1; simp at g1; rw [g1]
           · cases hj3
         · cases hj2
       · cases hj2
     · exfalso; cases ln with
       | true => simp at hm
       | false =>
        have hm : (k, some C) ∈ ow τ := hm; obtain ⟨p, _, hp⟩ := List.mem_filterMap.1 hm
        split at hp
        · split at hp
          · simp at hp
          · cases hp
        · cases hp
 have hownC : ∀ x, x < H.size -> dq φ' { eU Bs with lock := ex.lk } x -> ∃ (j id : Nat) (B : aJ), j < en.bG.length /\ τ.get j = some (some id) /\ S.get id = some B /\ φ id = some (some x) := fun x hx h => ho1 x (hsin.own x hx h)
 have hcls : ∀ (k : Nat) (C : aJ) (x : Nat), SS.get k = some C -> φ2 k = some (some x) -> (∃ (j : Nat) (B : aJ), (Bs[j]? = some (some B) /\ en.lk <= j) /\ φ' j = some (some x) /\ ρ j = k) \/ (k < S.size /\ dQ fc k = none /\ S.get k = some C /\ φ k = some (some x)) := by
  intro k C x hk hx; rcases hget k C hk with ⟨j, B, h1, _, h3⟩ | ⟨hlt, hno, h2⟩
  · refine .inl ⟨j, B, h1, ?_, h3⟩; rcases hS2.blk j B (hgetB j B h1.1) with ⟨g1, _⟩ | ⟨x', _, g1, _⟩
    · have := hρφ j _ g1; rw [h3, hx] at this; cases this
    · have := hρφ j _ g1; rw [h3, hx] at this; cases this; exact g1
  · rw [hφ2lt k hlt] at hx; exact .inr ⟨hlt, hno, h2, hx⟩
 have hown : ∀ x, x < H.size -> dq φ2 SS x -> dq φ S x := by
  rintro x hx ⟨k, C, g1, g2⟩
  rcases hcls k C x g1 g2 with ⟨j, B, h1, h2, _⟩ | ⟨_, _, h2, h3⟩
  · obtain ⟨_, id, B', _, _, h5, h6⟩ := hownC x hx ⟨j, B, hgetB j B h1.1, h2⟩; exact ⟨id, B', h5, h6⟩
  · exact ⟨k, C, h2, h3⟩
 have ho1' : ∀ x, lP φ1 (en.bQ us) x -> lP φ S x := fun x h => by
  obtain ⟨_, id, B', _, _, _, h4, h5, h6⟩ := ho1W x h; exact ⟨id, B', h4, h5, h6⟩
 have hkeep : ∀ x, x < H.size -> ¬ lP φ S x -> H'.get x = H.get x := fun x hx h => hsin.et x hx (fun h' => h (ho1' x h'))
 have hext : Ext φ H (Own φ S) φ2 H' (Own φ2 SS) := by
  refine ⟨hle, fun x c h1 h2 => ?_, fun id x c' h1 h2 => hsin.len x c' (hS.lt id x h1) h2⟩; have hx := ae.aT h1; refine ⟨by rw [hkeep x hx (fun h => h2 (.inr h.toI))]; exact h1, ?_⟩
  rintro (h | h)
  · exact h2 (.inl h)
  · exact h2 (.inr (hown x hx h))
 have hdeep : ln = false -> ∀ x c, H'.get x = some c -> ¬ Own φ' { eU Bs with lock := ex.lk } x -> ¬ Own φ2 SS x := by
  intro hl x c _ hno ho; have hbn : φ'.ban = ban1 := hsin.ban.trans hb1; rcases ho with ho | ⟨k, C, g1, g2⟩
  · exact hno (.inl (by rw [hbn]; exact ⟨hl, .inl ho⟩))
  · rcases hcls k C x g1 g2 with ⟨j, B, h1, h2, _⟩ | ⟨_, h1, h2, h3⟩
    · exact hno (.inr ⟨j, B, hgetB j B h1.1, h2⟩)
    · by_cases hj : ∃ j, j < en.bG.length /\ τ.get j = some (some k)
      · obtain ⟨j, g3, g4⟩ := hj; rcases Nat.lt_or_ge j en.lk with hlj | hlj
        · have hK := hlkK j hlj; obtain ⟨_, b, hb, hbg⟩ := Ch hK; obtain ⟨B, hB⟩ := rV (us := ys.drop ex.size) hb hbg; rw [hBs] at hB; exact hno (.inr ⟨j, B, hgetB j B hB, hsin.ent j hK _ (by rw [hp1 j k g3 g4]; exact h3)⟩)
        · obtain ⟨b, hb⟩ := hmemH j k hlj g3 g4; exact fG h1 b hb
      · exact hno (.inl (by rw [hbn]; exact ⟨hl, .inr ⟨k, C, h2, h3, h1, fun j g3 g4 => hj ⟨j, g3, g4⟩⟩⟩))
 have hleanB : ∀ (j : Nat) (B : aJ), Bs[j]? = some (some B) -> GG B = true \/ ∀ x c, H'.get x = some c -> ¬ Own φ' { eU Bs with lock := ex.lk } x -> ¬ Own φ2 SS x := by
  intro j B hj; cases ln with
  | true => exact .inl (List.all_eq_true.1 (hln rfl).2 _ (List.mem_of_getElem? hj))
  | false => exact .inr (hdeep rfl)
 have hnew : ∀ (j : Nat) (B : aJ), Bs[j]? = some (some B) -> en.lk <= j -> (φ2 (ρ j) = some none /\ (yp ρ B).empty) \/ ∃ x c, φ2 (ρ j) = some (some x) /\ φ' j = some (some x) /\ H'.get x = some c /\ H'.lock <= x /\ BV φ2 H' (Own φ2 SS) (yp ρ B) c.cells := by
  intro j B hj hlj; rcases hS2.blk j B (hgetB j B hj) with ⟨h1, h2⟩ | ⟨x, c, h1, h2, h3, h4⟩
  · exact .inl ⟨hρφ j _ h1, Bz h2⟩
  · exact .inr ⟨x, c, hρφ j _ h1, h1, h2, h3 (Nat.le_trans hlo2 hlj), h4.ren hρφ (hleanB j B hj)⟩
 have hstay : ∀ (k : Nat) (C : aJ) (x : Nat) (c : Blk), dQ fc k = none -> S.get k = some C -> φ k = some (some x) -> H.get x = some c -> H'.get x = some c := by
  intro k C x c hno h1 h2 h3; rw [hsin.et x (hS.lt k x h2) ?_]
  · exact h3
  · intro h; obtain ⟨j, id, B, g0, g1, g2, _, g3, g4⟩ := ho1W x h; have := hS.inj k id C B x h1 g3 h2 g4; subst this; obtain ⟨b, hb⟩ := hmemH j k g0 g1 g2; exact fG hno b hb
 have hcross : ∀ (j : Nat) (B : aJ) (k : Nat) (C : aJ) (x : Nat), (Bs[j]? = some (some B) /\ en.lk <= j) -> φ' j = some (some x) -> dQ fc k = none -> S.get k = some C -> φ k = some (some x) -> False := by
  intro j B k C x h1 h2 h4 h5 h6; obtain ⟨i, z, B', gl, g0, g1, _, g2, g3⟩ := ho1W x (hsin.yM x (hS.lt k x h6) ⟨j, B, Nat.le_trans hlo2 h1.2, hgetB j B h1.1, h2⟩); have := hS.inj k z C B' x h5 g2 h6 g3; subst this; obtain ⟨b, hb⟩ := hmemH i k gl g0 g1; exact fG h4 b hb
 have hstep : Step φ S H φ2 SS H' := by
  refine ⟨⟨?_, ?_, ?_, ?_, ?_, by rw [hsin.cC]; exact Nat.le_trans hS.cC hsin.dj, fun x hx => by rw [hsin.eO]; exact hS.eO x (Nat.le_trans hsin.dj hx)⟩, hle, rfl, hown, hkeep, hsin.len, hsin.dj, hsin.cC, hsin.eO, by omega, r2, r3, ?_⟩
  · intro k C hk; rcases hget k C hk with ⟨j, B, h1, rfl, h3⟩ | ⟨hlt, hno, h2⟩
    · rw [<- h3]; rcases hnew j B h1.1 h1.2 with ⟨g1, g2⟩ | ⟨x, c, g1, _, g2, g4, g3⟩
      · exact .inl ⟨g1, g2⟩
      · exact .inr ⟨x, c, g1, g2, fun _ => g4, g3⟩
    · rcases hS.blk k C h2 with ⟨g1, g2⟩ | ⟨x, c, g1, g2, g3, g4⟩
      · exact .inl ⟨hle _ _ g1, g2⟩
      · exact .inr ⟨x, c, hle _ _ g1, hstay k C x c hno h2 g1 g2, fun h => by rw [hsin.cC]; exact g3 (by rw [<- r2]; exact h), g4.mono hext⟩
  · intro k k' C C' x h1 h2 h3 h4; rcases hcls k C x h1 h3 with ⟨j, B, a1, a2, a3⟩ | ⟨a1, a2, a3, a4⟩
    · rcases hcls k' C' x h2 h4 with ⟨j', B', b1, b2, b3⟩ | ⟨b1, b2, b3, b4⟩
      · have := hS2.inj j j' B B' x (hgetB _ _ a1.1) (hgetB _ _ b1.1) a2 b2; subst this; rw [<- a3, <- b3]
      · exact (hcross j B k' C' x a1 a2 b2 b3 b4).elim
    · rcases hcls k' C' x h2 h4 with ⟨j', B', b1, b2, b3⟩ | ⟨b1, b2, b3, b4⟩
      · exact (hcross j' B' k C x b1 b2 a2 a3 a4).elim
      · exact hS.inj k k' C C' x a3 b3 a4 b4
  · intro k hk; rw [r1] at hk; rw [hφ2ge k (by omega)]; exact hS2.fresh _ (by show (eU Bs).size <= _; rw [iW]; omega)
  · intro k x hx
    by_cases hk : k < S.size
    · rw [hφ2lt k hk] at hx; exact Nat.lt_of_lt_of_le (hS.lt k x hx) hsin.dj
    · rw [hφ2ge k (by omega)] at hx; exact hS2.lt _ x hx
  · rw [r1, r2]; have := hS.ft; omega
  · intro k h1 h2; rw [r4, if_neg (by omega), jK]; cases hl : dQ fc k with
    | none => rfl
    | some b =>
     exfalso; have hm := lG hl; rw [hpairs] at hm; have hbad : S.lock <= k /\ ∃ B, S.get k = some B := by
      rcases List.mem_append.1 hm with hm | hm
      · obtain ⟨j, hj, hj2⟩ := List.mem_filterMap.1 hm; have hj := List.mem_range.1 hj
        split at hj2
        · rename_i hlj
          split at hj2
          · rename_i id hid'; simp only [Option.some.injEq, Prod.mk.injEq] at hj2; obtain ⟨rfl, _⟩ := hj2; exact ⟨(hid j id hj hid').1 (of_decide_eq_true hlj), (hid j id hj hid').2⟩
          · cases hj2
        · cases hj2
      · cases ln with
        | true => simp at hm
        | false =>
         obtain ⟨g1, g2⟩ := (hnl rfl).2 _ hm; exact ⟨g1, Option.isSome_iff_exists.1 g2⟩
     obtain ⟨b1, B0, b2⟩ := hbad; rcases h2 with h2 | h2
     · omega
     · rw [b2] at h2; cases h2
 refine ⟨φ2, hstep, ?_⟩; cases ln with
 | true => exact hdv.ren hρφ (BA (hln rfl).1)
 | false => exact hdv.K6 hρφ (hdeep rfl)
theorem mn.sound {e : mn} {g : FuncId} (hE : ∀ us ys, e.f us = some (true, ys) -> rY P L O g e.en e.ex us ys) {args : List SV} {v : SV} {S' : ag} (h : e.run args S = some (true, v, S'))
 {vs : List Value} (hnb : NBh φ S H) (hS : Sim φ S H) (hd : DVL φ H (Own φ S) args vs) : ∃ N y H', bj P L O N g vs H = some (y, H') /\ Got φ S H S' v H' y := by
 unfold mn.run at h
 split at h
 case h_2 => cases h
 rename_i us τ hgn0 hof; simp only [Bool.or_eq_false_iff, Bool.not_eq_false'] at hgn0; obtain ⟨hgn, hlo⟩ := hgn0
 split at h
 case h_2 => cases h
 rename_i c ys hf
 split at h
 · rename_i hl; simp only [Option.some.injEq, Prod.mk.injEq] at h; obtain ⟨rfl, rfl, rfl⟩ := h; simp only [mn.lean, Bool.and_eq_true] at hl; exact tV (hE us ys hf) hof hgn hlo true _ (fun _ => hl) (fun h => by cases h) (by simp) hS hd
 · split at h
   · rename_i hv; simp only [Bool.and_eq_true, List.isEmpty_iff] at hv; simp only [Option.some.injEq, Prod.mk.injEq] at h; obtain ⟨rfl, rfl, rfl⟩ := h; refine tV (hE us ys hf) hof hgn hlo false _ (fun h => by cases h) (fun _ => ⟨hnb hv.1, fun p hp => ?_⟩) rfl hS hd; have := List.all_eq_true.1 hv.2 p hp; simpa using this
   · cases h
end
end
end
end Go.Proofs.YtdbkoeefnodejaaGreat.Ev
namespace Go.Proofs.YtdbkoeefnodejaaGreat.Ev
noncomputable section
noncomputable section
open Go
def scE : SV -> Option Value
 | .i k n => some (.int k n)
 | .b x => some (.bool x)
 | _ => none
def Js : List SV -> Option (List Value)
 | [] => some []
 | s :: l => match scE s with | some v => (match Js l with | some vs => some (v :: vs) | none => none) | none => none
def KT : SV -> Option Value
 | .agg l => match Js l with | some vs => some (.agg vs.toArray) | none => none
 | s => scE s
def Dj : List SV -> Option (List Value)
 | [] => some []
 | s :: l => match KT s with | some v => (match Dj l with | some vs => some (v :: vs) | none => none) | none => none
def scS : Value -> Option SV
 | .int k n => some (.i k n)
 | .bool x => some (.b x)
 | _ => none
def Ha : List Value -> Option (List SV)
 | [] => some []
 | v :: l => match scS v with | some s => (match Ha l with | some r => some (s :: r) | none => none) | none => none
def Jm : Value -> Option SV
 | .agg vs => match Ha vs.toList with | some l => some (.agg l) | none => none
 | v => scS v
def CH : List Value -> Option (List SV)
 | [] => some []
 | v :: l => match Jm v with | some s => (match CH l with | some r => some (s :: r) | none => none) | none => none
def Mr : Value -> Option SV
 | .tuple vs => match CH vs.toList with | some l => some (.tup l) | none => none
 | v => Jm v
section
variable {φ : Phi} {H : ae} {own : Nat -> Prop}
theorem FN {s : SV} {v w : Value} (h : scE s = some w) (hd : DV φ H own s v) : v = w := by
 cases s <;> simp only [scE, Option.some.injEq] at h <;> first | (cases h; done) | (subst h; cases hd; rfl)
theorem Dk : ∀ {l : List SV} {vs ws : List Value}, Js l = some ws -> DVL φ H own l vs -> vs = ws
 | [], vs, ws, h, hd => by cases h; exact hd.mb
 | s :: l, vs, ws, h, hd => by
  obtain ⟨v, vs', rfl, h1, h2⟩ := hd.fz; simp only [Js] at h
  split at h
  · rename_i w hw
    split at h
    · rename_i ws' hws; cases h; rw [FN hw h1, Dk hws h2]
    · cases h
  · cases h
theorem HE {s : SV} {v w : Value} (h : KT s = some w) (hd : DV φ H own s v) : v = w := by
 unfold KT at h
 split at h
 · rename_i l
   split at h
   · rename_i vs hvs; cases h; cases hd with
     | agg _ x' hx vx =>
      have : x'.toList = vs := Dk hvs ⟨by simpa using hx, fun i s v a b => vx i s v a (by simpa using b)⟩; subst this; rfl
   · cases h
 · exact FN h hd
theorem zN : ∀ {l : List SV} {vs ws : List Value}, Dj l = some ws -> DVL φ H own l vs -> vs = ws
 | [], vs, ws, h, hd => by cases h; exact hd.mb
 | s :: l, vs, ws, h, hd => by
  obtain ⟨v, vs', rfl, h1, h2⟩ := hd.fz; simp only [Dj] at h
  split at h
  · rename_i w hw
    split at h
    · rename_i ws' hws; cases h; rw [HE hw h1, zN hws h2]
    · cases h
  · cases h
theorem E6 {s : SV} {v : Value} (h : scS v = some s) : DV φ H own s v := by
 cases v <;> simp only [scS, Option.some.injEq] at h <;> first | (cases h; done) | (subst h; constructor)
theorem Dg : ∀ {l : List SV} {vs : List Value}, Ha vs = some l -> DVL φ H own l vs
 | l, [], h => by cases h; exact .nil
 | l, v :: vs, h => by
  simp only [Ha] at h
  split at h
  · rename_i s hs
    split at h
    · rename_i r hr; cases h; exact .cons (E6 hs) (Dg hr)
    · cases h
  · cases h
theorem DVL.agg {l : List SV} {x : Array Value} (h : DVL φ H own l x.toList) : DV φ H own (.agg l) (.agg x) :=
 .agg l x (by simpa using h.1) (fun i s v a b => h.2 i s v a (by simpa using b))
theorem DVL.tup {l : List SV} {x : Array Value} (h : DVL φ H own l x.toList) : DV φ H own (.tup l) (.tuple x) :=
 .tup l x (by simpa using h.1) (fun i s v a b => h.2 i s v a (by simpa using b))
theorem Ca {s : SV} {v : Value} (h : Jm v = some s) : DV φ H own s v := by
 unfold Jm at h
 split at h
 · split at h
   · rename_i l hl; cases h; exact (Dg hl).agg
   · cases h
 · exact E6 h
theorem y5 : ∀ {l : List SV} {vs : List Value}, CH vs = some l -> DVL φ H own l vs
 | l, [], h => by cases h; exact .nil
 | l, v :: vs, h => by
  simp only [CH] at h
  split at h
  · rename_i s hs
    split at h
    · rename_i r hr; cases h; exact .cons (Ca hs) (y5 hr)
    · cases h
  · cases h
theorem Ji {s : SV} {v : Value} (h : Mr v = some s) : DV φ H own s v := by
 unfold Mr at h
 split at h
 · split at h
   · rename_i l hl; cases h; exact (y5 hl).tup
   · cases h
 · exact Ca h
end
def ofE (TE : Tab) : ou := fun g args S =>
 match Dj args with
 | some vs => (match TE g vs with | some (c, v) => (match Mr v with | some s => some (c, s, S) | none => none) | none => none)
 | none => none
def DX (TE : Tab) : List (FuncId × mn) -> ou
 | [], g, args, S => ofE TE g args S
 | (h, e) :: r, g, args, S => match g == h with
  | true => (match e.run args S with | some x => some x | none => DX TE r g args S)
  | false => DX TE r g args S
section
variable {P : Program} {L : List FuncId} {TE : Tab}
def jB (P : Program) (L : List FuncId) (O : bh) (g : FuncId) (e : mn) : Prop := ∀ us ys, e.f us = some (true, ys) -> rY P L O g e.en e.ex us ys
theorem sF : ∀ {l : List (FuncId × mn)}, (∀ p ∈ l, jB P L (bn TE) p.1 p.2) -> dg P L (bn TE) (DX TE l)
 | [], _ => by
  intro g args S v S' h φ H vs _ hS hd; unfold DX ofE at h
  split at h
  · rename_i ws hws
    split at h
    · rename_i c w hw
      split at h
      · rename_i s hs; cases h; have := zN hws hd; subst this; exact ⟨1, w, H, jT (by unfold bn; rw [hw]), .same hS (Ji hs)⟩
      · cases h
    · cases h
  · cases h
 | (i, e) :: r, hl => by
  intro g args S v S' h φ H vs hnb hS hd; have hr := sF (l := r) (fun p hp => hl p (List.mem_cons_of_mem _ hp)); unfold DX at h
  split at h
  · rename_i hg; rw [beq_iff_eq] at hg; subst hg
    split at h
    · rename_i x hx; cases h; exact mn.sound (hl (g, e) (by simp)) hx hnb hS hd
    · exact hr g args S v S' h φ H vs hnb hS hd
  · exact hr g args S v S' h φ H vs hnb hS hd
def Lw (l : List (FuncId × (List Value -> Option (Bool × Value)))) : FuncId -> Bool := fun g => l.any fun p => g == p.1
theorem uU : ∀ {l : List (FuncId × (List Value -> Option (Bool × Value)))} (g : FuncId), Lw l g = false -> ∀ args, bn (eJ l) g args = none
 | [], g, _, args => rfl
 | (i, e) :: r, g, h, args => by
  simp only [Lw, List.any_cons, Bool.or_eq_false_iff] at h; have := uU (l := r) g h.2 args; unfold bn at this ⊢; unfold eJ; rw [h.1]; exact this
def mkE {A : Type} [Uns A] (en ex : Pn) (f : A -> Bool × List Un) : mn := ⟨en, ex, onU fun a => some (f a)⟩
theorem an {A : Type} [Uns A] {O : bh} {kn : FuncId -> Bool} (hkn : ∀ g, kn g = false -> ∀ args, O g args = none) {F : aA} (hT : dg P L O F.T) (W : Nat -> List aP) {t : Nat -> A -> Option (List Un)} {f : A -> Bool × List Un}
 (hb : (!(kn F.g) && ((P.funcs[F.g]?).isSome && (cd P F.g).body.isSome)) = true) (hW : ∀ m, ∀ t ∈ W m, F.ez P L O t) (G : ∀ m a, F.Bl P L kn (Uns.enc a) (W m) = t m a)
 (spec : ∀ a, (f a).1 = true -> ∃ m, t m a = some (f a).2) : jB P L O F.g (mkE F.en F.ex f) := by
 intro us ys h; obtain ⟨a, rfl, h2⟩ := og h; simp only [Bool.and_eq_true, Bool.not_eq_true'] at hb; have h3 : f a = (true, ys) := Option.some.inj h2; obtain ⟨m, hm⟩ := spec a (by rw [h3]); rw [h3] at hm; exact aA.Kz hkn hT hb.1 hb.2.1 hb.2.2 (hW m) ((G m a).trans hm)
structure Tb (P : Program) (L : List FuncId) (TE : Tab) where
 l : List (FuncId × mn)
 ok : ∀ p ∈ l, jB P L (bn TE) p.1 p.2
def Tb.nil : Tb P L TE := ⟨[], fun _ h => by cases h⟩
def Tb.add (T : Tb P L TE) (g : FuncId) (e : mn) (h : jB P L (bn TE) g e) : Tb P L TE := ⟨(g, e) :: T.l, fun p hp => by
 rcases List.mem_cons.1 hp with rfl | hp
 · exact h
 · exact T.ok p hp⟩
def Tb.tab (T : Tb P L TE) : ou := DX TE T.l
theorem Tb.right (T : Tb P L TE) : dg P L (bn TE) T.tab := sF T.ok
end
end
end
end Go.Proofs.YtdbkoeefnodejaaGreat.Ev
namespace Go.Proofs.YtdbkoeefnodejaaGreat.Ev
noncomputable section
noncomputable section
open Go
open Go.RowKit (Below)
def oM : Phi := ⟨fun _ => none, fun _ => False⟩
def hp0 : ag := ⟨0, .e, 0, []⟩
theorem PJ (x : Nat) : ¬ Own oM hp0 x := by
 rintro (h | ⟨id, B, h, _⟩)
 · exact h
 · have := ag.aT h; simp [hp0] at this
theorem PM {H : ae} (hl : H.lock <= H.size) (hh : H.hid = []) : Sim oM hp0 H := by
 refine ⟨fun id B h => ?_, fun id id' B B' x h => ?_, fun _ _ => rfl, (fun id x h => by cases h), Nat.le_refl _, hl, fun x _ => by rw [hh]; rfl⟩
 · have := ag.aT h; simp [hp0] at this
 · have := ag.aT h; simp [hp0] at this
mutual
def WfS : Sch -> Dat -> Prop
 | .int k, d => (Lit.int k d.int).wf = true
 | .bool, _ => True
 | .ints k, d => d.sub.length <= 140737488355328 /\ ∀ x ∈ d.sub, (Lit.int k x.int).wf = true
 | .af l, d => d.sub.length <= 140737488355328 /\ ∀ x ∈ d.sub, WfR l x.sub
def WfR : List Sch -> List Dat -> Prop
 | [], [] => True
 | s :: l, d :: r => WfS s d /\ WfR l r
 | _, _ => False
end
theorem WfR.len : ∀ {l : List Sch} {r : List Dat}, WfR l r -> r.length = l.length
 | [], [], _ => rfl
 | s :: l, d :: r, h => by simp [WfR] at h; simp [h.2.len]
 | [], _ :: _, h => by simp [WfR] at h
 | _ :: _, [], h => by simp [WfR] at h
theorem WfR.append : ∀ {a b : List Sch} {r s : List Dat}, WfR a r -> WfR b s -> WfR (a ++ b) (r ++ s)
 | [], _, [], _, _, h => h
 | x :: a, _, d :: r, _, h, k => by simp only [WfR, List.cons_append] at h ⊢; exact ⟨h.1, h.2.append k⟩
 | [], _, _ :: _, _, h, _ => by simp [WfR] at h
 | _ :: _, _, [], _, h, _ => by simp [WfR] at h
def svs : List Sch -> List Dat -> List SV
 | s :: l, d :: r => nR s d :: svs l r
 | _, _ => []
theorem tq : ∀ {a b : List Sch} {r s : List Dat}, r.length = a.length -> svs (a ++ b) (r ++ s) = svs a r ++ svs b s
 | [], _, [], _, _ => rfl
 | x :: a, _, d :: r, _, h => by simp only [List.cons_append, svs]; rw [tq (by simpa using h)]
 | [], _, _ :: _, _, h => by simp at h
 | _ :: _, _, [], _, h => by simp at h
theorem rp : ∀ {a : List Sch} {r : List Dat} (j : Nat), r.length = a.length -> (svs a r)[j]? = (a[j]?).map fun s => nR s (r.getD j (.n 0))
 | [], [], j, _ => by simp [svs]
 | x :: a, d :: r, 0, _ => by simp [svs]
 | x :: a, d :: r, j + 1, h => by simpa [svs] using rp (a := a) (r := r) j (by simpa using h)
 | [], _ :: _, _, h => by simp at h
 | _ :: _, [], _, h => by simp at h
structure RW (f : Fm) (H : ae) (w : World) : Prop where
 r : R f H w
 lock : H.lock = H.size
 hid : H.hid = []
 free : ∀ j, H.size <= j -> f j = none
theorem RW.nil (w : World) : RW (fun _ => none) Ev.nil w := ⟨R.nil w, rfl, rfl, fun _ _ => rfl⟩
def sV (f : Fm) (H : ae) (f' : Fm) (H' : ae) : Prop := Le f f' /\ ∀ x c, H.get x = some c -> H'.get x = some c
theorem sV.refl (f : Fm) (H : ae) : sV f H f H := ⟨Le.refl f, fun _ _ h => h⟩
theorem sV.trans {f g h : Fm} {H K M : ae} (a : sV f H g K) (b : sV g K h M) : sV f H h M := ⟨a.1.trans b.1, fun x c hx => b.2 x c (a.2 x c hx)⟩
theorem sV.ext {f f' : Fm} {H H' : ae} (g : sV f H f' H') : Ext oM H (Own oM hp0) oM H' (Own oM hp0) :=
 ⟨fun _ _ h => h, fun x c h1 h2 => ⟨g.2 x c h1, h2⟩, fun id x c' h1 => by cases h1⟩
theorem RW.push {f : Fm} {H : ae} {w : World} (h : RW f H w) (cs : List Value) (l : Loc) {C : Array Value} {e : TypeId} {fr : Nat × Nat} (hl : w.heap[l.blk]? = some (.cells C e fr))
 (hc : ∀ (i : Nat) v, cs[i]? = some v -> aS v = true /\ ∃ v', C[l.off + i]? = some v' /\ V f v v') :
 ∃ f' H', RW f' H' w /\ sV f H f' H' /\ H'.get H.size = some ⟨cs⟩ /\ f' H.size = some l := by
 let f' : Fm := fun x => if x = H.size then some l else f x
 let H' : ae := { aC H cs with lock := H.size + 1 }
 have hle : Le f f' := fun x m hx => by
  have : x ≠ H.size := by rintro rfl; rw [h.free _ (Nat.le_refl _)] at hx; cases hx
  show (if x = H.size then _ else _) = _; rw [if_neg this]; exact hx
 have hnew : f' H.size = some l := if_pos rfl; have hroot : ∀ x, H'.root.get x = if x = H.size then some ⟨cs⟩ else H.root.get x := fun x => ae.bw _ _ _
 have hsz : H'.size = H.size + 1 := rfl; have hhid : H'.hid = [] := h.hid; have hget : ∀ x, H'.get x = if x = H.size then some ⟨cs⟩ else H.get x := by
  intro x
  by_cases e : x = H.size
  · subst e; rw [if_pos rfl]; unfold ae.get; rw [if_pos (by omega), hhid, hroot, if_pos rfl]; rfl
  · rw [if_neg e]; unfold ae.get
    by_cases hx : x < H.size
    · rw [if_pos (by omega), if_pos hx, hhid, h.hid, hroot, if_neg e]
    · rw [if_neg (by omega), if_neg hx]
 refine ⟨f', H', ⟨⟨?_, ?_, Nat.le_refl _, ?_⟩, rfl, hhid, ?_⟩, ⟨hle, fun x c hx => ?_⟩, by rw [hget, if_pos rfl], hnew⟩
 · intro x B hx; rw [hget] at hx
   split at hx
   · rename_i e1; cases hx; subst e1; refine ⟨l, C, e, fr, hnew, hl, fun i v hi => ?_, fun hm => ?_⟩
     · obtain ⟨h1, v', h2, h3⟩ := hc i v hi; exact ⟨h1, v', h2, h3.mono hle⟩
     · rw [aG] at hm; have : H.size + 1 <= H.size := hm; omega
   · obtain ⟨m, C', e', fr', g1, g2, g3, g4⟩ := h.r.blk x B hx; refine ⟨m, C', e', fr', hle _ _ g1, g2, fun i v hi => ?_, fun hm => ?_⟩
     · obtain ⟨g5, v', g6, g7⟩ := g3 i v hi; exact ⟨g5, v', g6, g7.mono hle⟩
     · rw [aG] at hm; have h5 : H.size + 1 <= x := hm; have := ae.aT hx; omega
 · intro x m hx; have hx : (if x = H.size then some l else f x) = some m := hx
   split at hx
   · cases hx; obtain ⟨hlt, _⟩ := Array.getElem?_eq_some_iff.1 hl; exact hlt
   · exact h.r.big x m hx
 · intro x y B B' m m' hx _ hm; rw [aG] at hm; have h5 : H.size + 1 <= x := hm; have : x < H.size + 1 := ae.aT hx; omega
 · intro j hj; have hj : H.size + 1 <= j := hj; show (if j = H.size then _ else _) = _; rw [if_neg (by omega)]; exact h.free j (by omega)
 · have := ae.aT hx; rw [hget, if_neg (by omega)]; exact hx
def Good (w : World) (ss : List Sch) (cs : List Value) : Prop := ∀ f H, RW f H w -> ∃ f' H' cs' r, RW f' H' w /\ sV f H f' H' /\ VL f' cs' cs /\ (∀ v ∈ cs', aS v = true) /\
 DVL oM H' (Own oM hp0) (svs ss r) cs' /\ WfR ss r
theorem Good.nil (w : World) : Good w [] [] := fun f H h => ⟨f, H, [], [], h, .refl f H, .nil f, by simp, .nil, trivial⟩
theorem Good.append {w : World} {a b : List Sch} {c d : List Value} (h : Good w a c) (k : Good w b d) : Good w (a ++ b) (c ++ d) := by
 intro f H hR; obtain ⟨f1, H1, c1, r1, a1, a2, a3, a4, a5, a6⟩ := h f H hR; obtain ⟨f2, H2, c2, r2, b1, b2, b3, b4, b5, b6⟩ := k f1 H1 a1; refine ⟨f2, H2, c1 ++ c2, r1 ++ r2, b1, a2.trans b2, (a3.mono b2.1).append b3, fun v hv => ?_, ?_, a6.append b6⟩
 · rcases List.mem_append.1 hv with h | h
   · exact a4 v h
   · exact b4 v h
 · rw [tq a6.len]; exact (a5.mono b2.ext).append b5
theorem Good.flatten {w : World} : ∀ {l : List (List Sch × List Value)}, (∀ p ∈ l, Good w p.1 p.2) -> Good w (l.map (·.1)).flatten (l.map (·.2)).flatten
 | [], _ => Good.nil w
 | p :: l, h => by
  simp only [List.map_cons, List.flatten_cons]; exact (h p (by simp)).append (Good.flatten fun q hq => h q (by simp [hq]))
section
variable (P : Program)
def Cf (r : TypeId -> Option (List Sch)) : List Field -> Nat -> Option (List Sch × Nat)
 | [], n => some ([], n)
 | f :: fs, n =>
  match r f.type with
  | some l => (match decide (f.offset = n /\ l.length = P.cellsOf f.type) with
   | true => (match Cf r fs (n + l.length) with | some (m, k) => some (l ++ m, k) | none => none)
   | false => none)
  | none => none
def AE : Nat -> TypeId -> Option (List Sch)
 | 0, _ => none
 | d + 1, t =>
  match P.underlying t with
  | some (.int k) => some [.int k]
  | some .bool => some [.bool]
  | some (.slice e) =>
   (match P.underlying e with
    | some (.int k) => (match decide (P.cellsOf e = 1 /\ 0 < P.bytesOf e) with | true => some [.ints k] | false => none)
    | _ => (match AE d e with
     | some l => (match decide (l.length = P.cellsOf e /\ 0 < l.length /\ 0 < P.bytesOf e) with | true => some [.af l] | false => none)
     | none => none))
  | some (.struct fs) => (match Cf P (AE d) fs.toList 0 with | some (l, n) => (match decide (n = P.cellsOf t) with | true => some l | false => none) | none => none)
  | some (.array n e) => (match AE d e with
   | some l => (match decide (l.length = P.cellsOf e /\ P.cellsOf t = n * l.length) with | true => some (List.replicate n l).flatten | false => none)
   | none => none)
  | _ => none
end
theorem mapM_mem {α β : Type} {g : α -> Option β} : ∀ {l : List α} {r : List β}, l.mapM g = some r -> ∀ x ∈ l, ∃ y ∈ r, g x = some y
 | [], _, _, x, hx => by simp at hx
 | a :: l, r, h, x, hx => by
  rw [List.mapM_cons] at h; cases ha : g a with
  | none => rw [ha] at h; cases h
  | some y =>
   rw [ha] at h; cases hl : l.mapM g with
   | none => simp [hl] at h
   | some s =>
    simp [hl] at h; subst h; rcases List.mem_cons.1 hx with rfl | hx
    · exact ⟨y, by simp, ha⟩
    · obtain ⟨z, h1, h2⟩ := mapM_mem hl x hx; exact ⟨z, by simp [h1], h2⟩
theorem fC {HH : Type} {P : Program} {e : TypeId} {n : Nat} {d : DataW HH} : ∀ {l : List (DataW HH)}, d ∈ l -> n ∈ d.weights P e -> n ∈ DataW.weightsAll P e l
 | [], h, _ => by simp at h
 | x :: l, h, hn => by
  rw [DataW.weightsAll]; rcases List.mem_cons.1 h with rfl | h
  · exact List.mem_append_left _ hn
  · exact List.mem_append_right _ (fC h hn)
def pn {HH : Type} (P : Program) (t : TypeId) (d : DataW HH) : Prop := ∀ n ∈ d.weights P t, n <= reachBytes
theorem uY {HH α : Type} {P : Program} {T : α -> TypeId} {g : α -> Option (DataW HH × List MemPlace)} : ∀ {l : List α} {r : List (DataW HH × List MemPlace)}, l.mapM g = some r -> (∀ n ∈ DataW.weightsEach P (l.map T) (r.map (·.1)), n <= reachBytes) -> ∀ x ∈ l, ∃ y, g x = some y /\ pn P (T x) y.1
 | [], _, _, _, x, hx => by simp at hx
 | a :: l, r, h, hz, x, hx => by
  rw [List.mapM_cons] at h; cases ha : g a with
  | none => rw [ha] at h; cases h
  | some y =>
   rw [ha] at h; cases hl : l.mapM g with
   | none => simp [hl] at h
   | some s =>
    simp [hl] at h; subst h; simp only [List.map_cons, DataW.weightsEach] at hz; rcases List.mem_cons.1 hx with rfl | hx
    · exact ⟨y, ha, fun n hn => hz n (List.mem_append_left _ hn)⟩
    · exact uY hl (fun n hn => hz n (List.mem_append_right _ hn)) x hx
theorem nL {α β : Type} {g : α -> Option β} : ∀ {l : List α} {r : List β}, l.mapM g = some r -> r.length = l.length /\ ∀ (i : Nat) x, l[i]? = some x -> ∃ y, r[i]? = some y /\ g x = some y
 | [], r, h => by
  rw [List.mapM_nil] at h; cases h; exact ⟨rfl, fun i x hx => by simp at hx⟩
 | a :: l, r, h => by
  rw [List.mapM_cons] at h; cases ha : g a with
  | none => rw [ha] at h; cases h
  | some y =>
   rw [ha] at h; cases hl : l.mapM g with
   | none => simp [hl] at h
   | some s =>
    rw [hl] at h; have h : some (y :: s) = some r := h; cases h; obtain ⟨h1, h2⟩ := nL hl; refine ⟨by simp [h1], fun i x hx => ?_⟩; cases i with
    | zero => simp at hx; subst hx; exact ⟨y, by simp, ha⟩
    | succ i => simpa using h2 i x (by simpa using hx)
theorem sG {w : World} {a : Addr} {n : Nat} {cs : List Value} (h : w.cells? 0 a n = some cs) : cs.length = n /\ ∀ j, j < n -> w.cell? (a.add j) = cs[j]? := by
 unfold World.cells? at h; rw [if_pos (Nat.zero_le _)] at h; obtain ⟨h1, h2⟩ := nL h; refine ⟨by rw [h1]; simp, fun j hj => ?_⟩; obtain ⟨y, h3, h4⟩ := h2 j j (by simp [hj]); rw [h4, h3]
theorem zK : ∀ {l : List (List Value)} {n : Nat}, (∀ x ∈ l, x.length = n) -> l.flatten.length = l.length * n /\ ∀ (i j : Nat) x, l[i]? = some x -> j < n -> l.flatten[i * n + j]? = x[j]?
 | [], n, _ => ⟨by simp, fun i j x h => by simp at h⟩
 | a :: l, n, h => by
  have ha : a.length = n := h a (by simp); obtain ⟨h1, h2⟩ := zK (l := l) (n := n) fun x hx => h x (by simp [hx])
  refine ⟨by simp only [List.flatten_cons, List.length_append, List.length_cons]; rw [h1, ha, Nat.add_mul]; omega, fun i j x hi hj => ?_⟩; simp only [List.flatten_cons]; cases i with
  | zero =>
   simp at hi; subst hi; rw [Nat.zero_mul, Nat.zero_add, List.getElem?_append_left (by omega)]
  | succ i =>
   rw [List.getElem?_append_right (by rw [ha, Nat.add_mul]; omega), ha]; rw [show (i + 1) * n + j - n = i * n + j by rw [Nat.add_mul]; omega]; exact h2 i j x (by simpa using hi) hj
def kq (n : Nat) : Nat -> List Dat -> List Dat
 | 0, _ => []
 | m + 1, r => .r (r.take n) :: kq n m (r.drop n)
theorem o7 (n : Nat) : ∀ (m : Nat) (r : List Dat), (kq n m r).length = m
 | 0, _ => rfl
 | m + 1, r => by simp [kq, o7 n m]
theorem oI (n : Nat) : ∀ (m : Nat) (r : List Dat) (i : Nat), i < m -> (kq n m r)[i]? = some (.r ((r.drop (i * n)).take n))
 | m + 1, r, 0, _ => by simp [kq]
 | m + 1, r, i + 1, h => by
  simp only [kq, List.getElem?_cons_succ]; rw [oI n m _ i (by omega), List.drop_drop, Nat.add_mul, Nat.one_mul, Nat.add_comm n]
theorem WfR.split : ∀ {a b : List Sch} {r : List Dat}, WfR (a ++ b) r -> WfR a (r.take a.length) /\ WfR b (r.drop a.length)
 | [], b, r, h => by simpa [WfR] using h
 | x :: a, b, d :: r, h => by
  simp only [List.cons_append, WfR] at h; obtain ⟨h1, h2⟩ := WfR.split h.2; simp only [List.length_cons, List.take_succ_cons, List.drop_succ_cons, WfR]; exact ⟨⟨h.1, h1⟩, h2⟩
 | x :: a, b, [], h => by simp [WfR] at h
theorem WfR.rows {l : List Sch} : ∀ (m : Nat) {r : List Dat}, WfR (List.replicate m l).flatten r -> ∀ d ∈ kq l.length m r, WfR l d.sub
 | 0, r, _, d, hd => by simp [kq] at hd
 | m + 1, r, h, d, hd => by
  rw [List.replicate_succ, List.flatten_cons] at h; obtain ⟨h1, h2⟩ := h.split; simp only [kq, List.mem_cons] at hd; rcases hd with rfl | hd
  · exact h1
  · exact WfR.rows m h2 d hd
section
variable {P : Program} {HH : Type} {enc : TypeId × Value -> HH} {w : World}
theorem ua {r : TypeId -> Option (List Sch)} {g : TypeId -> List Value -> Option (DataW HH × List MemPlace)} (ih : ∀ t cs x ss, g t cs = some x -> pn P t x.1 -> r t = some ss -> Good w ss cs /\ cs.length = ss.length) (cs : List Value) :
 ∀ {fs : List Field} {n m : Nat} {l : List Sch}, Cf P r fs n = some (l, m) -> (∀ f ∈ fs, ∃ y, g f.type ((cs.drop f.offset).take (P.cellsOf f.type)) = some y /\ pn P f.type y.1) -> n + l.length = m /\ (m <= cs.length -> Good w l ((cs.drop n).take l.length))
 | [], n, m, l, h, _ => by cases h; exact ⟨by simp, fun _ => by simpa using Good.nil w⟩
 | f :: fs, n, m, l, h, hg => by
  simp only [Cf] at h
  split at h
  · rename_i a ha
    split at h
    · rename_i hc; obtain ⟨h1, h2⟩ := of_decide_eq_true hc
      split at h
      · rename_i b k hb; cases h; obtain ⟨y, hy⟩ := hg f (by simp); obtain ⟨g1, g2⟩ := ih _ _ _ _ hy.1 hy.2 ha; obtain ⟨e1, e2⟩ := ua ih cs hb (fun q hq => hg q (by simp [hq])); refine ⟨by simp; omega, fun hle => ?_⟩; have := g1.append (e2 hle); rw [h1, <- h2] at this; rw [List.length_append]; have e : (cs.drop n).take (a.length + b.length) = (cs.drop n).take a.length ++ (cs.drop (n + a.length)).take b.length := by
         rw [List.take_add, List.drop_drop]
        rw [e]; exact this
      · cases h
    · cases h
  · cases h
theorem trod_int {fuel : Nat} {t : TypeId} {k : IntKind} {cs : List Value} {x : DataW HH × List MemPlace} (hu : P.underlying t = some (.int k)) (h : DataW.trod enc P w 0 (fun _ => true) true (fuel + 1) t cs = some x) :
 ∃ n, cs = [.int k n] /\ (Lit.int k n).wf = true := by
 rcases cs with _ | ⟨v, _ | ⟨v2, tl⟩⟩
 · simp [DataW.trod, hu] at h
 · cases v <;> simp only [DataW.trod, hu, reduceCtorEq] at h
   split at h
   · rename_i hc; exact ⟨_, by rw [hc.1], hc.2⟩
   · cases h
 · simp [DataW.trod, hu] at h
theorem trod_bool {fuel : Nat} {t : TypeId} {cs : List Value} {x : DataW HH × List MemPlace} (hu : P.underlying t = some .bool) (h : DataW.trod enc P w 0 (fun _ => true) true (fuel + 1) t cs = some x) :
 ∃ b, cs = [.bool b] := by
 rcases cs with _ | ⟨v, _ | ⟨v2, tl⟩⟩
 · simp [DataW.trod, hu] at h
 · cases v <;> simp only [DataW.trod, hu, reduceCtorEq] at h
   exact ⟨_, rfl⟩
 · simp [DataW.trod, hu] at h
theorem trod_slice {fuel : Nat} {t e : TypeId} {cs : List Value} {x : DataW HH × List MemPlace} (hu : P.underlying t = some (.slice e)) (h : DataW.trod enc P w 0 (fun _ => true) true (fuel + 1) t cs = some x) :
 cs = [.slice none 0 0] \/ ∃ a len cap, cs = [.slice (some a) len cap] /\ len <= cap /\ (pn P t x.1 -> cap * P.bytesOf e <= reachBytes) /\ ∀ i, i < cap -> ∃ c y, w.cells? 0 (a.add (i * P.cellsOf e)) (P.cellsOf e) = some c /\ DataW.trod enc P w 0 (fun _ => true) true fuel e c = some y /\ (pn P t x.1 -> pn P e y.1) := by
 rcases cs with _ | ⟨v, _ | ⟨v2, tl⟩⟩
 · simp [DataW.trod, hu] at h
 · cases v <;> simp only [DataW.trod, hu, reduceCtorEq] at h
   rename_i a len cap; cases a with
   | none =>
    left
    cases len <;> cases cap <;> simp [DataW.trod, hu] at h
    rfl
   | some a =>
    right
    simp only [DataW.trod, hu] at h
    split at h
    · rename_i hc; rw [Option.bind_eq_some_iff] at h; obtain ⟨elems, h1, h2⟩ := h; rw [Option.map_eq_some_iff] at h2; obtain ⟨rest, h2, hx⟩ := h2; simp only [if_true] at h2; have hw : x.1.weights P t = ((elems.map (·.1)).length + (rest.map (·.1)).length) * P.bytesOf e :: (DataW.weightsAll P e (elems.map (·.1)) ++ DataW.weightsAll P e (rest.map (·.1))) := by
       rw [<- hx]; simp only [DataW.weights, hu]
      have l1 := (nL h1).1; have l2 := (nL h2).1; rw [List.length_range] at l1 l2; refine ⟨a, len, cap, rfl, hc.2.1, fun hs => ?_, fun i hi => ?_⟩
      · have := hs _ (by rw [hw]; exact List.mem_cons_self ..); rw [List.length_map, List.length_map, l1, l2] at this
        rwa [show len + (cap - len) = cap by omega] at this
      have key : ∃ y, (w.cells? 0 (a.add (i * P.cellsOf e)) (P.cellsOf e)).bind (DataW.trod enc P w 0 (fun _ => true) true fuel e) = some y /\ (pn P t x.1 -> pn P e y.1) := by
       by_cases hl : i < len
       · obtain ⟨y, hm, hy⟩ := mapM_mem h1 i (List.mem_range.2 hl); exact ⟨y, hy, fun hs n hn => hs n (by rw [hw]; exact List.mem_cons_of_mem _ (List.mem_append_left _ (fC (List.mem_map.2 ⟨y, hm, rfl⟩) hn)))⟩
       · obtain ⟨y, hm, hy⟩ := mapM_mem h2 (i - len) (List.mem_range.2 (by omega)); rw [show len + (i - len) = i by omega] at hy; exact ⟨y, hy, fun hs n hn => hs n (by rw [hw]; exact List.mem_cons_of_mem _ (List.mem_append_right _ (fC (List.mem_map.2 ⟨y, hm, rfl⟩) hn)))⟩
      obtain ⟨y, hy, hys⟩ := key; rw [Option.bind_eq_some_iff] at hy; obtain ⟨c, g1, g2⟩ := hy; exact ⟨c, y, g1, g2, hys⟩
    · cases h
 · simp [DataW.trod, hu] at h
theorem trod_struct {fuel : Nat} {t : TypeId} {fs : Array Field} {cs : List Value} {x : DataW HH × List MemPlace} (hu : P.underlying t = some (.struct fs)) (h : DataW.trod enc P w 0 (fun _ => true) true (fuel + 1) t cs = some x) :
 cs.length = P.cellsOf t /\ (pn P t x.1 -> ∀ f ∈ fs.toList, ∃ y, DataW.trod enc P w 0 (fun _ => true) true fuel f.type ((cs.drop f.offset).take (P.cellsOf f.type)) = some y /\ pn P f.type y.1) := by
 simp only [DataW.trod, hu] at h
 split at h
 · rename_i hc; rw [Option.map_eq_some_iff] at h; obtain ⟨xs, h1, hx⟩ := h; refine ⟨hc, fun hs f hf => uY (T := fun f => f.type) h1 (fun n hn => hs n ?_) f hf⟩; rw [<- hx]; simp only [DataW.weights, hu]; exact hn
 · cases h
theorem BM {fuel n : Nat} {t e : TypeId} {cs : List Value} {x : DataW HH × List MemPlace} (hu : P.underlying t = some (.array n e)) (h : DataW.trod enc P w 0 (fun _ => true) true (fuel + 1) t cs = some x) :
 cs.length = P.cellsOf t /\ ∀ i, i < n -> ∃ y, DataW.trod enc P w 0 (fun _ => true) true fuel e ((cs.drop (i * P.cellsOf e)).take (P.cellsOf e)) = some y /\ (pn P t x.1 -> pn P e y.1) := by
 simp only [DataW.trod, hu] at h
 split at h
 · rename_i hc; rw [Option.map_eq_some_iff] at h; obtain ⟨xs, h1, hx⟩ := h; refine ⟨hc, fun i hi => ?_⟩; obtain ⟨y, hm, hy⟩ := mapM_mem h1 i (List.mem_range.2 hi); refine ⟨y, hy, fun hs n hn => hs n ?_⟩; rw [<- hx]; simp only [DataW.weights, hu]; exact fC (List.mem_map.2 ⟨y, hm, rfl⟩) hn
 · cases h
theorem Good.rows {l : List Sch} {cs : List Value} : ∀ (n : Nat), cs.length = n * l.length -> (∀ i, i < n -> Good w l ((cs.drop (i * l.length)).take l.length)) -> Good w (List.replicate n l).flatten cs
 | 0, hl, _ => by
  have : cs = [] := by simpa using hl
  subst this; exact Good.nil w
 | n + 1, hl, h => by
  rw [List.replicate_succ, List.flatten_cons]; have h0 := h 0 (by omega); have hr := Good.rows (l := l) (cs := cs.drop l.length) n (by rw [List.length_drop, hl, Nat.add_mul]; omega) (fun i hi => by
   have := h (i + 1) (by omega)
   rwa [Nat.add_mul, Nat.one_mul, Nat.add_comm, <- List.drop_drop] at this)
  have := h0.append hr
  rwa [Nat.zero_mul, List.drop_zero, List.take_append_drop] at this
theorem Cn {α : Type} {l : List α} {n j : Nat} (hn : l.length = n) (hj : j < n) : ∀ {m i : Nat}, i < m -> ((List.replicate m l).flatten)[i * n + j]? = l[j]?
 | m + 1, 0, _ => by
  rw [List.replicate_succ, List.flatten_cons, Nat.zero_mul, Nat.zero_add, List.getElem?_append_left (by omega)]
 | m + 1, i + 1, h => by
  rw [List.replicate_succ, List.flatten_cons, List.getElem?_append_right (by rw [hn, Nat.add_mul]; omega), hn,
   show (i + 1) * n + j - n = i * n + j by rw [Nat.add_mul]; omega]
  exact Cn hn hj (by omega)
theorem Good.slice (hblk : ∃ (k0 : Nat) (C : Array Value) (e : TypeId) (fr : Nat × Nat), w.heap[k0]? = some (.cells C e fr)) {l : List Sch} {s : Sch} {a : Addr} {len cap n : Nat} (hcap : len <= cap) (hn : l.length = n) (hn1 : 0 < n)
 (hrows : ∀ i, i < cap -> ∃ c, w.cells? 0 (a.add (i * n)) n = some c /\ Good w l c)
 (hs : ∀ (r : List Dat), WfR (List.replicate len l).flatten r -> ∃ (d : Dat) (c : aD), nR s d = .deep c /\ WfS s d /\ c.len = len /\ c.w = n /\ ∀ i, i < len -> c.row i = svs l ((r.drop (i * n)).take n)) :
 Good w [s] [.slice (some a) len cap] := by
 have hall : ∃ css : List (List Value), css.length = len /\ ∀ (i : Nat) c, css[i]? = some c -> w.cells? 0 (a.add (i * n)) n = some c /\ Good w l c := by
  have : ∀ m, m <= len -> ∃ css : List (List Value), css.length = m /\ ∀ (i : Nat) c, css[i]? = some c -> w.cells? 0 (a.add (i * n)) n = some c /\ Good w l c := by
   intro m
   induction m with
   | zero => intro _; exact ⟨[], rfl, fun i c h => by simp at h⟩
   | succ m ih =>
    intro hm; obtain ⟨css, h1, h2⟩ := ih (by omega); obtain ⟨c, h3, h4⟩ := hrows m (by omega); refine ⟨css ++ [c], by simp [h1], fun i d hd => ?_⟩; rw [List.getElem?_append] at hd
    split at hd
    · exact h2 i d hd
    · rename_i hi; have : i = m := by
       have := (List.getElem?_eq_some_iff.1 hd).1; simp at this; omega
      subst this; rw [h1] at hd; simp at hd; subst hd; exact ⟨h3, h4⟩
  exact this len (Nat.le_refl _)
 obtain ⟨css, hcl, hcss⟩ := hall; have hlen : ∀ c ∈ css, c.length = n := by
  intro c hc; obtain ⟨i, hi⟩ := List.getElem?_of_mem hc; exact (sG (hcss i c hi).1).1
 obtain ⟨hfl, hfg⟩ := zK hlen; rw [hcl] at hfl; have hg : Good w (List.replicate len l).flatten css.flatten := by
  refine Good.rows len (by rw [hfl, hn]) (fun i hi => ?_); have hi' : css[i]? = some css[i] := List.getElem?_eq_getElem (by omega); have e : (css.flatten.drop (i * l.length)).take l.length = css[i] := by
   apply List.ext_getElem?; intro j; rw [List.getElem?_take, List.getElem?_drop, hn]; have hci : (css[i]).length = n := hlen _ (List.getElem_mem _)
   split
   · rename_i hj; exact hfg i j _ hi' hj
   · rw [List.getElem?_eq_none (by omega)]
  rw [e]; exact (hcss i _ hi').2
 intro f H hR; obtain ⟨f1, H1, cs', r, a1, a2, a3, a4, a5, a6⟩ := hg f H hR; obtain ⟨d, c, hd1, hd2, hd3, hd4, hd5⟩ := hs r a6; have hcl' : cs'.length = len * n := by rw [a3.1, hfl]
 have hloc : ∃ (lo : Loc) (C : Array Value) (e : TypeId) (fr : Nat × Nat), w.heap[lo.blk]? = some (.cells C e fr) /\ (∀ (i : Nat) v, cs'[i]? = some v -> aS v = true /\ ∃ v', C[lo.off + i]? = some v' /\ V f1 v v') /\ (a = ⟨lo.blk, lo.off + 0, none⟩ \/ (len = 0 /\ cap = 0)) := by
  by_cases hz : cap = 0
  · obtain ⟨k0, C, e, fr, hk⟩ := hblk; have : cs' = [] := by
     apply List.eq_nil_of_length_eq_zero; rw [hcl']; have : len = 0 := by omega
     rw [this]; simp
    subst this; exact ⟨⟨k0, 0, 0⟩, C, e, fr, hk, fun i v h => by simp at h, .inr ⟨by omega, hz⟩⟩
  · have hn0 : n ≠ 0 := by omega
    · obtain ⟨c0, h0, _⟩ := hrows 0 (by omega); obtain ⟨h1, h2⟩ := sG h0; have h3 := h2 0 (by omega); rw [Nat.zero_mul] at h3; have h3 : w.cell? a = c0[0]? := by simpa [Addr.add] using h3
      rw [List.getElem?_eq_getElem (by omega)] at h3; unfold World.cell? at h3
      split at h3
      · rename_i C e fr hC
        split at h3
        · cases h3
        · rename_i hsp; obtain ⟨b, off, sp⟩ := a; have : sp = none := by cases sp <;> simp at hsp ⊢
          subst this; refine ⟨⟨b, off, 0⟩, C, e, fr, hC, fun j v hv => ?_, .inl rfl⟩; refine ⟨a4 v (List.mem_of_getElem? hv), ?_⟩; have hj : j < len * n := by rw [<- hcl']; exact (List.getElem?_eq_some_iff.1 hv).1
          have hn' : 0 < n := by omega
          have hi : j / n < len := by rw [Nat.div_lt_iff_lt_mul hn']; exact hj
          have hjm := Nat.mod_lt j hn'; have hjd : j / n * n + j % n = j := by rw [Nat.mul_comm]; exact Nat.div_add_mod j n
          obtain ⟨v', h4, h5⟩ := a3.get hv; refine ⟨v', ?_, h5⟩; have hci : css[j / n]? = some css[j / n] := List.getElem?_eq_getElem (by omega); have h6 := hfg (j / n) (j % n) _ hci hjm; rw [hjd, h4] at h6; obtain ⟨h7, h8⟩ := sG (hcss _ _ hci).1; have h9 := h8 (j % n) hjm; rw [<- h6] at h9; have hadd : ((⟨b, off, none⟩ : Addr).add (j / n * n)).add (j % n) = ⟨b, off + j, none⟩ := by
           rw [Addr.add_eq, Addr.add_eq, Nat.add_assoc, hjd]
          rw [hadd] at h9; unfold World.cell? at h9; have hC' : w.heap[b]? = some (.cells C e fr) := hC; simp only [hC'] at h9; simpa using h9
      · cases h3
 obtain ⟨lo, C, e, fr, b1, b2, b3⟩ := hloc; obtain ⟨f2, H2, c1, c2, c3, c4⟩ := a1.push cs' lo b1 b2; refine ⟨f2, H2, [.slice (some ⟨H1.size, 0, none⟩) len cap], [d], c1, a2.trans c2, .cons (.slX H1.size 0 len cap lo a c4 b3) (.nil f2), by simp [aS], ?_, ⟨hd2, trivial⟩⟩; have hDV : DV oM H2 (Own oM hp0) (.deep c) (.slice (some ⟨H1.size, 0, none⟩) c.len cap) := by
  refine .deep c H1.size 0 none cap ⟨cs'⟩ (.inl rfl) (by omega) c3 (PJ _) (by rw [hd3, hd4, Nat.zero_add]; exact Nat.le_of_eq hcl'.symm) (fun i hi j sv hsv v hv => ?_); rw [hd3] at hi; rw [hd5 i hi] at hsv; rw [hd4, Nat.zero_add] at hv; have ha6 := a6.len; have hrl : r.length = len * n := by rw [ha6]; simp [hn]
  have hin := im (w := n) hi; have hsg := rp (a := l) (r := (r.drop (i * n)).take n) j (by simp; omega); rw [hsg] at hsv; have hjl : j < n := by
   rw [<- hn]; cases hlj : l[j]? with
   | none => rw [hlj] at hsv; cases hsv
   | some q => exact (List.getElem?_eq_some_iff.1 hlj).1
  refine (a5.2 (i * n + j) sv v ?_ hv).mono c2.ext; rw [rp _ ha6]; have e1 : ((List.replicate len l).flatten)[i * n + j]? = l[j]? := Cn hn hjl hi; rw [e1]; rw [<- hsv]
  congr 1
  funext q
  congr 1
  rw [List.getD_eq_getElem?_getD, List.getD_eq_getElem?_getD, List.getElem?_take, if_pos hjl, List.getElem?_drop]
 rw [hd3] at hDV; simp only [svs]; rw [hd1]; exact .cons hDV .nil
theorem uX {n z : Nat} (hz : 0 < z) (h : n * z <= reachBytes) : n <= 140737488355328 := by
 have : n * 1 <= n * z := Nat.mul_le_mul_left n hz; have : reachBytes <= 140737488355328 := by decide
 omega
theorem uD (hblk : ∃ (k0 : Nat) (C : Array Value) (e : TypeId) (fr : Nat × Nat), w.heap[k0]? = some (.cells C e fr)) : ∀ (fuel : Nat) (t : TypeId) (cs : List Value) x (D : Nat) (ss : List Sch),
 DataW.trod enc P w 0 (fun _ => true) true fuel t cs = some x -> pn P t x.1 -> AE P D t = some ss -> Good w ss cs /\ cs.length = ss.length
 | 0, _, _, _, _, _, h, _, _ => by cases h
 | fuel + 1, t, cs, x, 0, ss, _, _, hf => by cases hf
 | fuel + 1, t, cs, x, D + 1, ss, h, hz, hf => by
  have ih := uD hblk fuel; unfold AE at hf
  split at hf
  ·
   rename_i k hu; cases hf; obtain ⟨n, rfl, hw⟩ := trod_int hu h; refine ⟨fun f H hR => ⟨f, H, [.int k n], [.n n], hR, .refl f H, .cons (.int _ _) (.nil f), by simp [aS], .cons (.i _ _) .nil, ?_⟩, rfl⟩; exact ⟨hw, trivial⟩
  · rename_i hu; cases hf; obtain ⟨b, rfl⟩ := trod_bool hu h; refine ⟨fun f H hR => ⟨f, H, [.bool b], [.n (if b then 1 else 0)], hR, .refl f H, .cons (.bool _) (.nil f), by simp [aS], .cons ?_ .nil, ⟨trivial, trivial⟩⟩, rfl⟩; cases b
    · exact .b false
    · exact .b true
  ·
   rename_i e hu
   split at hf
   · rename_i k he
     split at hf
     · rename_i hc; obtain ⟨hc, hbyte⟩ := of_decide_eq_true hc; cases hf; rcases trod_slice hu h with rfl | ⟨a, len, cap, rfl, hcap, hreach, hrows⟩
       · exact ⟨fun f H hR => ⟨f, H, [.slice none 0 0], [.r []], hR, .refl f H, .cons .cY (.nil f), by simp [aS], .cons (.cp _ rfl) .nil, ⟨⟨by simp [Dat.sub], fun x hx => by simp [Dat.sub] at hx⟩, trivial⟩⟩, rfl⟩
       · refine ⟨Good.slice (l := [.int k]) (n := 1) hblk hcap rfl (by omega) (fun i hi => ?_) (fun r hr => ?_), rfl⟩
         · obtain ⟨c, y, h1, h2, h3⟩ := hrows i hi; rw [hc] at h1; exact ⟨c, h1, (ih _ _ _ 1 [.int k] h2 (h3 hz) (by simp [AE, he])).1⟩
         · have hrl : r.length = len := by rw [hr.len]; simp
           refine ⟨.r r, .ints k (r.map Dat.int), rfl, ⟨Nat.le_trans (by show r.length <= cap; omega) (uX hbyte (hreach hz)), ?_⟩, by simp [aD.len, hrl], rfl, fun i hi => ?_⟩
           · intro x hx; have := WfR.rows (l := [.int k]) len hr; obtain ⟨i, hi⟩ := List.getElem?_of_mem (show x ∈ r from hx); have hil : i < len := by rw [<- hrl]; exact (List.getElem?_eq_some_iff.1 hi).1
             have := this (.r ((r.drop (i * 1)).take 1)) (List.mem_of_getElem? (oI 1 len r i hil)); have e : (r.drop (i * 1)).take 1 = [x] := by
              rw [Nat.mul_one]; apply List.ext_getElem?; intro j; rw [List.getElem?_take, List.getElem?_drop]; cases j with
              | zero => simpa using hi
              | succ j => simp
             rw [e] at this; exact this.1
           · have e : (r.drop (i * 1)).take 1 = [r.getD i (.n 0)] := by
              rw [Nat.mul_one]; apply List.ext_getElem?; intro j; rw [List.getElem?_take, List.getElem?_drop]; cases j with
              | zero => simp [List.getD_eq_getElem?_getD, List.getElem?_eq_getElem (show i < r.length by omega)]
              | succ j => simp
             rw [e]; simp only [aD.row, svs, nR, List.getD_eq_getElem?_getD, List.getElem?_map]; rw [List.getElem?_eq_getElem (show i < r.length by omega)]; rfl
     · cases hf
   · split at hf
     · rename_i l hl
       split at hf
       · rename_i hc; obtain ⟨hc, hc1, hbyte⟩ := of_decide_eq_true hc; cases hf; rcases trod_slice hu h with rfl | ⟨a, len, cap, rfl, hcap, hreach, hrows⟩
         · exact ⟨fun f H hR => ⟨f, H, [.slice none 0 0], [.r []], hR, .refl f H, .cons .cY (.nil f), by simp [aS], .cons (.cp _ rfl) .nil, ⟨⟨by simp [Dat.sub], fun x hx => by simp [Dat.sub] at hx⟩, trivial⟩⟩, rfl⟩
         · refine ⟨Good.slice (l := l) (n := P.cellsOf e) hblk hcap hc (by omega) (fun i hi => ?_) (fun r hr => ?_), rfl⟩
           · obtain ⟨c, y, h1, h2, h3⟩ := hrows i hi; exact ⟨c, h1, (ih _ _ _ D l h2 (h3 hz) hl).1⟩
           · refine ⟨.r (kq l.length len r), .af l (kq l.length len r), rfl, ⟨Nat.le_trans (by show (kq l.length len r).length <= cap; rw [o7]; exact hcap) (uX hbyte (hreach hz)), WfR.rows len hr⟩, o7 _ _ _, hc, fun i hi => ?_⟩; simp only [aD.row]; rw [List.getD_eq_getElem?_getD, oI _ _ _ _ hi, Option.getD_some, <- hc]; have hrl : r.length = len * l.length := by rw [hr.len]; simp
             have hin := im (w := l.length) hi; apply List.ext_getElem?; intro j; rw [fi, rp j (by simp; omega), Nat.zero_add]; rfl
       · cases hf
     · cases hf
  ·
   rename_i fs hu
   split at hf
   · rename_i l n hl
     split at hf
     · rename_i hc; have hc := of_decide_eq_true hc; cases hf; obtain ⟨h1, h2⟩ := trod_struct hu h; obtain ⟨g1, g2⟩ := ua (fun t cs x ss a z b => ih t cs x D ss a z b) cs hl (h2 hz); have := g2 (by omega); rw [List.drop_zero, List.take_of_length_le (by omega)] at this; exact ⟨this, by omega⟩
     · cases hf
   · cases hf
  ·
   rename_i n e hu
   split at hf
   · rename_i l hl
     split at hf
     · rename_i hc; obtain ⟨h0, hc⟩ := of_decide_eq_true hc; cases hf; obtain ⟨h1, h2⟩ := BM hu h; refine ⟨Good.rows n (by rw [h1, hc]) (fun i hi => ?_), by rw [h1, hc]; simp⟩; obtain ⟨y, hy, hys⟩ := h2 i hi; rw [h0]; exact (ih _ _ _ D l hy (hys hz) hl).1
     · cases hf
   · cases hf
  · cases hf
end
end
end
end Go.Proofs.YtdbkoeefnodejaaGreat.Ev
namespace Go.Proofs.YtdbkoeefnodejaaGreat.Ev
noncomputable section
noncomputable section
open Go
open Go.RowKit (Below)
theorem uI {P : Program} {w : World} (h : w.ShapedOpen P) : ∃ (k0 : Nat) (C : Array Value) (e : TypeId) (fr : Nat × Nat), w.heap[k0]? = some (.cells C e fr) := by
 obtain ⟨o, o₀, h1, h2, h3⟩ := h.2 P.globals.size (Nat.le_refl _) (by simp [begin]; omega); rw [Nat.sub_self, if_neg (by decide)] at h3; have h4 : ∃ C e fr, o₀ = .cells C e fr := by
  simp only [begin, Array.getElem?_push, Array.size_push, Array.size_mapIdx] at h2; rw [if_neg (by omega), if_neg (by omega), if_neg (by omega), if_neg (by omega), if_pos trivial] at h2; exact ⟨_, _, _, (Option.some.inj h2).symm⟩
 obtain ⟨C, e, fr, h5⟩ := h4; exact ⟨_, C, e, fr, by rw [h1, h3, h5]⟩
def vpS : Sch -> VP
 | .int k => .int k
 | .bool => .bool
 | .ints k => .ints k
 | .af l => .af l
def Pg : Sch -> Dat -> Un
 | .int _, d => .i d.int
 | .bool, d => .b (d.int != 0)
 | .ints _, d => .l (d.sub.map Dat.int)
 | .af _, d => .d d.sub
def uns : List Sch -> List Dat -> List Un
 | s :: l, d :: r => Pg s d :: uns l r
 | _, _ => []
def WfU : List Sch -> List Un -> Prop
 | [], [] => True
 | .int k :: l, .i n :: r => (Lit.int k n).wf = true /\ WfU l r
 | .bool :: l, .b _ :: r => WfU l r
 | .ints k :: l, .l xs :: r => (xs.length <= 140737488355328 /\ ∀ x ∈ xs, (Lit.int k x).wf = true) /\ WfU l r
 | .af s :: l, .d xs :: r => (xs.length <= 140737488355328 /\ ∀ x ∈ xs, WfR s x.sub) /\ WfU l r
 | _, _ => False
theorem FK {us : List Un} (h : WfU [] us) : us = [] := by cases us with | nil => rfl | cons u us => exact h.elim
theorem Nv {k : IntKind} {l : List Sch} {us : List Un} (h : WfU (.int k :: l) us) : ∃ a r, us = .i a :: r /\ (Lit.int k a).wf = true /\ WfU l r := by
 cases us with
 | nil => exact h.elim
 | cons u us => cases u <;> first | exact ⟨_, _, rfl, h.1, h.2⟩ | exact h.elim
theorem H8 {l : List Sch} {us : List Un} (h : WfU (.bool :: l) us) : ∃ a r, us = .b a :: r /\ WfU l r := by
 cases us with
 | nil => exact h.elim
 | cons u us => cases u <;> first | exact ⟨_, _, rfl, h⟩ | exact h.elim
theorem Jj {k : IntKind} {l : List Sch} {us : List Un} (h : WfU (.ints k :: l) us) : ∃ a r, us = .l a :: r /\ (a.length <= 140737488355328 /\ ∀ x ∈ a, (Lit.int k x).wf = true) /\ WfU l r := by
 cases us with
 | nil => exact h.elim
 | cons u us => cases u <;> first | exact ⟨_, _, rfl, h.1, h.2⟩ | exact h.elim
theorem He {s l : List Sch} {us : List Un} (h : WfU (.af s :: l) us) : ∃ a r, us = .d a :: r /\ (a.length <= 140737488355328 /\ ∀ x ∈ a, WfR s x.sub) /\ WfU l r := by
 cases us with
 | nil => exact h.elim
 | cons u us => cases u <;> first | exact ⟨_, _, rfl, h.1, h.2⟩ | exact h.elim
theorem WfR.uns : ∀ {l : List Sch} {r : List Dat}, WfR l r -> WfU l (uns l r)
 | [], [], _ => trivial
 | s :: l, d :: r, h => by
  simp only [WfR] at h; have := WfR.uns h.2; cases s with
  | int k => exact ⟨h.1, this⟩
  | bool => exact this
  | ints k =>
   refine ⟨⟨by rw [List.length_map]; exact h.1.1, fun x hx => ?_⟩, this⟩; obtain ⟨d', hd, rfl⟩ := List.mem_map.1 hx; exact h.1.2 d' hd
  | af s => exact ⟨h.1, this⟩
 | [], _ :: _, h => by simp [WfR] at h
 | _ :: _, [], h => by simp [WfR] at h
theorem WfU.append : ∀ {a b : List Sch} {r s : List Un}, WfU a r -> WfU b s -> WfU (a ++ b) (r ++ s)
 | [], b, r, s, h, k => by rw [FK h]; exact k
 | .int _ :: a, b, r, s, h, k => by obtain ⟨x, q, rfl, h1, h2⟩ := Nv h; exact ⟨h1, h2.append k⟩
 | .bool :: a, b, r, s, h, k => by obtain ⟨x, q, rfl, h2⟩ := H8 h; exact h2.append k
 | .ints _ :: a, b, r, s, h, k => by obtain ⟨x, q, rfl, h1, h2⟩ := Jj h; exact ⟨h1, h2.append k⟩
 | .af _ :: a, b, r, s, h, k => by obtain ⟨x, q, rfl, h1, h2⟩ := He h; exact ⟨h1, h2.append k⟩
theorem Da : ∀ {l : List Sch} {r : List Dat}, r.length = l.length -> (uns l r).length = l.length
 | [], [], _ => rfl
 | s :: l, d :: r, h => by simp [uns, Da (l := l) (r := r) (by simpa using h)]
 | [], _ :: _, h => by simp at h
 | _ :: _, [], h => by simp at h
theorem uo (s : Sch) : (vpS s).size = 1 := by cases s <;> rfl
theorem Fu (s : Sch) (d : Dat) (rest : List Un) : (vpS s).to (Pg s d :: rest) = nR s d := by cases s <;> rfl
theorem vL : ∀ (l : List Sch), VP.jC (l.map vpS) = l.length
 | [] => rfl
 | s :: l => by simp [VP.jC, uo, vL l]; omega
theorem Cc : ∀ {l : List Sch} {r : List Dat} (rest : List Un), r.length = l.length -> VP.tos (l.map vpS) (uns l r ++ rest) = svs l r
 | [], [], rest, _ => rfl
 | s :: l, d :: r, rest, h => by
  simp only [List.map_cons, uns, List.cons_append, VP.tos, svs]; rw [Fu, uo, List.drop_one, List.tail_cons, Cc rest (by simpa using h)]
 | [], _ :: _, _, h => by simp at h
 | _ :: _, [], _, h => by simp at h
abbrev Par := Bool × List Sch
def Par.vp : Par -> VP
 | (true, l) => .agg (l.map vpS)
 | (false, s :: _) => vpS s
 | (false, []) => .any
def xw (P : Program) : List TypeId -> Option (List Par)
 | [] => some []
 | t :: ts =>
  match P.underlying t, AE P 20 t, xw P ts with
  | some d, some ss, some r => (match jc d || decide (ss.length = 1) with | true => some ((jc d, ss) :: r) | false => none)
  | _, _, _ => none
section
variable {P : Program} {HH : Type} {enc : TypeId × Value -> HH} {w : World}
theorem zX (hblk : ∃ (k0 : Nat) (C : Array Value) (e : TypeId) (fr : Nat × Nat), w.heap[k0]? = some (.cells C e fr)) {base : Nat} : ∀ {ts : List TypeId} {vs : List Value} {ds : List (DataW HH)} {ps : List MemPlace} {pars : List Par},
 xw P ts = some pars -> DataW.TrodAll enc P w 0 (fun _ => true) true ts vs ds ps -> (∀ n ∈ DataW.weightsEach P ts ds, n <= reachBytes) -> (∀ (j : Nat) t v, ts[j]? = some t -> vs[j]? = some v -> Value.okWide P w .any base t v) ->
 ∀ f H, RW f H w -> ∃ f' H' vs' us, RW f' H' w /\ sV f H f' H' /\ VL f' vs' vs /\ DVL oM H' (Own oM hp0) (VP.tos (pars.map Par.vp) us) vs' /\ WfU (pars.map (·.2)).flatten us
 | [], vs, ds, ps, pars, hp, hd, hz, hv, f, H, hR => by
  cases hp; cases vs with
  | nil => exact ⟨f, H, [], [], hR, .refl f H, .nil f, .nil, trivial⟩
  | cons v vs => cases ds <;> exact hd.elim
 | t :: ts, vs, ds, ps, pars, hp, hd, hz, hv, f, H, hR => by
  simp only [xw] at hp
  split at hp
  · rename_i d ss r hu hf hr
    split at hp
    · rename_i hc; cases hp; cases vs with
      | nil => cases ds <;> exact hd.elim
      | cons v vs =>
       cases ds with
       | nil => exact hd.elim
       | cons d0 ds =>
        obtain ⟨p, q, ⟨fuel, h1⟩, h2, rfl⟩ := hd; obtain ⟨hg, hlen⟩ := uD hblk fuel t _ _ 20 ss h1 (fun n hn => hz n (by rw [DataW.weightsEach]; exact List.mem_append_left _ hn)) hf; obtain ⟨f1, H1, cs', rr, a1, a2, a3, a4, a5, a6⟩ := hg f H hR; obtain ⟨f2, H2, vs', us, b1, b2, b3, b4, b5⟩ := zX hblk hr h2 (fun n hn => hz n (by rw [DataW.weightsEach]; exact List.mem_append_right _ hn)) (fun j t v g1 g2 => hv (j + 1) t v (by simpa using g1) (by simpa using g2)) f1 H1 a1; have hok := hv 0 t v (by simp) (by simp); have hul := Da a6.len; have a3' := a3.mono b2.1; have a5' := a5.mono b2.ext; have hcl : cs'.length = ss.length := by rw [a3.1, hlen]
        have htail : VP.tos (r.map Par.vp) ((Ev.uns ss rr ++ us).drop (Par.vp (jc d, ss)).size) = VP.tos (r.map Par.vp) us := by
         have : (Par.vp (jc d, ss)).size = ss.length := by
          cases ha : jc d with
          | true => exact vL ss
          | false =>
           rw [ha] at hc; have hc : ss.length = 1 := by simpa using hc
           match ss, hc with
           | [s], _ => exact uo s
         rw [this, <- hul, List.drop_left]
        refine ⟨f2, H2, (match jc d with | true => Value.agg cs'.toArray | false => cs'.headD undef) :: vs', Ev.uns ss rr ++ us, b1, a2.trans b2, .cons ?_ b3, ?_, ?_⟩
        · cases ha : jc d with
          | true =>
           have : ∃ cs, v = .agg cs := by
            unfold Value.okWide at hok; rw [hu] at hok; cases d <;> simp only [jc, Bool.false_eq_true] at ha <;> (obtain ⟨cs, h, _⟩ := hok; exact ⟨cs, h⟩)
           obtain ⟨cs, rfl⟩ := this; simp only; have e : (Value.agg cs).cells.toList = cs.toList := rfl; rw [e] at a3'; exact .agg cs'.toArray cs (by simpa using a3'.1) (fun i u hu' => a4 u (List.mem_of_getElem? (by simpa using hu'))) (fun i u u' g1 g2 => a3'.2 i u u' (by simpa using g1) (by simpa using g2))
          | false =>
           rw [ha] at hc; have hc : ss.length = 1 := by simpa using hc
           have hnot : ∀ cs, v ≠ .agg cs := by
            rintro cs rfl
            unfold Value.okWide at hok; rw [hu] at hok; cases d <;> simp only [jc, reduceCtorEq] at ha <;> simp [Cell.okWide, hu, Cell.ok] at hok
           match cs', hcl.trans hc with
           | [c], _ =>
            simp only [List.headD_cons]; have hv1 : v.cells.toList = [v] := by
             cases v <;> first | rfl | exact absurd rfl (hnot _)
            rw [hv1] at a3'; exact a3'.2 0 c v (by simp) (by simp)
        · simp only [List.map_cons, VP.tos]; rw [htail]; refine .cons ?_ b4; cases ha : jc d with
          | true =>
           simp only [Par.vp, VP.to]; rw [Cc _ a6.len]; exact .agg _ _ (by simpa using a5'.1) (fun i s u g1 g2 => a5'.2 i s u g1 (by simpa using g2))
          | false =>
           rw [ha] at hc; have hc : ss.length = 1 := by simpa using hc
           have hrl := a6.len
           match ss, rr, cs', hc, hrl, hcl.trans hc with
           | [s], [dd], [c], _, _, _ =>
            simp only [Par.vp, Ev.uns, List.cons_append, List.nil_append, Fu, List.headD_cons]; exact a5'.2 0 _ c (by simp [svs]) (by simp)
        · simp only [List.map_cons, List.flatten_cons]; exact a6.uns.append b5
    · cases hp
  · cases hp
theorem kS : ∀ {ts : List TypeId} {vs : List Value} {ds : List (DataW HH)} {ps : List MemPlace}, DataW.TrodAll enc P w 0 (fun _ => true) true ts vs ds ps -> ds.length = ts.length
 | [], [], [], _, _ => rfl
 | t :: ts, v :: vs, d :: ds, ps, ⟨_, _, _, h, _⟩ => by simp [kS h]
theorem jt : ∀ {ts us : List TypeId} {ds gs : List (DataW HH)} {n : Nat}, ds.length = ts.length -> n ∈ DataW.weightsEach P ts ds -> n ∈ DataW.weightsEach P (ts ++ us) (ds ++ gs)
 | [], us, ds, gs, n, hl, h => by rw [DataW.weightsEach] at h; simp at h; simp
 | t :: ts, us, [], gs, n, hl, h => by simp at hl
 | t :: ts, us, d :: ds, gs, n, hl, h => by
  simp only [List.cons_append, DataW.weightsEach] at h ⊢; rcases List.mem_append.1 h with h | h
  · exact List.mem_append_left _ h
  · exact List.mem_append_right _ (jt (by simpa using hl) h)
variable {L : List FuncId} {TE : Tab}
theorem FV (hmix : P.follows .mixedOrders = true) (hname : jL P = true) (hT : bh.right P TE) {g : FuncId} {ts : List TypeId} {pars : List Par} (hp : xw P ts = some pars)
 (h : ∀ us, WfU (pars.map (·.2)).flatten us -> rY P L (bn TE) g ⟨pars.map Par.vp, [], 0⟩ ⟨[.bool], [], 0⟩ us [.b true]) (hsh : w.ShapedOpen P) {base : Nat} {vs : List Value} {ds : List (DataW HH)} {ps : List MemPlace}
 (hd : DataW.TrodAll enc P w 0 (fun _ => true) true ts vs ds ps) {us' : List TypeId} {gs : List (DataW HH)} (hz : (DataW.weightsEach P (ts ++ us') (ds ++ gs)).all (· <= reachBytes) = true) (hval : ∀ (j : Nat) t v, ts[j]? = some t -> vs[j]? = some v -> Value.okWide P w .any base t v) :
 Calls P g vs.toArray w fun e w' => e = .returned (.bool true) /\ Below w.heap.size w w' := by
 obtain ⟨f, H, vs', us, hR, _, hv, hdv, hwf⟩ := zX (uI hsh) hp hd (fun n hn => by simpa using List.all_eq_true.1 hz n (jt (kS hd) hn)) hval _ _ (RW.nil w); obtain ⟨N, y, H', φ', h1, _, h3⟩ := h us hwf oM H vs' (fun x hx => hx.elim) (PM (Nat.le_of_eq hR.lock) hR.hid) hdv; have : y = .bool true := by
  simp only [Pn.eA, VP.tos, VP.to, mz] at h3; cases h3; rfl
 subst this; exact G5 hmix hname (bh.an hT) h1 hR.r hR.lock hR.free hv
end
end
end
end Go.Proofs.YtdbkoeefnodejaaGreat.Ev
namespace Go.Proofs.YtdbkoeefnodejaaGreat.Ev
noncomputable section
noncomputable section
open Go
abbrev w64 (n : Int) : Int := IntKind.i64.wrap n
abbrev nT (n : Int) : Int := IntKind.u64.wrap n
def lt {α β : Type} (v : α) (f : α -> β) : β := f v
def chk {α : Type} (c : Bool) (t : Option α) : Option α := bif c then t else none
def Lj {α : Type} (c : Bool) (t : Option α) : Option α := bif c then none else t
def inb (i : Int) (n : Nat) : Bool := decide (0 <= i /\ i < (n : Int))
def fits (n z : Nat) : Bool := decide (n < 1099511627776 /\ n * z < 35184372088832)
def jH (v : Int) (z : Nat) : Bool := decide (0 <= v /\ (z : Int) * v <= 140737488355328 /\ v <= 9223372036854775807)
def bI (b : Bool) : Int := bif b then 1 else 0
def Dat.i (d : Dat) (j : Nat) : Int := (d.fld j).int
def Dat.b (d : Dat) (j : Nat) : Bool := (d.fld j).int != 0
def Dat.l (d : Dat) (j : Nat) : List Int := List.map Dat.int (d.fld j).sub
def Dat.d (d : Dat) (j : Nat) : List Dat := (d.fld j).sub
def ah (l : List Dat) (i : Nat) : Dat := l.getD i (.r [])
theorem aa {n : Int} (h1 : -9223372036854775808 <= n) (h2 : n <= 9223372036854775807) : w64 n = n := by show IntKind.i64.wrap n = n; rw [IntKind.wrap_i64]; omega
theorem jw {α β : Type} {v : α} {f : α -> β} {r : β} (h : ∀ x, x = v -> f x = r) : lt v f = r := h v rfl
theorem cz {α : Type} {c : Bool} {a r : Option α} (h : c = true) (k : a = r) : chk c a = r := by rw [h]; exact k
theorem Pl {α : Type} {c : Bool} {a b r : α} (h : c = true) (k : a = r) : (bif c then a else b) = r := by rw [h]; exact k
theorem As {α : Type} {c : Bool} {a b r : α} (h : c = false) (k : b = r) : (bif c then a else b) = r := by rw [h]; exact k
theorem Lh {i : Int} {n : Nat} : inb i n = true ↔ 0 <= i /\ i < (n : Int) := by simp [inb]
theorem JG {n z : Nat} : fits n z = true ↔ n < 1099511627776 /\ n * z < 35184372088832 := by simp [fits]
theorem AT {v : Int} {z : Nat} : jH v z = true ↔ 0 <= v /\ (z : Int) * v <= 140737488355328 /\ v <= 9223372036854775807 := by simp [jH]
theorem iL (a b : Int) : (if b < a then b else a) = min a b := by omega
theorem jV (a b : Int) : (if a < b then b else a) = max a b := by omega
theorem Et {a b : Int} (h : a = b) : (a == b) = true := by simp [h]
theorem nf {a b : Int} (h : a ≠ b) : (a == b) = false := by simp [h]
theorem OC {a b : Int} (h : a ≠ b) : (a != b) = true := by simp [h]
theorem Pf {a b : Int} (h : a = b) : (a != b) = false := by simp [h]
theorem ak (n : Nat) (h : 0 < n) : ∃ k, n = k + 1 := ⟨n - 1, by omega⟩
theorem ao (pre : List Dat) (x : Dat) (rest : List Dat) : ah (pre ++ x :: rest) pre.length = x := by simp [ah]
theorem bV (pre : List Int) (x : Int) (rest : List Int) (d : Int) : (pre ++ x :: rest).getD pre.length d = x := by simp
theorem vl (pre pre' : List Int) (x : Int) (rest : List Int) (d : Int) (h : pre'.length = pre.length) : (pre' ++ x :: rest).getD pre.length d = x := by rw [<- h]; simp
theorem CA {α : Type} (pre : List α) (x y : α) (rest : List α) : List.set (pre ++ x :: rest) pre.length y = pre ++ y :: rest := by simp
theorem PZ (b : Bool) : (bI b != 0) = b := by cases b <;> rfl
section
variable (a b c d e f g h : Dat) (r : List Dat)
theorem MC (x : Int) : (Dat.r (.n x :: r)).i 0 = x := rfl
theorem dM (x : Int) : (Dat.r (a :: .n x :: r)).i 1 = x := rfl
theorem gU (x : Int) : (Dat.r (a :: b :: .n x :: r)).i 2 = x := rfl
theorem eF (x : Int) : (Dat.r (a :: b :: c :: .n x :: r)).i 3 = x := rfl
theorem rR (x : Int) : (Dat.r (a :: b :: c :: d :: .n x :: r)).i 4 = x := rfl
theorem mH (x : Int) : (Dat.r (a :: b :: c :: d :: e :: .n x :: r)).i 5 = x := rfl
theorem mI (x : Int) : (Dat.r (a :: b :: c :: d :: e :: f :: .n x :: r)).i 6 = x := rfl
end
section
variable {α : Type} {a b : α} {o : Option α} {p : Prop} [Decidable p] {c d : Bool}
theorem lt_eq {β : Type} (v : β) (f : β -> α) : lt v f = f v := rfl
theorem aQ (h : p) : chk (decide p) o = o := by rw [decide_eq_true h]; rfl
theorem gS : chk true o = o := rfl
theorem H4 : chk (c && d) o = chk c (chk d o) := by cases c <;> rfl
theorem iO {i : Int} {n : Nat} (h1 : 0 <= i) (h2 : i < (n : Int)) : chk (inb i n) o = o := by rw [Lh.2 ⟨h1, h2⟩]; rfl
theorem sn {n z : Nat} (h1 : n < 1099511627776) (h2 : n * z < 35184372088832) : chk (fits n z) o = o := by rw [JG.2 ⟨h1, h2⟩]; rfl
theorem Gx {v : Int} {z : Nat} (h1 : 0 <= v) (h2 : (z : Int) * v <= 140737488355328) (h3 : v <= 9223372036854775807) : chk (jH v z) o = o := by rw [AT.2 ⟨h1, h2, h3⟩]; rfl
theorem G0 (h : ¬ p) : Lj (decide p) o = o := by rw [decide_eq_false h]; rfl
theorem bT (h : p) : (bif decide p then a else b) = a := by rw [decide_eq_true h]; rfl
theorem aB (h : ¬ p) : (bif decide p then a else b) = b := by rw [decide_eq_false h]; rfl
theorem fq {x y : Int} (h : x = y) : (bif x == y then a else b) = a := by rw [Et h]; rfl
theorem fw {x y : Int} (h : x ≠ y) : (bif x == y then a else b) = b := by rw [nf h]; rfl
theorem jQ {x y : Int} (h : x ≠ y) : (bif x != y then a else b) = a := by rw [OC h]; rfl
theorem jP {x y : Int} (h : x = y) : (bif x != y then a else b) = b := by rw [Pf h]; rfl
theorem cond_not : (bif !c then a else b) = (bif c then b else a) := by cases c <;> rfl
theorem FP : (bif c && d then a else b) = (bif c then (bif d then a else b) else b) := by cases c <;> rfl
theorem JH : (bif c || d then a else b) = (bif c then a else (bif d then a else b)) := by cases c <;> rfl
theorem Ih : (bif true then a else b) = a := rfl
theorem rB : (bif false then a else b) = b := rfl
theorem gk : (bif c then a else a) = a := by cases c <;> rfl
theorem lC {l : List Dat} {i : Nat} (h : i < l.length) : ah l i = l[i] := by simp [ah, h]
end
def sI (k : Nat) : List Sch := List.replicate k (.int .i64)
def sB (k : Nat) : List Sch := List.replicate k (.int .i64) ++ [.bool]
theorem TRa {α : Type} : (∀ {β : Type} (v : β) (f : β -> α), lt v f = f v) /\ (∀ {o : Option α} {p : Prop} [Decidable p], p -> chk (decide p) o = o) /\ (∀ {o : Option α}, chk true o = o) /\ (∀ {o : Option α} {c d : Bool}, chk (c && d) o = chk c (chk d o)) /\ (∀ {o : Option α} {i : Int} {n : Nat}, 0 <= i -> i < (n : Int) -> chk (inb i n) o = o) /\ (∀ {o : Option α} {n z : Nat}, n < 1099511627776 -> n * z < 35184372088832 -> chk (fits n z) o = o) /\ (∀ {o : Option α} {v : Int} {z : Nat}, 0 <= v -> (z : Int) * v <= 140737488355328 -> v <= 9223372036854775807 -> chk (jH v z) o = o) /\ (∀ {o : Option α} {p : Prop} [Decidable p], ¬ p -> Lj (decide p) o = o) /\ (∀ {a b : α} {p : Prop} [Decidable p], p -> (bif decide p then a else b) = a) /\ (∀ {a b : α} {p : Prop} [Decidable p], ¬ p -> (bif decide p then a else b) = b) /\ (∀ {a b : α} {x y : Int}, x = y -> (bif x == y then a else b) = a) /\ (∀ {a b : α} {x y : Int}, x ≠ y -> (bif x == y then a else b) = b) /\ (∀ {a b : α} {x y : Int}, x ≠ y -> (bif x != y then a else b) = a) /\ (∀ {a b : α} {x y : Int}, x = y -> (bif x != y then a else b) = b) /\ (∀ {a b : α} {c : Bool}, (bif !c then a else b) = (bif c then b else a)) /\ (∀ {a b : α} {c d : Bool}, (bif c && d then a else b) = (bif c then (bif d then a else b) else b)) /\ (∀ {a b : α} {c d : Bool}, (bif c || d then a else b) = (bif c then a else (bif d then a else b))) /\ (∀ {a b : α}, (bif true then a else b) = a) /\ (∀ {a b : α}, (bif false then a else b) = b) :=
 ⟨fun v f => lt_eq v f, aQ, gS, H4, iO, sn, Gx, G0, bT, aB, fq, fw, jQ, jP, cond_not, FP, JH, Ih, rB⟩
theorem TRi : (∀ a b : Int, (if b < a then b else a) = min a b) /\ (∀ a b : Int, (if a < b then b else a) = max a b) := ⟨iL, jV⟩
theorem LNl {α : Type} : (∀ a b : List α, (a ++ b).length = a.length + b.length) /\ (∀ (x : α) (a : List α), (x :: a).length = a.length + 1) /\ (([] : List α).length = 0) /\ (∀ (n : Nat) (x : α), (List.replicate n x).length = n) /\ (∀ (l : List α) (i : Nat) (x : α), (l.set i x).length = l.length) /\ (∀ {β : Type} (f : β -> α) (l : List β), (l.map f).length = l.length) /\ (∀ a b c : List α, a ++ b ++ c = a ++ (b ++ c)) /\ (∀ (x : α) (a b : List α), x :: a ++ b = x :: (a ++ b)) /\ (∀ a : List α, [] ++ a = a) :=
 ⟨fun a b => List.length_append, fun x a => List.length_cons, List.length_nil, fun n x => List.length_replicate, fun l i x => List.length_set, fun f l => List.length_map f, fun a b c => List.append_assoc a b c, fun x a b => List.cons_append, fun a => List.nil_append a⟩
theorem LNi : (∀ n : Nat, (List.range n).length = n) /\ (∀ a b : Nat, ((a + b : Nat) : Int) = (a : Int) + (b : Int)) /\ (∀ n : Nat, ((n : Int)).toNat = n) /\ (∀ a b c : Int, a + b + c = a + (b + c)) /\ (∀ n : Nat, 0 + n = n) /\ (∀ n : Int, 0 + n = n) :=
 ⟨fun n => List.length_range, fun a b => Int.natCast_add a b, fun n => Int.toNat_natCast n, fun a b c => Int.add_assoc a b c, fun n => Nat.zero_add n, fun n => Int.zero_add n⟩
end
end
end Go.Proofs.YtdbkoeefnodejaaGreat.Ev
namespace Go.Proofs.YtdbkoeefnodejaaGreat
noncomputable section
open Go Go.Proofs.YtdbkoeefnodejaaGreat.Ev
set_option maxRecDepth 20000
def LQ : List FuncId := [13, 33, 42, 43, 44, 48, 49, 87, 88, 92, 100, 101, 103, 105, 106, 107, 135, 136, 139, 146, 148, 165]
def teL : List (FuncId × (List Value -> Option (Bool × Value))) := [(22, e22), (98, e98), (132, N8), (133, Ni), (134, KW), (157, E5), (158, Gu), (159, Nm), (161, HV), (163, MG), (164, Ml), (169, Me), (170, ND), (171, MA), (173, MJ)]
def TE : Tab := eJ teL
def KN : FuncId -> Bool := Lw teL
theorem FA : bh.right Tryz.prog TE := bL (aE It (aE Is (aE EJ (aE zC (aE zk (aE oh (aE nB (aE zt (aE sR (aE zH (aE zm (aE yQ (aE Al (aE yP (aE yZ az)))))))))))))))
theorem ai : ∀ g, KN g = false -> ∀ args, bn TE g args = none := uU
def T0 : Tb Tryz.prog LQ TE := .nil
abbrev HO (F : aA) (t : aP) : Prop := F.ez Tryz.prog LQ (bn TE) t
abbrev ER (g : FuncId) (e : mn) : Prop := jB Tryz.prog LQ (bn TE) g e
def bF (l : List Int) (i : Int) : Int := if l = [] then 0 else l.getD (i % (l.length : Int)).toNat 0
def Fa (i : Nat) (x : Int) : Dat := .r [.n (2 * i + 1), .n (within x 0 100000)]
def iz : Nat -> List Int -> List Dat
 | _, [] => []
 | i, x :: l => Fa i x :: iz (i + 1) l
def jf (l : List Int) : List Dat := iz 0 (l.take 10)
def N56 : aA := ⟨T0.tab, 56, ⟨[.ints .i64, .int .i64], [], 0⟩, ⟨[.int .i64], [], 0⟩, []⟩
def t56 (m : Nat) : List Int × Int -> Option (List Un) := fun (a0, a1) =>
 bif (a0.length : Int) == 0 then
 some ([.i 0])
 else
 Lj (decide ((a0.length : Int) = 0)) <|
 lt ((a1.tmod (a0.length : Int)) : Int) fun x1 =>
 chk (inb x1 a0.length) <|
 chk (decide (x1.toNat < a0.length)) <|
 some ([.i (a0.getD x1.toNat 0)])
def f56 : List Int × Int -> Bool × List Un := fun (a0, a1) => (decide (0 <= a1), [.i (bF a0 a1)])
theorem Lu (a0 : List Int) (a1 : Int) (hc : (decide (0 <= a1)) = true) : ∃ m, t56 m (a0, a1) = some ([.i (bF a0 a1)]) := by
 simp only [decide_eq_true_eq] at hc; refine ⟨0, ?_⟩; unfold t56 bF; cases a0 with
 | nil => simp [fq]
 | cons x l =>
  have e := Int.emod_nonneg a1 (show ((x :: l).length : Int) ≠ 0 by simp; omega); have e2 := Int.emod_lt_of_pos a1 (show (0 : Int) < ((x :: l).length : Int) by simp); rw [if_neg (by simp)]; dsimp only; simp only [tm _ hc]; generalize a1 % _ = z at *
  simp (disch := omega) only [TRa, TRi, aa]
theorem I7 : ER 56 (mkE N56.en N56.ex f56) := an ai T0.right (fun m => []) (t := t56) (by kernel_rfl) (fun m => az) (fun m a => by kernel_rfl) fun (a0, a1) hc => Lu a0 a1 hc
def T56 : Tb Tryz.prog LQ TE := T0.add 56 _ I7
def N55 : aA := ⟨T56.tab, 55, ⟨[.ints .i64], [], 0⟩, ⟨[.buf 0 2], [.af (sI 2)], 0⟩, []⟩
abbrev C7 : Type := List Int × Int × List Dat
def wC (m : Nat) (k : C7 -> Option (List Un)) : C7 -> Option (List Un) := fun (a0, a1, a2) =>
 bif (decide (a1 < (a0.length : Int))) then
 bif decide (a1 < 10) then
 chk (inb a1 a0.length) <|
 chk (decide (a1.toNat < a0.length)) <|
 chk (fits (a2.length + 1) 16) <|
 k (a0, (w64 (a1 + 1)), (a2 ++ ([.r [.n (w64 ((w64 (2 * a1)) + 1)), .n (within (a0.getD a1.toNat 0) 0 100000)]])))
 else
 some ([.d a2])
 else
 some ([.d a2])
def vo (m : Nat) : Nat -> C7 -> Option (List Un) := bc (wC m)
theorem tA (m : Nat) (n : Nat) : vo m (n + 1) = wC m (vo m n) := rfl
def Ez (F : C7 -> Option (List Un)) : aP := ⟨[.lp [0, 1, 0, 1, 1], .blk 0, .code [1, 1, 1]], ⟨frm 28 [(0, .ints .i64), (3, .buf 0 2), (4, .int .i64)], [.af (sI 2)], 0⟩, onU F⟩
theorem Oh (m : Nat) : ∀ n, HO N55 (Ez (vo m n)) := aw ai T56.right (fun k => [Ez k]) (fun k h => (aE h az)) fun k a => by kernel_rfl
def t55 (m : Nat) : List Int -> Option (List Un) := fun a0 =>
 vo m m (a0, 0, [])
theorem LV (m : Nat) : ∀ (rest pre : List Int) (acc : List Dat) (n : Nat), rest.length < n -> acc.length = pre.length -> pre.length <= 10 ->
 vo m n (pre ++ rest, (pre.length : Int), acc) = some [.d (acc ++ iz pre.length (rest.take (10 - pre.length)))] := by
 intro rest
 induction rest with
 | nil =>
  intro pre acc n hn hl hp; obtain ⟨n, rfl⟩ := ak n (by simp at hn; omega); rw [tA]; unfold wC; dsimp only; simp [aB, iz]
 | cons x rest ih =>
  intro pre acc n hn hl hp; obtain ⟨n, rfl⟩ := ak n (by simp at hn; omega); simp only [List.length_cons] at hn; rw [tA]; unfold wC; dsimp only
  by_cases h : pre.length < 10
  · have := ih (pre ++ [x]) (acc ++ [Fa pre.length x]) n (by omega) (by simp; omega) (by simp; omega); obtain ⟨k, hk⟩ : ∃ k, 10 - pre.length = k + 1 := ⟨9 - pre.length, by omega⟩
    have hk2 : 10 - (pre.length + 1) = k := by omega
    simp only [hk2, hk, List.take_succ_cons, iz, Fa, List.length_append, List.length_cons, List.length_nil, List.append_assoc, List.cons_append, List.nil_append, Int.natCast_add] at this ⊢; simp (disch := omega) only [TRa, TRi, aa, LNl, LNi, Int.cast_ofNat_Int, bV]; exact this
  · simp only [show 10 - pre.length = 0 by omega, List.take_zero, iz, List.append_nil]; simp (disch := omega) only [TRa, TRi, aa, LNl, LNi, Int.cast_ofNat_Int, bV]
def f55 : List Int -> Bool × List Un := fun a0 => (true, [.d (jf a0)])
theorem KO (a0 : List Int) : ∃ m, t55 m a0 = some ([.d (jf a0)]) := by
 refine ⟨a0.length + 1, ?_⟩; have := LV (a0.length + 1) a0 [] [] (a0.length + 1) (by omega) rfl (by simp); simpa [jf, t55] using this
theorem I0 : ER 55 (mkE N55.en N55.ex f55) := an ai T56.right (fun m => [Ez (vo m m)]) (t := t55) (by kernel_rfl) (fun m => (aE (Oh m m) az)) (fun m a => by kernel_rfl) fun a0 hc => KO a0
def T55 : Tb Tryz.prog LQ TE := T56.add 55 _ I0
@[ext] structure au where
 year : Int
 month : Int
 basis : Int
instance : Uns au := Uns.via (B := Int × Int × Int) (fun x => (x.year, x.month, x.basis)) (fun x => match x with | (year, month, basis) => ⟨year, month, basis⟩) (fun _ => rfl)
@[ext] structure av where
 fee : Int
 bH : Int
 target : Int
 advance : Int
 dN : Int
 oc : Int
 ic : Int
 late : Int
 lS : Int
 clean : Int
instance : Uns av := Uns.via (B := Int × Int × Int × Int × Int × Int × Int × Int × Int × Int) (fun x => (x.fee, x.bH, x.target, x.advance, x.dN, x.oc, x.ic, x.late, x.lS, x.clean)) (fun x => match x with | (fee, bH, target, advance, dN, oc, ic, late, lS, clean) => ⟨fee, bH, target, advance, dN, oc, ic, late, lS, clean⟩) (fun _ => rfl)
@[ext] structure bg where
 a : au
 aR : List Dat
 notes : List Dat
 b : av
 s0 : List Dat
 s1 : List Dat
 s2 : List Dat
instance : Uns bg := Uns.via (B := au × List Dat × List Dat × av × List Dat × List Dat × List Dat) (fun x => (x.a, x.aR, x.notes, x.b, x.s0, x.s1, x.s2)) (fun x => match x with | (a, aR, notes, b, s0, s1, s2) => ⟨a, aR, notes, b, s0, s1, s2⟩) (fun _ => rfl)
@[ext] structure fQ where
 a : au
 b : av
 aR : List Int
 notes : List Int
 nz : List Int
 zF : List Int
 s0 : List Int
 s1 : List Int
 s2 : List Int
instance : Uns fQ := Uns.via (B := au × av × List Int × List Int × List Int × List Int × List Int × List Int × List Int) (fun x => (x.a, x.b, x.aR, x.notes, x.nz, x.zF, x.s0, x.s1, x.s2)) (fun x => match x with | (a, b, aR, notes, nz, zF, s0, s1, s2) => ⟨a, b, aR, notes, nz, zF, s0, s1, s2⟩) (fun _ => rfl)
def al (j : Nat) : List Dat -> Int
 | [] => 0
 | d :: l => d.i j + al j l
def eT (k : fQ) : List Dat := jf k.aR ++ [.r [.n 99, .n 50000]]
def vi (k : fQ) : Int := al 1 (eT k)
def Ft (k : fQ) (p : Int) (i : Nat) : Dat := .r [.n (within (bF k.nz i) 0 3), .n (1 + within (bF k.notes i) 0 (p / 6)), .n (within (bF k.zF i) 0 1200)]
def Fc (k : fQ) : List Dat := (List.range (min 5 (1 + k.notes.length))).map (Ft k (vi k))
def qz (x : Int) : Int := if within x 1 7 = 3 then within (w64 (x.tdiv 7)) 0 3 else 0
def cm (l : List Dat) (a b : Int) : Bool := l.any fun d => d.i 0 == a && d.i 1 == b
def je : List Dat -> List Int -> List Dat
 | acc, [] => acc
 | acc, x :: r => je (if cm acc (within x 1 7) (qz x) then acc else acc ++ [.r [.n (within x 1 7), .n (qz x)]]) r
def xG : List Dat := [.r [.n 1, .n 0], .r [.n 3, .n 0], .r [.n 3, .n 1], .r [.n 4, .n 0], .r [.n 2, .n 0], .r [.n 6, .n 0]]
def B6 (l : List Int) : List Dat := if (je [] (l.take 12)).length = 0 then xG else je [] (l.take 12)
def gy (k : fQ) : bg := ⟨⟨within k.a.year 1990 2040, within k.a.month 1 12, within k.a.basis 0 2⟩, eT k, Fc k,
 ⟨within k.b.fee 0 200, within k.b.bH 0 5000, within k.b.target 0 500, within k.b.advance 0 3000, within k.b.dN 0 3, within k.b.oc 0 12000, within k.b.ic 0 15000, within k.b.late 0 5000, within k.b.lS 0 5000, within k.b.clean 0 3000⟩,
 B6 k.s0, B6 k.s1, B6 k.s2⟩
theorem mE : ∀ (l : List Int) (i : Nat), ∀ d ∈ iz i l, 0 <= d.i 1 /\ d.i 1 <= 100000
 | [], i => by simp [iz]
 | x :: l, i => by
  simp only [iz, List.mem_cons, forall_eq_or_imp]; exact ⟨ju (by decide), mE l _⟩
theorem sE : ∀ (l : List Int) (i : Nat), (iz i l).length = l.length
 | [], i => rfl
 | x :: l, i => by simp [iz, sE l]
theorem rW (k : fQ) : (eT k).length <= 11 := by simp [eT, jf, sE]; omega
theorem ti (k : fQ) : ∀ d ∈ eT k, 0 <= d.i 1 /\ d.i 1 <= 100000 := by
 simp only [eT, jf, List.mem_append, List.mem_singleton]
 rintro d (h | rfl)
 · exact mE _ _ d h
 · decide
theorem nC (j : Nat) (b : Int) : ∀ (l : List Dat), (∀ d ∈ l, 0 <= d.i j /\ d.i j <= b) -> 0 <= al j l /\ al j l <= b * l.length
 | [], _ => by simp [al]
 | x :: l, h => by
  have h1 := h x (by simp); have h2 := nC j b l fun d hd => h d (by simp [hd])
  simp only [al, List.length_cons, Int.natCast_add, Int.mul_add]; omega
theorem Eh (k : fQ) : 50000 <= vi k /\ vi k <= 1100000 := by
 have h1 := nC 1 100000 (eT k) (ti k); have h2 := rW k; refine ⟨?_, by unfold vi; omega⟩; have h3 : ∀ (a b : List Dat), al 1 (a ++ b) = al 1 a + al 1 b := by
  intro a b
  induction a with
  | nil => simp [al]
  | cons x a ih => simp only [List.cons_append, al, ih]; omega
 have h4 := nC 1 100000 (jf k.aR) (mE _ _); rw [vi, eT, h3]; have : al 1 [Dat.r [.n 99, .n 50000]] = 50000 := by decide
 omega
theorem xM (l : List Dat) (x : Dat) (a b : Int) : cm (l ++ [x]) a b = (cm l a b || (x.i 0 == a && x.i 1 == b)) := by simp [cm]
def N18 : aA := ⟨T55.tab, 18, ⟨[.agg [.int .i64, .int .i64, .int .i64, .int .i64, .int .i64, .int .i64, .int .i64, .int .i64, .int .i64, .int .i64, .int .i64, .int .i64, .int .i64, .ints .i64, .ints .i64, .ints .i64, .ints .i64, .ints .i64, .ints .i64, .ints .i64]], [], 0⟩, ⟨[.agg [.int .i64, .int .i64, .int .i64, .buf 0 2, .buf 1 3, .int .i64, .int .i64, .int .i64, .int .i64, .int .i64, .int .i64, .int .i64, .int .i64, .int .i64, .int .i64, .buf 2 2, .buf 3 2, .buf 4 2]], [.af (sI 2), .af (sI 3), .af (sI 2), .af (sI 2), .af (sI 2)], 0⟩, []⟩
abbrev CW : Type := Int × Int × Bool × Int × Int × Int × fQ × au × av × au × av × List Dat × Int × Int × List Dat × List Dat × List Dat × List Dat × List Dat × List Dat × List Dat × List Dat × List Dat × List Dat
abbrev nN : Type := Int × Int × Int × fQ × au × av × au × av × List Dat × List Dat × List Dat × List Dat × List Dat × List Dat × List Dat × List Dat × List Dat × List Dat × List Dat
abbrev iN : Type := Int × fQ × au × av × au × av × List Dat × List Dat × List Dat × List Dat × List Dat × List Dat × List Dat × List Dat × List Dat × List Dat
abbrev CS : Type := Int × Int × fQ × au × av × au × av × List Dat × List Dat × List Dat × List Dat × List Dat × List Dat × List Dat × List Dat × List Dat × List Dat
abbrev Dl : Type := Int × Int × Int × fQ × au × av × au × av × List Dat × List Dat × List Dat × List Dat × List Dat × List Dat × List Dat × List Dat × List Dat × List Dat
def wS (m : Nat) (k2 : iN -> Option (List Un)) (k3 : nN -> Option (List Un)) (k : CW -> Option (List Un)) : CW -> Option (List Un) := fun (a0, a1, a2, a3, a4, a5, a6, a7, a8, a9, a10, a11, a12, a13, a14, a15, a16, a17, a18, a19, a20, a21, a22, a23) =>
 bif decide (a5 < a4) then
 chk (inb a5 a11.length) <|
 chk (decide (a5.toNat < a11.length)) <|
 lt (ah a11 a5.toNat : Dat) fun d22 =>
 bif a2 then
 k (a0, a1, true, a3, a4, (w64 (a5 + 1)), a6, a7, a8, a9, a10, a11, a12, a13, a14, a15, a16, a17, a18, a19, a20, a21, a22, a23)
 else
 k (a0, a1, (((d22.i 0) == a12) && (((d22.i 1) == a13) && true)), a3, a4, (w64 (a5 + 1)), a6, a7, a8, a9, a10, a11, a12, a13, a14, a15, a16, a17, a18, a19, a20, a21, a22, a23)
 else
 bif !a2 then
 chk (fits (a11.length + 1) 16) <|
 k3 (a0, (w64 (a1 + 1)), a3, a6, a7, a8, a9, a10, (a11 ++ ([.r [.n a12, .n a13]])), a14, a15, a16, a17, a18, a19, a20, a21, a22, a23)
 else
 k3 (a0, (w64 (a1 + 1)), a3, a6, a7, a8, a9, a10, a11, a14, a15, a16, a17, a18, a19, a20, a21, a22, a23)
def tO (m : Nat) (k2 : iN -> Option (List Un)) (k3 : nN -> Option (List Un)) : Nat -> CW -> Option (List Un) := bc (wS m k2 k3)
theorem ud (m : Nat) (k2 : iN -> Option (List Un)) (k3 : nN -> Option (List Un)) (n : Nat) : tO m k2 k3 (n + 1) = wS m k2 k3 (tO m k2 k3 n) := rfl
def Fy (F : CW -> Option (List Un)) : aP := ⟨[.lp [0, 1, 0, 1, 1, 1, 0, 0, 1, 0, 0, 1, 0, 1, 1, 0, 0, 1, 1, 0, 0, 1, 0, 1, 1, 1, 1, 1, 1, 1], .blk 8, .code [1, 1, 1, 1, 0, 0, 1, 0, 0, 1, 0, 1, 1, 0, 0, 1, 1, 0, 0, 1, 0, 1, 1, 1, 1, 1, 1, 1], .blk 7, .code [1, 1, 0, 0, 1, 0, 1, 1, 0, 0, 1, 1, 0, 0, 1, 0, 1, 1, 1, 1, 1, 1, 1], .lp [0, 1, 0, 1, 1, 0, 0, 1, 1, 0, 0, 1, 0, 1, 1, 1, 1, 1, 1, 1], .blk 6, .code [1, 1, 1, 0, 0, 1, 1, 0, 0, 1, 0, 1, 1, 1, 1, 1, 1, 1], .blk 5, .code [1, 1, 1, 0, 0, 1, 0, 1, 1, 1, 1, 1, 1, 1], .lp [0, 1, 0, 1, 1, 1, 1, 1, 1, 1], .blk 4, .code [1, 1, 1, 1, 1, 1, 1, 1]], ⟨frm 192 [(1, .ptr 0 0 0), (2, .ptr 1 0 0), (3, .ptr 2 0 0), (9, .int .i64), (10, .buf 3 2), (11, .int .i64), (12, .ptr 4 0 0), (13, .bool), (119, .int .i64), (157, .buf 3 2), (158, .int .i64), (159, .int .i64)], [.cells [.int .i64, .int .i64, .int .i64, .int .i64, .int .i64, .int .i64, .int .i64, .int .i64, .int .i64, .int .i64, .int .i64, .int .i64, .int .i64, .ints .i64, .ints .i64, .ints .i64, .ints .i64, .ints .i64, .ints .i64, .ints .i64], .cells [.int .i64, .int .i64, .int .i64, .buf 5 2, .buf 6 3, .int .i64, .int .i64, .int .i64, .int .i64, .int .i64, .int .i64, .int .i64, .int .i64, .int .i64, .int .i64, .buf 7 2, .buf 8 2, .buf 9 2], .cells [.int .i64, .int .i64, .int .i64, .buf 10 2, .buf 11 3, .int .i64, .int .i64, .int .i64, .int .i64, .int .i64, .int .i64, .int .i64, .int .i64, .int .i64, .int .i64, .buf 12 2, .buf 13 2, .buf 14 2], .af (sI 2), .cells [.int .i64, .int .i64], .af (sI 2), .af (sI 3), .af (sI 2), .af (sI 2), .af (sI 2), .af (sI 2), .af (sI 3), .af (sI 2), .af (sI 2), .af (sI 2)], 0⟩, onU F⟩
def yy (m : Nat) (k2 : iN -> Option (List Un)) (k : nN -> Option (List Un)) : nN -> Option (List Un) := fun (a0, a1, a2, a3, a4, a5, a6, a7, a8, a9, a10, a11, a12, a13, a14, a15, a16, a17, a18) =>
 chk (inb a0 3) <|
 chk (decide (a0.toNat < 3)) <|
 bif (decide (a1 < ((List.getD [a3.s0, a3.s1, a3.s2] a0.toNat []).length : Int))) then
 bif decide (a1 < 12) then
 chk (inb a0 3) <|
 chk (decide (a0.toNat < 3)) <|
 chk (inb a1 ((List.getD [a3.s0, a3.s1, a3.s2] a0.toNat []).length)) <|
 chk (decide (a1.toNat < (List.getD [a3.s0, a3.s1, a3.s2] a0.toNat []).length)) <|
 lt (((List.getD [a3.s0, a3.s1, a3.s2] a0.toNat []).getD a1.toNat 0) : Int) fun x19 =>
 bif (within x19 1 7) == 3 then
 chk (inb a0 3) <|
 chk (decide (a0.toNat < 3)) <|
 chk (inb a1 ((List.getD [a3.s0, a3.s1, a3.s2] a0.toNat []).length)) <|
 chk (decide (a1.toNat < (List.getD [a3.s0, a3.s1, a3.s2] a0.toNat []).length)) <|
 tO m k2 k m (a0, a1, false, a2, (a8.length : Int), 0, a3, a4, a5, a6, a7, a8, (within x19 1 7), (within (w64 (((List.getD [a3.s0, a3.s1, a3.s2] a0.toNat []).getD a1.toNat 0).tdiv 7)) 0 3), a9, a10, a11, a12, a13, a14, a15, a16, a17, a18)
 else
 tO m k2 k m (a0, a1, false, a2, (a8.length : Int), 0, a3, a4, a5, a6, a7, a8, (within x19 1 7), 0, a9, a10, a11, a12, a13, a14, a15, a16, a17, a18)
 else
 bif (a8.length : Int) == 0 then
 bif decide (a0 = 0) then
 k2 ((w64 (a2 + 1)), a3, a4, a5, a6, a7, a9, a10, a11, a12, a13, a14, a15, ([.r [.n 1, .n 0], .r [.n 3, .n 0], .r [.n 3, .n 1], .r [.n 4, .n 0], .r [.n 2, .n 0], .r [.n 6, .n 0]] : List Dat), a17, a18)
 else
 bif decide (a0 = 1) then
 k2 ((w64 (a2 + 1)), a3, a4, a5, a6, a7, a9, a10, a11, a12, a13, a14, a15, a16, ([.r [.n 1, .n 0], .r [.n 3, .n 0], .r [.n 3, .n 1], .r [.n 4, .n 0], .r [.n 2, .n 0], .r [.n 6, .n 0]] : List Dat), a18)
 else
 bif decide (a0 = 2) then
 k2 ((w64 (a2 + 1)), a3, a4, a5, a6, a7, a9, a10, a11, a12, a13, a14, a15, a16, a17, ([.r [.n 1, .n 0], .r [.n 3, .n 0], .r [.n 3, .n 1], .r [.n 4, .n 0], .r [.n 2, .n 0], .r [.n 6, .n 0]] : List Dat))
 else
 none
 else
 bif decide (a0 = 0) then
 k2 ((w64 (a2 + 1)), a3, a4, a5, a6, a7, a9, a10, a11, a12, a13, a14, a15, a8, a17, a18)
 else
 bif decide (a0 = 1) then
 k2 ((w64 (a2 + 1)), a3, a4, a5, a6, a7, a9, a10, a11, a12, a13, a14, a15, a16, a8, a18)
 else
 bif decide (a0 = 2) then
 k2 ((w64 (a2 + 1)), a3, a4, a5, a6, a7, a9, a10, a11, a12, a13, a14, a15, a16, a17, a8)
 else
 none
 else
 bif (a8.length : Int) == 0 then
 bif decide (a0 = 0) then
 k2 ((w64 (a2 + 1)), a3, a4, a5, a6, a7, a9, a10, a11, a12, a13, a14, a15, ([.r [.n 1, .n 0], .r [.n 3, .n 0], .r [.n 3, .n 1], .r [.n 4, .n 0], .r [.n 2, .n 0], .r [.n 6, .n 0]] : List Dat), a17, a18)
 else
 bif decide (a0 = 1) then
 k2 ((w64 (a2 + 1)), a3, a4, a5, a6, a7, a9, a10, a11, a12, a13, a14, a15, a16, ([.r [.n 1, .n 0], .r [.n 3, .n 0], .r [.n 3, .n 1], .r [.n 4, .n 0], .r [.n 2, .n 0], .r [.n 6, .n 0]] : List Dat), a18)
 else
 bif decide (a0 = 2) then
 k2 ((w64 (a2 + 1)), a3, a4, a5, a6, a7, a9, a10, a11, a12, a13, a14, a15, a16, a17, ([.r [.n 1, .n 0], .r [.n 3, .n 0], .r [.n 3, .n 1], .r [.n 4, .n 0], .r [.n 2, .n 0], .r [.n 6, .n 0]] : List Dat))
 else
 none
 else
 bif decide (a0 = 0) then
 k2 ((w64 (a2 + 1)), a3, a4, a5, a6, a7, a9, a10, a11, a12, a13, a14, a15, a8, a17, a18)
 else
 bif decide (a0 = 1) then
 k2 ((w64 (a2 + 1)), a3, a4, a5, a6, a7, a9, a10, a11, a12, a13, a14, a15, a16, a8, a18)
 else
 bif decide (a0 = 2) then
 k2 ((w64 (a2 + 1)), a3, a4, a5, a6, a7, a9, a10, a11, a12, a13, a14, a15, a16, a17, a8)
 else
 none
def rP (m : Nat) (k2 : iN -> Option (List Un)) : Nat -> nN -> Option (List Un) := bc (yy m k2)
theorem uj (m : Nat) (k2 : iN -> Option (List Un)) (n : Nat) : rP m k2 (n + 1) = yy m k2 (rP m k2 n) := rfl
def Cp (F : nN -> Option (List Un)) : aP := ⟨[.lp [0, 1, 0, 1, 1, 0, 0, 1, 1, 0, 0, 1, 0, 1, 1, 1, 1, 1, 1, 1], .blk 6, .code [1, 1, 1, 0, 0, 1, 1, 0, 0, 1, 0, 1, 1, 1, 1, 1, 1, 1], .blk 5, .code [1, 1, 1, 0, 0, 1, 0, 1, 1, 1, 1, 1, 1, 1], .lp [0, 1, 0, 1, 1, 1, 1, 1, 1, 1], .blk 4, .code [1, 1, 1, 1, 1, 1, 1, 1]], ⟨frm 192 [(1, .ptr 0 0 0), (2, .ptr 1 0 0), (3, .ptr 2 0 0), (9, .int .i64), (10, .buf 3 2), (11, .int .i64), (119, .int .i64)], [.cells [.int .i64, .int .i64, .int .i64, .int .i64, .int .i64, .int .i64, .int .i64, .int .i64, .int .i64, .int .i64, .int .i64, .int .i64, .int .i64, .ints .i64, .ints .i64, .ints .i64, .ints .i64, .ints .i64, .ints .i64, .ints .i64], .cells [.int .i64, .int .i64, .int .i64, .buf 4 2, .buf 5 3, .int .i64, .int .i64, .int .i64, .int .i64, .int .i64, .int .i64, .int .i64, .int .i64, .int .i64, .int .i64, .buf 6 2, .buf 7 2, .buf 8 2], .cells [.int .i64, .int .i64, .int .i64, .buf 9 2, .buf 10 3, .int .i64, .int .i64, .int .i64, .int .i64, .int .i64, .int .i64, .int .i64, .int .i64, .int .i64, .int .i64, .buf 11 2, .buf 12 2, .buf 13 2], .af (sI 2), .af (sI 2), .af (sI 3), .af (sI 2), .af (sI 2), .af (sI 2), .af (sI 2), .af (sI 3), .af (sI 2), .af (sI 2), .af (sI 2)], 0⟩, onU F⟩
def pd (m : Nat) (k : iN -> Option (List Un)) : iN -> Option (List Un) := fun (a0, a1, a2, a3, a4, a5, a6, a7, a8, a9, a10, a11, a12, a13, a14, a15) =>
 bif decide (a0 < 3) then
 rP m k m (a0, 0, a0, a1, a2, a3, a4, a5, [], a6, a7, a8, a9, a10, a11, a12, a13, a14, a15)
 else
 some (Uns.enc (a4 : au) ++ Uns.enc (a5 : av) ++ [.d a11, .d a12, .d a13, .d a14, .d a15])
def om (m : Nat) : Nat -> iN -> Option (List Un) := bc (pd m)
theorem j7 (m : Nat) (n : Nat) : om m (n + 1) = pd m (om m n) := rfl
def zi (F : iN -> Option (List Un)) : aP := ⟨[.lp [0, 1, 0, 1, 1, 1, 1, 1, 1, 1], .blk 4, .code [1, 1, 1, 1, 1, 1, 1, 1]], ⟨frm 192 [(1, .ptr 0 0 0), (2, .ptr 1 0 0), (3, .ptr 2 0 0), (119, .int .i64)], [.cells [.int .i64, .int .i64, .int .i64, .int .i64, .int .i64, .int .i64, .int .i64, .int .i64, .int .i64, .int .i64, .int .i64, .int .i64, .int .i64, .ints .i64, .ints .i64, .ints .i64, .ints .i64, .ints .i64, .ints .i64, .ints .i64], .cells [.int .i64, .int .i64, .int .i64, .buf 3 2, .buf 4 3, .int .i64, .int .i64, .int .i64, .int .i64, .int .i64, .int .i64, .int .i64, .int .i64, .int .i64, .int .i64, .buf 5 2, .buf 6 2, .buf 7 2], .cells [.int .i64, .int .i64, .int .i64, .buf 8 2, .buf 9 3, .int .i64, .int .i64, .int .i64, .int .i64, .int .i64, .int .i64, .int .i64, .int .i64, .int .i64, .int .i64, .buf 10 2, .buf 11 2, .buf 12 2], .af (sI 2), .af (sI 3), .af (sI 2), .af (sI 2), .af (sI 2), .af (sI 2), .af (sI 3), .af (sI 2), .af (sI 2), .af (sI 2)], 0⟩, onU F⟩
def xj (m : Nat) (k : CS -> Option (List Un)) : CS -> Option (List Un) := fun (a0, a1, a2, a3, a4, a5, a6, a7, a8, a9, a10, a11, a12, a13, a14, a15, a16) =>
 bif decide (a1 < (w64 (1 + (a2.notes.length : Int)))) then
 bif decide (a1 < 5) then
 chk (decide (0 <= a1)) <|
 bif decide (-2305843009213693952 <= 0 /\ 0 <= (w64 (a0.tdiv 6)) /\ (w64 (a0.tdiv 6)) <= 2305843009213693952) then
 chk (decide (0 <= a1)) <|
 chk (decide (0 <= a1)) <|
 chk (fits (a13.length + 1) 24) <|
 k (a0, (w64 (a1 + 1)), a2, a3, a4, a5, a6, a7, a8, a9, a10, a11, a12, (a13 ++ ([.r [.n (within (bF a2.nz a1) 0 3), .n (w64 (1 + (within (bF a2.notes a1) 0 (w64 (a0.tdiv 6))))), .n (within (bF a2.zF a1) 0 1200)]])), a14, a15, a16)
 else
 none
 else
 om m m (0, a2, a3, a4, a5, a6, a7, a8, a9, a10, a11, a12, a13, a14, a15, a16)
 else
 om m m (0, a2, a3, a4, a5, a6, a7, a8, a9, a10, a11, a12, a13, a14, a15, a16)
def sm (m : Nat) : Nat -> CS -> Option (List Un) := bc (xj m)
theorem tI (m : Nat) (n : Nat) : sm m (n + 1) = xj m (sm m n) := rfl
def G7 (F : CS -> Option (List Un)) : aP := ⟨[.lp [0, 1, 0, 1, 1, 1, 1, 1, 1], .blk 2, .code [1, 1, 1, 1, 1, 1, 1]], ⟨frm 192 [(1, .ptr 0 0 0), (2, .ptr 1 0 0), (3, .ptr 2 0 0), (4, .int .i64), (7, .int .i64)], [.cells [.int .i64, .int .i64, .int .i64, .int .i64, .int .i64, .int .i64, .int .i64, .int .i64, .int .i64, .int .i64, .int .i64, .int .i64, .int .i64, .ints .i64, .ints .i64, .ints .i64, .ints .i64, .ints .i64, .ints .i64, .ints .i64], .cells [.int .i64, .int .i64, .int .i64, .buf 3 2, .buf 4 3, .int .i64, .int .i64, .int .i64, .int .i64, .int .i64, .int .i64, .int .i64, .int .i64, .int .i64, .int .i64, .buf 5 2, .buf 6 2, .buf 7 2], .cells [.int .i64, .int .i64, .int .i64, .buf 8 2, .buf 9 3, .int .i64, .int .i64, .int .i64, .int .i64, .int .i64, .int .i64, .int .i64, .int .i64, .int .i64, .int .i64, .buf 10 2, .buf 11 2, .buf 12 2], .af (sI 2), .af (sI 3), .af (sI 2), .af (sI 2), .af (sI 2), .af (sI 2), .af (sI 3), .af (sI 2), .af (sI 2), .af (sI 2)], 0⟩, onU F⟩
def wX (m : Nat) (k : Dl -> Option (List Un)) : Dl -> Option (List Un) := fun (a0, a1, a2, a3, a4, a5, a6, a7, a8, a9, a10, a11, a12, a13, a14, a15, a16, a17) =>
 bif decide (a2 < a1) then
 chk (inb a2 a8.length) <|
 chk (decide (a2.toNat < a8.length)) <|
 k ((w64 (a0 + ((ah a8 a2.toNat).i 1))), a1, (w64 (a2 + 1)), a3, a4, a5, a6, a7, a8, a9, a10, a11, a12, a13, a14, a15, a16, a17)
 else
 sm m m (a0, 0, a3, a4, a5, a6, a7, a9, a10, a11, a12, a13, a8, a14, a15, a16, a17)
def sJ (m : Nat) : Nat -> Dl -> Option (List Un) := bc (wX m)
theorem tB (m : Nat) (n : Nat) : sJ m (n + 1) = wX m (sJ m n) := rfl
def Fl (F : Dl -> Option (List Un)) : aP := ⟨[.lp [0, 1, 0, 1, 1, 1, 1, 1], .blk 0, .code [1, 1, 1, 1, 1, 1]], ⟨frm 192 [(1, .ptr 0 0 0), (2, .ptr 1 0 0), (3, .ptr 2 0 0), (4, .int .i64), (71, .buf 3 2), (72, .int .i64), (73, .int .i64)], [.cells [.int .i64, .int .i64, .int .i64, .int .i64, .int .i64, .int .i64, .int .i64, .int .i64, .int .i64, .int .i64, .int .i64, .int .i64, .int .i64, .ints .i64, .ints .i64, .ints .i64, .ints .i64, .ints .i64, .ints .i64, .ints .i64], .cells [.int .i64, .int .i64, .int .i64, .buf 4 2, .buf 5 3, .int .i64, .int .i64, .int .i64, .int .i64, .int .i64, .int .i64, .int .i64, .int .i64, .int .i64, .int .i64, .buf 6 2, .buf 7 2, .buf 8 2], .cells [.int .i64, .int .i64, .int .i64, .buf 3 2, .buf 9 3, .int .i64, .int .i64, .int .i64, .int .i64, .int .i64, .int .i64, .int .i64, .int .i64, .int .i64, .int .i64, .buf 10 2, .buf 11 2, .buf 12 2], .af (sI 2), .af (sI 2), .af (sI 3), .af (sI 2), .af (sI 2), .af (sI 2), .af (sI 3), .af (sI 2), .af (sI 2), .af (sI 2)], 0⟩, onU F⟩
theorem NL (m : Nat) (k2 : iN -> Option (List Un)) (h2 : HO N18 (zi k2)) (k3 : nN -> Option (List Un)) (h3 : HO N18 (Cp k3)) : ∀ n, HO N18 (Fy (tO m k2 k3 n)) := aw ai T55.right (fun k => [Cp k3, Fy k]) (fun k h => (aE h3 (aE h az))) fun k a => by kernel_rfl
theorem NU (m : Nat) (k2 : iN -> Option (List Un)) (h2 : HO N18 (zi k2)) : ∀ n, HO N18 (Cp (rP m k2 n)) := aw ai T55.right (fun k => [zi k2, Fy (tO m k2 (k) m)]) (fun k h => (aE h2 (aE (NL m _ h2 _ h m) az))) fun k a => by kernel_rfl
theorem OQ (m : Nat) : ∀ n, HO N18 (zi (om m n)) := aw ai T55.right (fun k => [Cp (rP m (k) m)]) (fun k h => (aE (NU m _ h m) az)) fun k a => by kernel_rfl
theorem OE (m : Nat) : ∀ n, HO N18 (G7 (sm m n)) := aw ai T55.right (fun k => [G7 k, zi (om m m)]) (fun k h => (aE h (aE (OQ m m) az))) fun k a => by kernel_rfl
theorem NJ (m : Nat) : ∀ n, HO N18 (Fl (sJ m n)) := aw ai T55.right (fun k => [Fl k, G7 (sm m m)]) (fun k h => (aE h (aE (OE m m) az))) fun k a => by kernel_rfl
def t18 (m : Nat) : fQ -> Option (List Un) := fun a0 =>
 chk (fits ((jf a0.aR).length + 1) 16) <|
 lt (((jf a0.aR) ++ ([.r [.n 99, .n 50000]])) : List Dat) fun l11 =>
 sJ m m (0, (l11.length : Int), 0, a0, (⟨0, 0, 0⟩ : au), (⟨0, 0, 0, 0, 0, 0, 0, 0, 0, 0⟩ : av), (⟨(within a0.a.year 1990 2040), (within a0.a.month 1 12), (within a0.a.basis 0 2)⟩ : au), (⟨(within a0.b.fee 0 200), (within a0.b.bH 0 5000), (within a0.b.target 0 500), (within a0.b.advance 0 3000), (within a0.b.dN 0 3), (within a0.b.oc 0 12000), (within a0.b.ic 0 15000), (within a0.b.late 0 5000), (within a0.b.lS 0 5000), (within a0.b.clean 0 3000)⟩ : av), l11, [], [], [], [], [], [], [], [], [])
section
variable (m : Nat) (k : fQ) (za da : au) (zb db : av) (x1 x2 x3 x4 x5 x6 x7 x8 x9 : List Dat)
theorem M9 : ∀ (rest pre : List Dat) (n : Nat) (p : Int), rest.length < n -> (∀ d ∈ rest, 0 <= d.i 1 /\ d.i 1 <= 100000) -> (pre ++ rest).length <= 11 -> 0 <= p -> p <= 100000 * pre.length ->
 sJ m n (p, ((pre ++ rest).length : Int), (pre.length : Int), k, za, zb, da, db, pre ++ rest, x1, x2, x3, x4, x5, x6, x7, x8, x9) = sm m m (p + al 1 rest, 0, k, za, zb, da, db, x1, x2, x3, x4, x5, pre ++ rest, x6, x7, x8, x9) := by
 intro rest
 induction rest with
 | nil =>
  intro pre n p hn hm hl h0 h1; obtain ⟨n, rfl⟩ := ak n (by simp at hn; omega); rw [tB]; unfold wX; dsimp only; simp [aB, al]
 | cons x rest ih =>
  intro pre n p hn hm hl h0 h1; obtain ⟨n, rfl⟩ := ak n (by simp at hn; omega); simp only [List.length_cons] at hn; rw [tB]; unfold wX; dsimp only; have hx := hm x (by simp); have := ih (pre ++ [x]) n (p + x.i 1) (by omega) (fun d hd => hm d (by simp [hd])) (by simpa using hl) (by omega) (by simp; omega); simp only [List.length_append, List.length_cons] at hl; simp only [al]; simp (disch := omega) only [TRa, TRi, aa, LNl, LNi, Int.cast_ofNat_Int, ao]; simp only [LNl, LNi, Int.cast_ofNat_Int] at this ⊢; exact this
theorem Mn (hs : k.notes.length <= 140737488355328) (p : Int) (hp : 0 <= p) (hp2 : p <= 1100000) : ∀ (c i n : Nat), i + c = min 5 (1 + k.notes.length) -> c < n ->
 sm m n (p, (i : Int), k, za, zb, da, db, x1, x2, x3, x4, x5, x6, (List.range i).map (Ft k p), x7, x8, x9) = om m m (0, k, za, zb, da, db, x1, x2, x3, x4, x5, x6, (List.range (min 5 (1 + k.notes.length))).map (Ft k p), x7, x8, x9) := by
 intro c
 induction c with
 | zero =>
  intro i n hi hn; obtain ⟨n, rfl⟩ := ak n (by omega); rw [<- hi]; rw [tI]; unfold xj; dsimp only
  by_cases h : k.notes.length + 1 < 5
  · have : ¬ (i : Int) < 1 + (k.notes.length : Int) := by omega
    simp (disch := omega) only [TRa, TRi, aa, LNl, LNi, Int.cast_ofNat_Int, ao]; rfl
  · have : ¬ (i : Int) < 5 := by omega
    simp only [aB this, gk]; rfl
 | succ c ih =>
  intro i n hi hn; obtain ⟨n, rfl⟩ := ak n (by omega); have := ih (i + 1) n (by omega) (by omega); rw [List.range_succ, List.map_append] at this; rw [tI]; unfold xj; dsimp only; have hq : 0 <= within (bF k.notes i) 0 (p / 6) /\ within (bF k.notes i) 0 (p / 6) <= p / 6 := ju (by omega); simp (disch := omega) only [td, aa]; simp (disch := omega) only [TRa, TRi, aa, LNl, LNi, Int.cast_ofNat_Int, ao]; simp only [LNl, LNi, Int.cast_ofNat_Int] at this ⊢; exact this
theorem KP (x10 : List Dat) (k2 : iN -> Option (List Un)) (k3 : nN -> Option (List Un)) (mi i m2 a b : Int) : ∀ (rest pre : List Dat) (n : Nat), rest.length < n -> (pre ++ rest).length <= 12 ->
 tO m k2 k3 n (mi, i, cm pre a b, m2, ((pre ++ rest).length : Int), (pre.length : Int), k, za, zb, da, db, pre ++ rest, a, b, x1, x2, x3, x4, x5, x6, x7, x8, x9, x10) = k3 (mi, w64 (i + 1), m2, k, za, zb, da, db, (if cm (pre ++ rest) a b then pre ++ rest else pre ++ rest ++ [.r [.n a, .n b]]), x1, x2, x3, x4, x5, x6, x7, x8, x9, x10) := by
 intro rest
 induction rest with
 | nil =>
  intro pre n hn hl; obtain ⟨n, rfl⟩ := ak n (by simp at hn; omega); simp only [List.append_nil] at hl ⊢; rw [ud]; unfold wS; dsimp only; cases h : cm pre a b <;> simp (disch := omega) only [TRa, TRi, aa, LNl, LNi, Int.cast_ofNat_Int, ao] <;> simp
 | cons x rest ih =>
  intro pre n hn hl; obtain ⟨n, rfl⟩ := ak n (by simp at hn; omega); simp only [List.length_cons, List.length_append] at hn hl; rw [ud]; unfold wS; dsimp only; have := ih (pre ++ [x]) n (by omega) (by simp; omega); rw [xM] at this; cases h : cm pre a b <;> rw [h] at this <;> simp (disch := omega) only [TRa, TRi, aa, LNl, LNi, Int.cast_ofNat_Int, ao] <;> simp only [LNl, LNi, Int.cast_ofNat_Int] at this ⊢ <;> simpa using this
theorem LA (x10 : List Dat) (k2 : iN -> Option (List Un)) (mi m2 : Int) (h0 : 0 <= mi) (h1 : mi < 3) (hm : 12 < m) (l : List Int) (hl : List.getD [k.s0, k.s1, k.s2] mi.toNat [] = l) : ∀ (rest pre : List Int) (acc : List Dat) (n : Nat), rest.length < n -> l.take 12 = pre ++ rest -> acc.length <= pre.length ->
 rP m k2 n (mi, (pre.length : Int), m2, k, za, zb, da, db, acc, x1, x2, x3, x4, x5, x6, x7, x8, x9, x10) =
  bif decide (mi = 0) then k2 (w64 (m2 + 1), k, za, zb, da, db, x1, x2, x3, x4, x5, x6, x7, (if (je acc rest).length = 0 then xG else je acc rest), x9, x10)
  else bif decide (mi = 1) then k2 (w64 (m2 + 1), k, za, zb, da, db, x1, x2, x3, x4, x5, x6, x7, x8, (if (je acc rest).length = 0 then xG else je acc rest), x10)
  else bif decide (mi = 2) then k2 (w64 (m2 + 1), k, za, zb, da, db, x1, x2, x3, x4, x5, x6, x7, x8, x9, (if (je acc rest).length = 0 then xG else je acc rest)) else none := by
 intro rest
 induction rest with
 | nil =>
  intro pre acc n hn hp ha; obtain ⟨n, rfl⟩ := ak n (by simp at hn; omega); have hpl : min 12 l.length = pre.length := by have := congrArg List.length hp; simpa using this
  rw [uj]; unfold yy; dsimp only; simp only [hl, je]
  by_cases hz : acc.length = 0
  · simp only [hz, if_true]
    by_cases h : l.length < 12
    · have : ¬ (pre.length : Int) < (l.length : Int) := by omega
      simp (disch := omega) only [TRa, TRi, aa, LNl, LNi, Int.cast_ofNat_Int, ao]; rfl
    · have : ¬ (pre.length : Int) < 12 := by omega
      by_cases h' : (pre.length : Int) < (l.length : Int)
      · simp (disch := omega) only [TRa, TRi, aa, LNl, LNi, Int.cast_ofNat_Int, ao]; rfl
      · simp (disch := omega) only [TRa, TRi, aa, LNl, LNi, Int.cast_ofNat_Int, ao]; rfl
  · simp only [hz, if_false]
    by_cases h : l.length < 12
    · have : ¬ (pre.length : Int) < (l.length : Int) := by omega
      simp (disch := omega) only [TRa, TRi, aa, LNl, LNi, Int.cast_ofNat_Int, ao]
    · have : ¬ (pre.length : Int) < 12 := by omega
      by_cases h' : (pre.length : Int) < (l.length : Int)
      · simp (disch := omega) only [TRa, TRi, aa, LNl, LNi, Int.cast_ofNat_Int, ao]
      · simp (disch := omega) only [TRa, TRi, aa, LNl, LNi, Int.cast_ofNat_Int, ao]
 | cons x rest ih =>
  intro pre acc n hn hp ha; obtain ⟨n, rfl⟩ := ak n (by simp at hn; omega); simp only [List.length_cons] at hn; have hpl : min 12 l.length = pre.length + (rest.length + 1) := by have := congrArg List.length hp; simpa using this
  have hx : l.getD pre.length 0 = x := by
   have : (l.take 12)[pre.length]? = some x := by rw [hp]; simp
   rw [List.getElem?_take, if_pos (by omega)] at this; simp [this]
  have := ih (pre ++ [x]) (if cm acc (within x 1 7) (qz x) then acc else acc ++ [.r [.n (within x 1 7), .n (qz x)]]) n (by omega) (by simpa using hp) (by split <;> simp <;> omega); refine Eq.trans ?_ this; have h4 := fun a b => KP m k za da zb db x1 x2 x3 x4 x5 x6 x7 x8 x9 x10 k2 (rP m k2 n) mi (pre.length : Int) m2 a b acc [] m (by omega) (by simp; omega)
  rw [uj]; unfold yy; dsimp only; simp only [List.nil_append, show ∀ a b, cm [] a b = false from fun _ _ => rfl] at h4; simp only [hl, Int.toNat_natCast, hx]; have e1 : (pre.length : Int) < (l.length : Int) := by omega
  have e2 : (pre.length : Int) < 12 := by omega
  by_cases h3 : within x 1 7 = 3
  · have hr : qz x = within (w64 (x.tdiv 7)) 0 3 := by unfold qz; rw [if_pos h3]
    simp (disch := omega) only [TRa, TRi, aa, LNl, LNi, Int.cast_ofNat_Int, ao]; refine (h4 _ _).trans ?_
    rw [hr, aa (by omega) (by omega)]
  · have hr : qz x = 0 := by unfold qz; rw [if_neg h3]
    simp (disch := omega) only [TRa, TRi, aa, LNl, LNi, Int.cast_ofNat_Int, ao]; refine (h4 _ _).trans ?_
    rw [hr, aa (by omega) (by omega)]
end
def f18 : fQ -> Bool × List Un := fun a0 => (decide (a0.notes.length <= 140737488355328), Uns.enc (((gy a0).a) : au) ++ Uns.enc (((gy a0).b) : av) ++ [.d ((gy a0).aR), .d ((gy a0).notes), .d ((gy a0).s0), .d ((gy a0).s1), .d ((gy a0).s2)])
set_option maxHeartbeats 1000000 in
theorem Lq (a0 : fQ) (hc : (decide (a0.notes.length <= 140737488355328)) = true) : ∃ m, t18 m a0 = some (Uns.enc (((gy a0).a) : au) ++ Uns.enc (((gy a0).b) : av) ++ [.d ((gy a0).aR), .d ((gy a0).notes), .d ((gy a0).s0), .d ((gy a0).s1), .d ((gy a0).s2)]) := by
 have hs := of_decide_eq_true hc; refine ⟨20, ?_⟩; unfold t18; have h1 := rW a0; have h2 := Eh a0; dsimp only [lt]; change chk (fits ((jf a0.aR).length + 1) 16) (sJ 20 20 (0, ((eT a0).length : Int), 0, a0, _, _, _, _, eT a0, [], [], [], [], [], [], [], [], [])) = _; rw [sn (by simp [eT] at h1; omega) (by simp [eT] at h1; omega)]; have e0 := M9 20 a0 ⟨0, 0, 0⟩ ⟨within a0.a.year 1990 2040, within a0.a.month 1 12, within a0.a.basis 0 2⟩ ⟨0, 0, 0, 0, 0, 0, 0, 0, 0, 0⟩ (gy a0).b [] [] [] [] [] [] [] [] [] (eT a0) [] 20 0 (by omega) (ti a0) h1 (by omega) (by simp); have e1 := Mn 20 a0 ⟨0, 0, 0⟩ ⟨within a0.a.year 1990 2040, within a0.a.month 1 12, within a0.a.basis 0 2⟩ ⟨0, 0, 0, 0, 0, 0, 0, 0, 0, 0⟩ (gy a0).b [] [] [] [] [] (eT a0) [] [] [] hs (vi a0) (by omega) (by omega) (min 5 (1 + a0.notes.length)) 0 20 (by omega) (by omega); have e3 := fun k2 mi m2 g0 g1 l hl l8 l9 l10 => LA 20 a0 ⟨0, 0, 0⟩ ⟨within a0.a.year 1990 2040, within a0.a.month 1 12, within a0.a.basis 0 2⟩ ⟨0, 0, 0, 0, 0, 0, 0, 0, 0, 0⟩ (gy a0).b [] [] [] [] [] (eT a0) (Fc a0) l8 l9 l10 k2 mi m2 g0 g1 (by omega) l hl (l.take 12) [] [] 20 (by simp; omega) rfl (by simp)
 simp only [List.nil_append, Int.zero_add] at e0; refine e0.trans (e1.trans ?_); have q1 : ∀ {α : Type} (u v w : α), (bif decide ((0 : Int) = 0) then u else bif decide ((0 : Int) = 1) then v else w) = u := fun _ _ _ => rfl
 have q2 : ∀ {α : Type} (u v w : α), (bif decide ((1 : Int) = 0) then u else bif decide ((1 : Int) = 1) then v else w) = v := fun _ _ _ => rfl
 have q3 : ∀ {α : Type} (u v w x : α), (bif decide ((2 : Int) = 0) then u else bif decide ((2 : Int) = 1) then v else bif decide ((2 : Int) = 2) then w else x) = w := fun _ _ _ _ => rfl
 have w1 : w64 (0 + 1) = 1 := by decide
 have w2 : w64 (1 + 1) = 2 := by decide
 have w3 : w64 (2 + 1) = 3 := by decide
 rw [show om 20 20 = om 20 (16 + 4) from rfl, j7]; unfold pd; dsimp only; rw [bT (by decide)]; refine (e3 _ 0 0 (by decide) (by decide) a0.s0 rfl [] [] []).trans ?_
 rw [q1, w1, j7]; unfold pd; dsimp only; rw [bT (by decide)]; refine (e3 _ 1 1 (by decide) (by decide) a0.s1 rfl _ [] []).trans ?_
 rw [q2, w2, j7]; unfold pd; dsimp only; rw [bT (by decide)]; refine (e3 _ 2 2 (by decide) (by decide) a0.s2 rfl _ _ []).trans ?_
 rw [q3, w3, j7]; unfold pd; dsimp only; rw [aB (by decide)]; rfl
theorem Hp : ER 18 (mkE N18.en N18.ex f18) := an ai T55.right (fun m => [Fl (sJ m m)]) (t := t18) (by kernel_rfl) (fun m => (aE (NJ m m) az)) (fun m a => by kernel_rfl) fun a0 hc => Lq a0 hc
def T18 : Tb Tryz.prog LQ TE := T55.add 18 _ Hp
end
end Go.Proofs.YtdbkoeefnodejaaGreat
