/-
  Tables: functions of plain values told before, functions with lists told now. The end of a law of plain values.
-/
import Derived.Test.YtoiijpphfckdjaaF15
namespace Go.Proofs.Ytoiijpphfckdjaa.Ev
noncomputable section
open Go
set_option linter.unusedVariables false
set_option linter.unusedSimpArgs false

/-! ### Plain values -/
def scE : SV → Option Value
  | .i k n => some (.int k n)
  | .b x => some (.bool x)
  | _ => none
def scsE : List SV → Option (List Value)
  | [] => some []
  | s :: l => match scE s with | some v => (match scsE l with | some vs => some (v :: vs) | none => none) | none => none
def valE : SV → Option Value
  | .agg l => match scsE l with | some vs => some (.agg vs.toArray) | none => none
  | s => scE s
def valsE : List SV → Option (List Value)
  | [] => some []
  | s :: l => match valE s with | some v => (match valsE l with | some vs => some (v :: vs) | none => none) | none => none
def scS : Value → Option SV
  | .int k n => some (.i k n)
  | .bool x => some (.b x)
  | _ => none
def scsS : List Value → Option (List SV)
  | [] => some []
  | v :: l => match scS v with | some s => (match scsS l with | some r => some (s :: r) | none => none) | none => none
def valS : Value → Option SV
  | .agg vs => match scsS vs.toList with | some l => some (.agg l) | none => none
  | v => scS v
def valsS : List Value → Option (List SV)
  | [] => some []
  | v :: l => match valS v with | some s => (match valsS l with | some r => some (s :: r) | none => none) | none => none
def resS : Value → Option SV
  | .tuple vs => match valsS vs.toList with | some l => some (.tup l) | none => none
  | v => valS v

section
variable {φ : Phi} {H : Heap} {own : Nat → Prop}

theorem scE_eq {s : SV} {v w : Value} (h : scE s = some w) (hd : DV φ H own s v) : v = w := by
  cases s <;> simp only [scE, Option.some.injEq] at h <;> first | (cases h; done) | (subst h; cases hd; rfl)
theorem scsE_eq : ∀ {l : List SV} {vs ws : List Value}, scsE l = some ws → DVL φ H own l vs → vs = ws
  | [], vs, ws, h, hd => by cases h; exact hd.nil_inv
  | s :: l, vs, ws, h, hd => by
    obtain ⟨v, vs', rfl, h1, h2⟩ := hd.uncons
    simp only [scsE] at h
    split at h
    · rename_i w hw
      split at h
      · rename_i ws' hws
        cases h
        rw [scE_eq hw h1, scsE_eq hws h2]
      · cases h
    · cases h
theorem valE_eq {s : SV} {v w : Value} (h : valE s = some w) (hd : DV φ H own s v) : v = w := by
  unfold valE at h
  split at h
  · rename_i l
    split at h
    · rename_i vs hvs
      cases h
      cases hd with
      | agg _ x' hx vx =>
        have : x'.toList = vs := scsE_eq hvs ⟨by simpa using hx, fun i s v a b => vx i s v a (by simpa using b)⟩
        subst this
        rfl
    · cases h
  · exact scE_eq h hd
theorem valsE_eq : ∀ {l : List SV} {vs ws : List Value}, valsE l = some ws → DVL φ H own l vs → vs = ws
  | [], vs, ws, h, hd => by cases h; exact hd.nil_inv
  | s :: l, vs, ws, h, hd => by
    obtain ⟨v, vs', rfl, h1, h2⟩ := hd.uncons
    simp only [valsE] at h
    split at h
    · rename_i w hw
      split at h
      · rename_i ws' hws
        cases h
        rw [valE_eq hw h1, valsE_eq hws h2]
      · cases h
    · cases h
theorem scS_DV {s : SV} {v : Value} (h : scS v = some s) : DV φ H own s v := by
  cases v <;> simp only [scS, Option.some.injEq] at h <;> first | (cases h; done) | (subst h; constructor)
theorem scsS_DV : ∀ {l : List SV} {vs : List Value}, scsS vs = some l → DVL φ H own l vs
  | l, [], h => by cases h; exact .nil
  | l, v :: vs, h => by
    simp only [scsS] at h
    split at h
    · rename_i s hs
      split at h
      · rename_i r hr
        cases h
        exact .cons (scS_DV hs) (scsS_DV hr)
      · cases h
    · cases h
theorem DVL.agg {l : List SV} {x : Array Value} (h : DVL φ H own l x.toList) : DV φ H own (.agg l) (.agg x) :=
  .agg l x (by simpa using h.1) (fun i s v a b => h.2 i s v a (by simpa using b))
theorem DVL.tup {l : List SV} {x : Array Value} (h : DVL φ H own l x.toList) : DV φ H own (.tup l) (.tuple x) :=
  .tup l x (by simpa using h.1) (fun i s v a b => h.2 i s v a (by simpa using b))
theorem valS_DV {s : SV} {v : Value} (h : valS v = some s) : DV φ H own s v := by
  unfold valS at h
  split at h
  · split at h
    · rename_i l hl; cases h; exact (scsS_DV hl).agg
    · cases h
  · exact scS_DV h
theorem valsS_DV : ∀ {l : List SV} {vs : List Value}, valsS vs = some l → DVL φ H own l vs
  | l, [], h => by cases h; exact .nil
  | l, v :: vs, h => by
    simp only [valsS] at h
    split at h
    · rename_i s hs
      split at h
      · rename_i r hr
        cases h
        exact .cons (valS_DV hs) (valsS_DV hr)
      · cases h
    · cases h
theorem resS_DV {s : SV} {v : Value} (h : resS v = some s) : DV φ H own s v := by
  unfold resS at h
  split at h
  · split at h
    · rename_i l hl; cases h; exact (valsS_DV hl).tup
    · cases h
  · exact valS_DV h
end

/-! ### Tables -/
/-- What was told of functions of plain values. -/
def ofE (TE : Tab) : TabS := fun g args S =>
  match valsE args with
  | some vs => (match TE g vs with | some (c, v) => (match resS v with | some s => some (c, s, S) | none => none) | none => none)
  | none => none
def tabS (TE : Tab) : List (FuncId × EntS) → TabS
  | [], g, args, S => ofE TE g args S
  | (h, e) :: r, g, args, S => match g == h with
    | true => (match e.run args S with | some x => some x | none => tabS TE r g args S)
    | false => tabS TE r g args S

section
variable {P : Program} {L : List FuncId} {TE : Tab}

def EntSRight (P : Program) (L : List FuncId) (O : Known) (g : FuncId) (e : EntS) : Prop := ∀ us ys, e.f us = some (true, ys) → TellsS P L O g e.en e.ex us ys

theorem tabS_right : ∀ {l : List (FuncId × EntS)}, (∀ p ∈ l, EntSRight P L (ofTab TE) p.1 p.2) → TabRight P L (ofTab TE) (tabS TE l)
  | [], _ => by
    intro g args S v S' h φ H vs _ hS hd
    unfold tabS ofE at h
    split at h
    · rename_i ws hws
      split at h
      · rename_i c w hw
        split at h
        · rename_i s hs
          cases h
          have := valsE_eq hws hd
          subst this
          exact ⟨1, w, H, callE_told (by unfold ofTab; rw [hw]), .same hS (resS_DV hs)⟩
        · cases h
      · cases h
    · cases h
  | (i, e) :: r, hl => by
    intro g args S v S' h φ H vs hnb hS hd
    have hr := tabS_right (l := r) (fun p hp => hl p (List.mem_cons_of_mem _ hp))
    unfold tabS at h
    split at h
    · rename_i hg
      rw [beq_iff_eq] at hg
      subst hg
      split at h
      · rename_i x hx
        cases h
        exact EntS.sound (hl (g, e) (by simp)) hx hnb hS hd
      · exact hr g args S v S' h φ H vs hnb hS hd
    · exact hr g args S v S' h φ H vs hnb hS hd

/-- Which functions were told of before. -/
def knOf (l : List (FuncId × (List Value → Option (Bool × Value)))) : FuncId → Bool := fun g => l.any fun p => g == p.1
theorem knOf_none : ∀ {l : List (FuncId × (List Value → Option (Bool × Value)))} (g : FuncId), knOf l g = false → ∀ args, ofTab (tabOf l) g args = none
  | [], g, _, args => rfl
  | (i, e) :: r, g, h, args => by
    simp only [knOf, List.any_cons, Bool.or_eq_false_iff] at h
    have := knOf_none (l := r) g h.2 args
    unfold ofTab at this ⊢
    unfold tabOf
    rw [h.1]
    exact this

/-- An entry of Lean's own data. -/
def mkE {A : Type} [Uns A] (en ex : Pn) (f : A → Bool × List Un) : EntS := ⟨en, ex, onU fun a => some (f a)⟩
theorem right_of {A : Type} [Uns A] {O : Known} {kn : FuncId → Bool} (hkn : ∀ g, kn g = false → ∀ args, O g args = none) {F : RoadF} (hT : TabRight P L O F.T) (W : Nat → List StopS) {t : Nat → A → Option (List Un)} {f : A → Bool × List Un}
    (hb : (!(kn F.g) && ((P.funcs[F.g]?).isSome && (fnOf P F.g).body.isSome)) = true) (hW : ∀ m, ∀ t ∈ W m, F.Holds P L O t) (G : ∀ m a, F.road P L kn (Uns.enc a) (W m) = t m a)
    (spec : ∀ a, (f a).1 = true → ∃ m, t m a = some (f a).2) : EntSRight P L O F.g (mkE F.en F.ex f) := by
  intro us ys h
  obtain ⟨a, rfl, h2⟩ := onU_some h
  simp only [Bool.and_eq_true, Bool.not_eq_true'] at hb
  have h3 : f a = (true, ys) := Option.some.inj h2
  obtain ⟨m, hm⟩ := spec a (by rw [h3])
  rw [h3] at hm
  exact RoadF.tells hkn hT hb.1 hb.2.1 hb.2.2 (hW m) ((G m a).trans hm)

/-- A table, entry by entry. -/
structure Tb (P : Program) (L : List FuncId) (TE : Tab) where
  l : List (FuncId × EntS)
  ok : ∀ p ∈ l, EntSRight P L (ofTab TE) p.1 p.2
def Tb.nil : Tb P L TE := ⟨[], fun _ h => by cases h⟩
def Tb.add (T : Tb P L TE) (g : FuncId) (e : EntS) (h : EntSRight P L (ofTab TE) g e) : Tb P L TE := ⟨(g, e) :: T.l, fun p hp => by
  rcases List.mem_cons.1 hp with rfl | hp
  · exact h
  · exact T.ok p hp⟩
def Tb.tab (T : Tb P L TE) : TabS := tabS TE T.l
theorem Tb.right (T : Tb P L TE) : TabRight P L (ofTab TE) T.tab := tabS_right T.ok
end
end
end Go.Proofs.Ytoiijpphfckdjaa.Ev
