/-
  Every operation of the evaluator is the machine's: all kinds.
-/
import Derived.Test.YtoiijpphfckdjaaE8
namespace Go.Proofs.Ytoiijpphfckdjaa.Ev
open Go
set_option linter.unusedSimpArgs false

/-- A call of the evaluator is the machine's call. -/
def CallOk (P : Program) (g : FuncId) (args : List Value) (H : Heap) (v : Value) (H' : Heap) : Prop :=
  (∃ fn c, P.funcs[g]? = some fn ∧ fn.body = some c ∧ fn.name ≠ "runtime.NumGoroutine") ∧
  ∀ (f : Fm) (w : World) (args' : List Value), R f H w → (∀ j, H.size ≤ j → j < H'.size → f j = none) → VL f args args' →
    Calls P g args'.toArray w fun e w' => ∃ f' v', e = .returned v' ∧ V f' v v' ∧ Stp f H w f' H' w' ∧ R f' H' w'

def ClOk (P : Program) (cl : FuncId → List Value → Heap → Option (Value × Heap)) : Prop :=
  ∀ g args H v H', cl g args H = some (v, H') → CallOk P g args H v H'

section
variable {P : Program} {f : Fm} {H : Heap} {w : World} {cl : FuncId → List Value → Heap → Option (Value × Heap)}

theorem partsE_sound {ρ : Operand → Option Value} {ρ' : Operand → Value} : ∀ (ps : List (Nat × Operand)) (vs : List (Nat × Value)), (∀ x ∈ ps.map (·.2), ∀ v, ρ x = some v → V f v (ρ' x)) →
    partsE ρ ps = some vs → PV f vs (ps.map fun (i, x) => (i, ρ' x)) := by
  intro ps
  induction ps with
  | nil => intro vs _ h; simp [partsE] at h; subst h; exact .nil
  | cons p ps ih =>
    intro vs hr h
    obtain ⟨i, x⟩ := p
    simp only [partsE] at h
    split at h
    · rename_i v vs' hv hvs
      cases h
      cases hx : ρ x with
      | none => simp [hx] at hv
      | some u =>
        simp only [hx, Option.bind_some] at hv
        have huv : u = v := by cases u <;> simp [noTuple] at hv <;> exact hv
        subst huv
        exact .cons i u _ vs' _ (hr x (by simp) u hx) hv (ih vs' (fun y hy => hr y (by simp at hy ⊢; exact .inr hy)) hvs)
    · cases h

theorem argsE_sound {ρ : Operand → Option Value} {ρ' : Operand → Value} : ∀ (xs : List Operand) (vs : List Value), (∀ x ∈ xs, ∀ v, ρ x = some v → V f v (ρ' x)) →
    argsE ρ xs = some vs → VL f vs (xs.map ρ') := by
  intro xs
  induction xs with
  | nil => intro vs _ h; simp [argsE] at h; subst h; exact .nil f
  | cons x xs ih =>
    intro vs hr h
    simp only [argsE] at h
    split at h
    · rename_i v vs' hv hvs
      cases h
      exact .cons (hr x (by simp) v hv) (ih vs' (fun y hy => hr y (by simp [hy])) hvs)
    · cases h

theorem optE_sound {ρ : Operand → Option Value} {ρ' : Operand → Value} {x : Option Operand} {v : Option Value} (hr : ∀ y ∈ x.toArray, ∀ v, ρ y = some v → V f v (ρ' y)) (h : optE ρ x = some v) :
    VO f v (x.map ρ') := by
  cases x with
  | none => simp [optE] at h; subst h; trivial
  | some y =>
    simp [optE] at h
    obtain ⟨u, hu, rfl⟩ := h
    exact hr y (by simp) u hu

/-- What an operation that calls nothing does. -/
def Did (P : Program) (o : Oper) (ρ' : Operand → Value) (f : Fm) (H : Heap) (w : World) (v : Value) (H' : Heap) : Prop :=
  ∃ f' w' v', ((execOp ρ' o).run P w = .ok (.value v') w' ∨ ((execOp ρ' o).run P w = .ok .skip w' ∧ v' = undef)) ∧ V f' v v' ∧ Stp f H w f' H' w' ∧ R f' H' w'

theorem Did.pure (hR : R f H w) {o : Oper} {ρ' : Operand → Value} {v v' : Value} (h : (execOp ρ' o).run P w = .ok (.value v') w) (hv : V f v v') : Did P o ρ' f H w v H :=
  ⟨f, w, v', .inl h, hv, .refl f H w, hR⟩

theorem op_did (hR : R f H w) {o : Oper} {ρ : Operand → Option Value} {ρ' : Operand → Value} (hρ : ∀ x ∈ o.op.operands, ∀ v, ρ x = some v → V f v (ρ' x)) {v : Value} {H' : Heap}
    (hfree : ∀ j, H.size ≤ j → j < H'.size → f j = none) (hnc : ∀ c g, o.op = .call c → c.callee ≠ .value g) (h : opE P cl ρ o H = some (v, H')) : Did P o ρ' f H w v H' := by
  obtain ⟨dst, op, type, pos, after, guard⟩ := o
  simp only at hρ hnc
  unfold opE at h
  cases op <;> simp only at h <;> try (cases h; done)
  case move x =>
    simp only [Option.map_eq_some_iff] at h
    obtain ⟨u, hu, e⟩ := h; cases e
    exact .pure hR (by simp [execOp]) (hρ x (by simp [Op.operands]) _ hu)
  case assign x =>
    simp only [Option.map_eq_some_iff] at h
    obtain ⟨u, hu, e⟩ := h; cases e
    exact .pure hR (by simp [execOp]) (hρ x (by simp [Op.operands]) _ hu)
  case pick c a b =>
    split at h
    · rename_i t hc
      simp only [Option.map_eq_some_iff] at h
      obtain ⟨u, hu, e⟩ := h; cases e
      have hc' := hρ c (by simp [Op.operands]) _ hc
      cases hcc : ρ' c <;> rw [hcc] at hc' <;> try (cases hc'; done)
      cases hc'
      cases t with
      | true => exact .pure hR (by simp [execOp, hcc, asBool]) (hρ a (by simp [Op.operands]) _ hu)
      | false => exact .pure hR (by simp [execOp, hcc, asBool]) (hρ b (by simp [Op.operands]) _ hu)
    · cases h
  case alloc e =>
    split at h
    · rename_i z hz
      simp only [Option.map_eq_some_iff] at h
      obtain ⟨cs, hcs, he⟩ := h; cases he
      obtain ⟨f', w', h1, h2, h3, h4⟩ := alloc_sound hR (hfree _ (Nat.le_refl _) (by simp [pushV])) e hz hcs
      exact ⟨f', w', _, .inl (by simp [execOp, h1]), h2, h3, h4⟩
    · cases h
  case box e x =>
    simp only [Option.map_eq_some_iff, Option.bind_eq_some_iff] at h
    obtain ⟨cs, ⟨u, hu, hcs⟩, he⟩ := h; cases he
    obtain ⟨f', w', h1, h2, h3, h4⟩ := box_sound (P := P) hR (hfree _ (Nat.le_refl _) (by simp [pushV])) e (hρ x (by simp [Op.operands]) _ hu) hcs
    exact ⟨f', w', _, .inl (by simp [execOp, h1]), h2, h3, h4⟩
  case build t ps =>
    simp only [Option.map_eq_some_iff, Option.bind_eq_some_iff] at h
    obtain ⟨u, ⟨vs, hvs, hb⟩, he⟩ := h; cases he
    have hp := partsE_sound (f := f) (ρ' := ρ') ps.toList vs (fun x hx => hρ x (by simpa [Op.operands] using hx)) hvs
    obtain ⟨v', h1, h2⟩ := buildE_sound (P := P) (w := w) hp hb
    refine .pure hR ?_ h2
    have e : (ps.toList.map fun (i, x) => (i, ρ' x)).toArray = ps.map fun (i, x) => (i, ρ' x) := by
      apply Array.ext'
      simp only [Array.toList_map]
    rw [e] at h1
    simp [execOp, h1]
  case buildSlice t n ps =>
    simp only [Option.bind_eq_some_iff] at h
    obtain ⟨vs, hvs, hb⟩ := h
    have hp := partsE_sound (f := f) (ρ' := ρ') ps.toList vs (fun x hx => hρ x (by simpa [Op.operands] using hx)) hvs
    have hsz : H'.size = H.size + 1 := by
      unfold buildSliceE at hb
      repeat' split at hb
      all_goals first | (cases hb; done) | (cases hb; simp [pushV])
    obtain ⟨f', w', v', h1, h2, h3, h4⟩ := buildSliceE_sound (P := P) hR (hfree _ (Nat.le_refl _) (by omega)) hp hb
    have e : (ps.toList.map fun (i, x) => (i, ρ' x)).toArray = ps.map fun (i, x) => (i, ρ' x) := by
      apply Array.ext'
      simp only [Array.toList_map]
    rw [e] at h1
    exact ⟨f', w', v', .inl (by simp [execOp, h1]), h2, h3, h4⟩
  case load t a =>
    simp only [Option.map_eq_some_iff, Option.bind_eq_some_iff] at h
    obtain ⟨u, ⟨p, hp, hl⟩, he⟩ := h; cases he
    obtain ⟨v', h1, h2⟩ := loadE_sound hR (hρ a (by simp [Op.operands]) _ hp) hl
    exact .pure hR (by simp [execOp, h1]) h2
  case store t a x =>
    split at h
    · rename_i p u hp hu
      simp only [Option.map_eq_some_iff] at h
      obtain ⟨H2, hs, he⟩ := h; cases he
      obtain ⟨w', h1, h2, h3⟩ := storeE_sound hR (hρ a (by simp [Op.operands]) _ hp) (hρ x (by simp [Op.operands]) _ hu) hs
      exact ⟨f, w', undef, .inr ⟨by simp [execOp, h1], rfl⟩, V.undef f, h2, h3⟩
    · cases h
  case nilCheck x =>
    split at h
    · rename_i a ha
      cases h
      have hv := hρ x (by simp [Op.operands]) _ ha
      cases hx : ρ' x <;> rw [hx] at hv <;> try (cases hv; done)
      rename_i a'
      cases a' with
      | none => cases hv
      | some a' => exact .pure hR (by simp [execOp, hx]) hv
    · rename_i a n c ha
      cases h
      have hv := hρ x (by simp [Op.operands]) _ ha
      cases hx : ρ' x <;> rw [hx] at hv <;> try (cases hv; done)
      exact .pure hR (by simp [execOp, hx]) hv
    · rename_i g y z ha
      cases h
      have hv := hρ x (by simp [Op.operands]) _ ha
      cases hx : ρ' x <;> rw [hx] at hv <;> try (cases hv; done)
      rename_i fn y' z'
      cases fn with
      | func g' => exact .pure hR (by simp [execOp, hx]) hv
      | _ => cases hv
    · cases h
  case binOp op t x y ty =>
    split at h
    · rename_i a b ha hb
      simp only [Option.map_eq_some_iff] at h
      obtain ⟨u, hu, he⟩ := h; cases he
      obtain ⟨h1, h2, h3⟩ := binE_sound (w := w) (hρ x (by simp [Op.operands]) _ ha) (hρ y (by simp [Op.operands]) _ hb) hu
      exact .pure hR (by simp [execOp, h1, h2]) h3
    · cases h
  case unOp op t x =>
    simp only [Option.map_eq_some_iff, Option.bind_eq_some_iff] at h
    obtain ⟨u, ⟨p, hp, hl⟩, he⟩ := h; cases he
    obtain ⟨h1, h2⟩ := unE_sound (P := P) (w := w) (hρ x (by simp [Op.operands]) _ hp) hl
    exact .pure hR (by simp [execOp, h1]) h2
  case convert s d x =>
    simp only [Option.map_eq_some_iff, Option.bind_eq_some_iff] at h
    obtain ⟨u, ⟨p, hp, hl⟩, he⟩ := h; cases he
    obtain ⟨h1, h2⟩ := convE_sound (P := P) (w := w) (hρ x (by simp [Op.operands]) _ hp) hl
    exact .pure hR (by simp [execOp, h1]) h2
  case makeFunc fn a b =>
    split at h
    · rename_i g xs ys hxs hys
      cases h
      have v1 := argsE_sound (f := f) (ρ' := ρ') a.toList xs (fun x hx => hρ x (by simp [Op.operands]; exact .inl (by simpa using hx))) hxs
      have v2 := argsE_sound (f := f) (ρ' := ρ') b.toList ys (fun x hx => hρ x (by simp [Op.operands]; exact .inr (by simpa using hx))) hys
      refine .pure hR (v' := .func (.func g) (a.map ρ') (b.map ρ')) (by simp [execOp, Instr.makeFunc]) ?_
      refine .func g _ _ _ _ (by simpa using v1.1) (by simpa using v2.1) ?_ ?_
      · intro i u u' h1 h2
        exact v1.2 i u u' (by simpa using h1) (by simpa using h2)
      · intro i u u' h1 h2
        exact v2.2 i u u' (by simpa using h1) (by simpa using h2)
    · cases h
  case makeSlice t l c =>
    split at h
    · rename_i a b ha hb
      have hsz : H'.size = H.size + 1 := by
        unfold makeE at h
        repeat' split at h
        all_goals first | (cases h; done) | (cases h; simp [pushV])
      obtain ⟨f', w', v', h1, h2, h3, h4⟩ := makeE_sound (P := P) hR (hfree _ (Nat.le_refl _) (by omega)) (hρ l (by simp [Op.operands]) _ ha) (hρ c (by simp [Op.operands]) _ hb) h
      exact ⟨f', w', v', .inl (by simp [execOp, h1]), h2, h3, h4⟩
    · cases h
  case slice t x lo hi mx =>
    cases mx with
    | some m => cases h
    | none =>
      simp only at h
      split at h
      · rename_i a l u ha hl hu
        simp only [Option.map_eq_some_iff] at h
        obtain ⟨r, hr, he⟩ := h; cases he
        have e1 := optE_sound (f := f) (ρ' := ρ') (fun y hy => hρ y (by simp [Op.operands] at hy ⊢; simp [hy])) hl
        have e2 := optE_sound (f := f) (ρ' := ρ') (fun y hy => hρ y (by simp [Op.operands] at hy ⊢; simp [hy])) hu
        obtain ⟨v', h1, h2⟩ := sliceE_sound (P := P) (w := w) (hρ x (by simp [Op.operands]) _ ha) e1 e2 hr
        exact .pure hR (by simp [execOp, h1]) h2
      · cases h
  case fieldAddr s x n =>
    simp only [Option.map_eq_some_iff, Option.bind_eq_some_iff] at h
    obtain ⟨u, ⟨p, hp, hl⟩, he⟩ := h; cases he
    obtain ⟨v', h1, h2⟩ := fieldAddrE_sound (P := P) (w := w) (hρ x (by simp [Op.operands]) _ hp) hl
    exact .pure hR (by simp [execOp, h1]) h2
  case field s x n =>
    simp only [Option.map_eq_some_iff, Option.bind_eq_some_iff] at h
    obtain ⟨u, ⟨p, hp, hl⟩, he⟩ := h; cases he
    obtain ⟨v', h1, h2⟩ := fieldE_sound (P := P) (w := w) (hρ x (by simp [Op.operands]) _ hp) hl
    exact .pure hR (by simp [execOp, h1]) h2
  case indexAddr t x i =>
    split at h
    · rename_i a b ha hb
      simp only [Option.map_eq_some_iff] at h
      obtain ⟨u, hu, he⟩ := h; cases he
      obtain ⟨v', h1, h2⟩ := indexAddrE_sound (P := P) (w := w) (hρ x (by simp [Op.operands]) _ ha) (hρ i (by simp [Op.operands]) _ hb) hu
      exact .pure hR (by simp [execOp, h1]) h2
    · cases h
  case index t x i =>
    split at h
    · rename_i a b ha hb
      simp only [Option.map_eq_some_iff] at h
      obtain ⟨u, hu, he⟩ := h; cases he
      obtain ⟨v', h1, h2⟩ := indexE_sound (P := P) (w := w) (hρ x (by simp [Op.operands]) _ ha) (hρ i (by simp [Op.operands]) _ hb) hu
      exact .pure hR (by simp [execOp, h1]) h2
    · cases h
  case extract x n =>
    simp only [Option.map_eq_some_iff, Option.bind_eq_some_iff] at h
    obtain ⟨u, ⟨p, hp, hl⟩, he⟩ := h; cases he
    obtain ⟨v', h1, h2⟩ := extractE_sound (P := P) (w := w) (hρ x (by simp [Op.operands]) _ hp) hl
    exact .pure hR (by simp [execOp, h1]) h2
  case call c =>
    split at h
    · rename_i args hargs
      have va := argsE_sound (f := f) (ρ' := ρ') c.args.toList args (fun x hx => hρ x (by simp [Op.operands, Call.operands]; exact .inr (by simpa using hx))) hargs
      split at h
      · rename_i b hb
        obtain ⟨f', w', v', h1, h2⟩ := builtinE_sound (ty := type) (cs := c.args.map fun | .const _ => true | _ => false) hR hfree va h
        have e : (c.args.toList.map ρ').toArray = c.args.map ρ' := by
          apply Array.ext'
          simp only [Array.toList_map]
        rw [e] at h1
        exact ⟨f', w', v', .inl (by simp only [execOp, resolve, hb, invoke, Sem.run_bind, Sem.run_pure, Result.andThen_ok]; exact h1), h2⟩
      · rename_i g hg
        exact absurd hg (hnc c g rfl)
      · cases h
    · cases h
end
end Go.Proofs.Ytoiijpphfckdjaa.Ev
