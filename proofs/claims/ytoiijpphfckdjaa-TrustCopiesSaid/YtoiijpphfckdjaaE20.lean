/-
  The evaluator answers no less with more rounds and with more known calls.
-/
import Derived.Test.YtoiijpphfckdjaaE19
namespace Go.Proofs.Ytoiijpphfckdjaa.Ev
open Go

abbrev Cl := FuncId → List Value → Heap → Option (Value × Heap)
def LeC (a b : Cl) : Prop := ∀ g args H r, a g args H = some r → b g args H = some r

section
variable {P : Program} {L : List FuncId} {cl cl' : Cl}

theorem opE_mono (hl : LeC cl cl') {ρ : Operand → Option Value} {o : Oper} {H : Heap} {r : Value × Heap} (h : opE P cl ρ o H = some r) : opE P cl' ρ o H = some r := by
  unfold opE at h ⊢
  split at h <;> try exact h
  split at h
  · rename_i hargs
    (try rw [hargs]); (try dsimp only)
    split at h
    · rename_i b hc; exact h
    · rename_i f hc; try dsimp only at h ⊢
      split at h
      · rename_i g x y hf
        exact hl _ _ _ _ h
      · cases h
    · cases h
  · cases h

theorem opsE_mono (hl : LeC cl cl') {ops : Array Oper} : ∀ {l : List Oper} {s : St} {r : St}, opsE P cl ops l s = some r → opsE P cl' ops l s = some r
  | [], s, r, h => h
  | o :: l, s, r, h => by
    unfold opsE at h ⊢
    split at h
    · rename_i hw
      try rw [hw]
      try dsimp only
      split at h
      · rename_i v H ho
        rw [opE_mono hl ho]; dsimp only
        exact opsE_mono hl h
      · cases h
    · rename_i hw
      try rw [hw]
      try dsimp only
      exact opsE_mono hl h

theorem opE_append {cl cl' : Cl} {ρ : Operand → Option Value} {o : Oper} {H : Heap} (h : isAppend o = true) : opE P cl ρ o H = opE P cl' ρ o H := by
  unfold isAppend at h
  split at h
  · rename_i c hc
    unfold opE
    rw [hc]; dsimp only
    split at h
    · rename_i hb; rw [hb]
    · cases h
  · cases h

theorem recOf_mono (hl : LeC cl cl') {ops : Array Oper} {A : Array Nat} {i : Nat} {o : Oper} {s : St} {rs : List Rec} {r : Rec} (h : recOf P L cl ops A i o s rs = some r) : recOf P L cl' ops A i o s rs = some r := by
  unfold recOf at h ⊢
  split at h
  · rename_i hw; exact h
  · rename_i hw; (try rw [hw]); (try dsimp only at h ⊢)
    split at h
    · rename_i hk; (try rw [hk]); (try dsimp only at h ⊢)
      split at h
      · rename_i ho; rw [opE_mono hl ho]; exact h
      · cases h
    · rename_i hk; exact h
    · rename_i hk; (try rw [hk]); (try dsimp only at h ⊢)
      split at h
      · rename_i ho; rw [opE_mono hl ho]; exact h
      · rename_i ho
        split at h
        · rename_i ha
          rw [opE_append (cl := cl') (cl' := cl) ha, ho]; dsimp only
          rw [ha]
          split at h
          · rename_i ho'
            rw [if_pos rfl, opE_append (cl := cl') (cl' := cl) ha, ho']; exact h
          · cases h
        · cases h
    · rename_i hk; (try rw [hk]); (try dsimp only at h ⊢)
      split at h
      · rename_i ho; rw [opE_mono hl ho]; exact h
      · cases h

theorem drawRun_mono (hl : LeC cl cl') {ops : Array Oper} {A : Array Nat} : ∀ {l : List Oper} {i : Nat} {s : St} {rs : List Rec} {r : St × List Rec},
    drawRun P L cl ops A l i s rs = some r → drawRun P L cl' ops A l i s rs = some r
  | [], _, _, _, _, h => h
  | o :: l, i, s, rs, r, h => by
    unfold drawRun at h ⊢
    split at h
    · rename_i hr; rw [recOf_mono hl hr]; exact drawRun_mono hl h
    · cases h

theorem drawE_mono (hl : LeC cl cl') {ops : Array Oper} {s r : St} (h : drawE P L cl ops s = some r) : drawE P L cl' ops s = some r := by
  unfold drawE at h ⊢
  split at h
  · cases h
  · rename_i hs; (try rw [hs]); (try dsimp only at h ⊢)
    split at h
    · rename_i hr; rw [drawRun_mono hl hr]; exact h
    · cases h

theorem loopN_mono {N M : Nat} (hN : N ≤ M) {b b' : St → Option (Ex × St)} (hb : ∀ s r, b s = some r → b' s = some r) : ∀ {s : St} {r : Ex × St}, loopN N b s = some r → loopN M b' s = some r := by
  induction N generalizing M with
  | zero => intro s r h; cases h
  | succ n ih =>
    intro s r h
    obtain ⟨m, rfl⟩ : ∃ m, M = m + 1 := ⟨M - 1, by omega⟩
    unfold loopN at h ⊢
    split at h
    · rename_i hbs; rw [hb _ _ hbs]; exact ih (by omega) h
    · rename_i hbs
      rw [hb _ _ h]
      cases r with
      | mk e s' =>
        cases e with
        | normal => exact absurd h (by simpa using hbs s')
        | _ => rfl

theorem codeE_mono (hl : LeC cl cl') {N M : Nat} (hN : N ≤ M) : ∀ (c : Code) {s : St} {r : Ex × St}, codeE P L cl N c s = some r → codeE P L cl' M c s = some r := by
  intro c
  induction c with
  | skip => intro s r h; exact h
  | region id ops d =>
    intro s r h
    unfold codeE at h ⊢
    cases d with
    | false =>
      dsimp only at h ⊢
      cases ho : opsE P cl ops ops.toList s with
      | none => rw [ho] at h; cases h
      | some s' => rw [ho] at h; rw [opsE_mono hl ho]; exact h
    | true =>
      dsimp only at h ⊢
      cases ho : drawE P L cl ops s with
      | none => rw [ho] at h; cases h
      | some s' => rw [ho] at h; rw [drawE_mono hl ho]; exact h
  | seq a b iha ihb =>
    intro s r h
    unfold codeE at h ⊢
    split at h
    · rename_i ha; rw [iha ha]; exact ihb h
    · rename_i ha
      rw [iha h]
      cases r with
      | mk e s' =>
        cases e with
        | normal => exact absurd h (by simpa using ha s')
        | _ => rfl
  | cond x a b iha ihb =>
    intro s r h
    unfold codeE at h ⊢
    split at h
    · rename_i hx; exact iha h
    · rename_i hx; exact ihb h
    · cases h
  | block id b ih =>
    intro s r h
    unfold codeE at h ⊢
    split at h
    · rename_i k s' hb; rw [ih hb]; exact h
    · rename_i hb
      rw [ih h]
      cases r with
      | mk e s' =>
        cases e with
        | exit k => exact absurd h (by simpa using hb k s')
        | _ => rfl
  | loop b ih =>
    intro s r h
    unfold codeE at h ⊢
    exact loopN_mono hN (fun s r h => ih h) h
  | exit id => intro s r h; exact h
  | label id => intro s r h; exact h
  | ret => intro s r h; exact h
  | scope c _ => intro s r h; cases h
  | rangeFunc => intro s r h; cases h
  | goto => intro s r h; cases h
  | refuse => intro s r h; cases h

theorem enterE_mono (hl : LeC cl cl') {N M : Nat} (hN : N ≤ M) {g : FuncId} {args : List Value} {H : Heap} {r : Value × Heap} (h : enterE P L cl N g args H = some r) : enterE P L cl' M g args H = some r := by
  unfold enterE at h ⊢
  split at h
  · split at h
    · split at h
      · rename_i hc; rw [codeE_mono hl hN _ hc]; exact h
      · rename_i hc; rw [codeE_mono hl hN _ hc]; exact h
      · cases h
    · cases h
  · cases h

theorem callE_mono {O : Known} : ∀ {n m : Nat}, n ≤ m → LeC (callE P L O n) (callE P L O m)
  | 0, _, _, _, _, _, _, h => by cases h
  | n + 1, m, hm, g, args, H, r, h => by
    obtain ⟨m, rfl⟩ : ∃ k, m = k + 1 := ⟨m - 1, by omega⟩
    unfold callE at h ⊢
    split at h
    · exact h
    · exact enterE_mono (callE_mono (by omega)) (by omega) h
end
end Go.Proofs.Ytoiijpphfckdjaa.Ev
