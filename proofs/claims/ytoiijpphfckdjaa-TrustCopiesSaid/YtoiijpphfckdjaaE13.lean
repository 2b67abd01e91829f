/-
  A region that draws its order: facts of the run in the text's order.
-/
import Derived.Test.YtoiijpphfckdjaaE12
namespace Go.Proofs.Ytoiijpphfckdjaa.Ev
open Go
set_option linter.unusedSimpArgs false

theorem hidden_append (a b : List (Nat × Nat)) (x : Nat) : hidden (a ++ b) x = (hidden a x || hidden b x) := by
  induction a with
  | nil => simp [hidden]
  | cons p a ih => obtain ⟨u, v⟩ := p; simp [hidden, ih, Bool.or_assoc]

theorem hidden_maskOf (p : Nat → Bool) : ∀ (rs : List Rec) (k x : Nat), hidden (maskOf p rs k) x = true ↔ ∃ j r, rs[j]? = some r ∧ p (k + j) = false ∧ r.h0.size ≤ x ∧ x < r.h1.size := by
  intro rs
  induction rs with
  | nil => intro k x; simp [maskOf, hidden]
  | cons r rs ih =>
    intro k x
    simp only [maskOf]
    by_cases hp : p k = true
    · rw [if_pos hp, ih]
      constructor
      · rintro ⟨j, q, h1, h2, h3⟩
        exact ⟨j + 1, q, by simpa using h1, by rw [← h2]; congr 1; omega, h3⟩
      · rintro ⟨j, q, h1, h2, h3⟩
        cases j with
        | zero => simp at h2; rw [hp] at h2; cases h2
        | succ j => exact ⟨j, q, by simpa using h1, by rw [← h2]; congr 1; omega, h3⟩
    · rw [if_neg hp]
      simp only [hidden, Bool.or_eq_true, Bool.and_eq_true, decide_eq_true_eq]
      rw [ih]
      constructor
      · rintro (⟨h1, h2⟩ | ⟨j, q, h1, h2, h3⟩)
        · exact ⟨0, r, by simp, by simpa using hp, h1, h2⟩
        · exact ⟨j + 1, q, by simpa using h1, by rw [← h2]; congr 1; omega, h3⟩
      · rintro ⟨j, q, h1, h2, h3, h4⟩
        cases j with
        | zero => simp at h1; subst h1; exact .inl ⟨h3, h4⟩
        | succ j => exact .inr ⟨j, q, by simpa using h1, by rw [← h2]; congr 1; omega, h3, h4⟩

/-- Nothing of it is the call's own: a view for reading. -/
theorem R.view {f : Fm} {M X : Heap} {w : World} (h : R f M w) (hg : ∀ x b, X.get x = some b → M.get x = some b) (hl : X.lock = X.size) : R f X w := by
  have hm : ∀ x b, X.get x = some b → X.mine x b = false := by
    intro x b hx
    have := Heap.get_lt hx
    simp [Heap.mine]; omega
  refine ⟨fun x b hx => ?_, h.big, by omega, fun x y b c l m hx hy hmm => ?_⟩
  · obtain ⟨l, C, e, fr, h1, h2, h3, _⟩ := h.blk x b (hg x b hx)
    exact ⟨l, C, e, fr, h1, h2, h3, fun hmm => by rw [hm x b hx] at hmm; cases hmm⟩
  · rw [hm x b hx] at hmm; cases hmm

section
variable {P : Program} {L : List FuncId} {cl : FuncId → List Value → Heap → Option (Value × Heap)}

theorem getCells_congr {X Y : Heap} (h : ∀ x, X.get x = Y.get x) (b off n : Nat) : getCells X b off n = getCells Y b off n := by
  unfold getCells; rw [h b]
theorem loadE_congr {X Y : Heap} (h : ∀ x, X.get x = Y.get x) (t : TypeId) (p : Value) : loadE P X t p = loadE P Y t p := by
  unfold loadE
  split
  · simp only [getCells_congr h]
  · rfl

theorem eqc_eq {a b : Value} (h : eqc a b = true) : a = b := by
  unfold eqc at h
  split at h <;> simp_all
theorem eqcs_eq : ∀ {a b : List Value}, eqcs a b = true → a = b
  | [], [], _ => rfl
  | a :: r, b :: s, h => by
    simp only [eqcs, Bool.and_eq_true] at h
    rw [eqc_eq h.1, eqcs_eq h.2]
  | [], _ :: _, h => by simp [eqcs] at h
  | _ :: _, [], h => by simp [eqcs] at h
theorem eqv_eq {a b : Value} (h : eqv a b = true) : a = b := by
  unfold eqv at h
  split at h
  · have := eqcs_eq h
    congr 1
    exact Array.ext' this
  · exact eqc_eq h

/-- What looks at no memory. -/
theorem opE_pure {o : Oper} (hk : opKind L o = .pure) {ρ : Operand → Option Value} {H H2 : Heap} {v : Value} (h : opE P cl ρ o H = some (v, H2)) :
    ∀ H3, opE P cl ρ o H3 = some (v, H3) := by
  intro H3
  obtain ⟨dst, op, type, pos, after, guard⟩ := o
  unfold opKind at hk
  unfold opE at h ⊢
  cases op <;> simp only at hk h ⊢ <;> try (cases hk; done)
  all_goals try (cases h; done)
  all_goals try (simp only [Option.map_eq_some_iff] at h ⊢; obtain ⟨u, h1, h2⟩ := h; cases h2; exact ⟨_, h1, rfl⟩)
  case pick c a b =>
    split at h
    · rename_i t hc
      simp only [Option.map_eq_some_iff] at h ⊢; obtain ⟨u, h1, h2⟩ := h; cases h2; exact ⟨_, h1, rfl⟩
    · cases h
  case nilCheck x =>
    split at h
    · cases h; rfl
    · cases h; rfl
    · cases h; rfl
    · cases h
  case binOp op t x y ty =>
    split at h
    · simp only [Option.map_eq_some_iff] at h ⊢; obtain ⟨u, h1, h2⟩ := h; cases h2; exact ⟨_, h1, rfl⟩
    · cases h
  case makeFunc fn a b =>
    split at h
    · cases h; rfl
    · cases h
  case slice t x lo hi mx =>
    cases mx with
    | some m => cases h
    | none =>
      simp only at h ⊢
      split at h
      · simp only [Option.map_eq_some_iff] at h ⊢; obtain ⟨u, h1, h2⟩ := h; cases h2; exact ⟨_, h1, rfl⟩
      · cases h
  case indexAddr t x i =>
    split at h
    · simp only [Option.map_eq_some_iff] at h ⊢; obtain ⟨u, h1, h2⟩ := h; cases h2; exact ⟨_, h1, rfl⟩
    · cases h
  case index t x i =>
    split at h
    · simp only [Option.map_eq_some_iff] at h ⊢; obtain ⟨u, h1, h2⟩ := h; cases h2; exact ⟨_, h1, rfl⟩
    · cases h
  case call c =>
    split at h
    · rename_i args hargs
      cases hc : c.callee with
      | builtin b =>
        simp only [hc] at h ⊢
        cases b <;> simp only [hc] at hk <;> try (cases hk; done)
        all_goals (simp only [builtinE] at h ⊢)
        all_goals try (cases h; done)
        case cap =>
          split at h
          · split at h
            · cases h; rfl
            · cases h
          · split at h
            · cases h; rfl
            · cases h
          · cases h
        case len =>
          split at h
          · split at h
            · cases h; rfl
            · cases h; rfl
            · cases h; rfl
            · cases h
          · cases h
        case max => simp only [Option.map_eq_some_iff] at h ⊢; obtain ⟨u, h1, h2⟩ := h; cases h2; exact ⟨_, h1, rfl⟩
        case min => simp only [Option.map_eq_some_iff] at h ⊢; obtain ⟨u, h1, h2⟩ := h; cases h2; exact ⟨_, h1, rfl⟩
      | value g =>
        simp only [hc] at hk
        cases g with
        | func n => simp only at hk; split at hk <;> cases hk
        | _ => cases hk
      | invoke r m => simp [hc] at h
    · cases h

theorem recOf_cases {ops : Array Oper} {A : Array Nat} {i : Nat} {o : Oper} {s : St} {rs : List Rec} {r : Rec} (h : recOf P L cl ops A i o s rs = some r) :
    (wantedE ops s.fr o = false ∧ r = ⟨.pure, undef, s.hp, s.hp, none⟩) ∨
    (wantedE ops s.fr o = true ∧
      ((∃ v, (∀ H3, opE P cl (opnd s.fr) o H3 = some (v, H3)) ∧ r = ⟨.pure, v, s.hp, s.hp, none⟩) ∨
       (∃ t a p v, o.op = .load t a ∧ opnd s.fr a = some p ∧ loadE P (veil s.hp (getB A i) rs) t p = some v ∧ r = ⟨.load, v, s.hp, s.hp, some (t, p)⟩) ∨
       (∃ v H', opE P cl (opnd s.fr) o (veil s.hp (getB A i) rs) = some (v, H') ∧ r = ⟨.quiet, v, s.hp, unveil s.hp H', none⟩) ∨
       (∃ v H', opE P cl (opnd s.fr) o s.hp = some (v, H') ∧ r = ⟨.loud, v, s.hp, H', none⟩))) := by
  unfold recOf at h
  split at h
  · rename_i hw; cases h; exact .inl ⟨hw, rfl⟩
  · rename_i hw
    refine .inr ⟨hw, ?_⟩
    split at h
    · rename_i hk
      split at h
      · rename_i v H2 hop; cases h; exact .inl ⟨v, opE_pure hk hop, rfl⟩
      · cases h
    · split at h
      · rename_i t a hop
        split at h
        · rename_i p hp
          split at h
          · rename_i v hv; cases h; exact .inr (.inl ⟨t, a, p, v, hop, hp, hv, rfl⟩)
          · cases h
        · cases h
      · cases h
    · split at h
      · rename_i v H' hop; cases h; exact .inr (.inr (.inl ⟨v, H', hop, rfl⟩))
      · split at h
        · split at h
          · rename_i v H' hop; cases h; exact .inr (.inr (.inr ⟨v, H', hop, rfl⟩))
          · cases h
        · cases h
    · split at h
      · rename_i v H' hop; cases h; exact .inr (.inr (.inr ⟨v, H', hop, rfl⟩))
      · cases h

/-- The run in the text's order, place by place. -/
theorem drawRun_facts {ops : Array Oper} {A : Array Nat} : ∀ (l : List Oper) (i : Nat) (s : St) (rs0 : List Rec) (s' : St) (rs : List Rec), rs0.length = i →
    drawRun P L cl ops A l i s rs0 = some (s', rs) →
    rs.length = i + l.length ∧ rs.take i = rs0 ∧ ∃ S : Nat → St, S i = s ∧ S (i + l.length) = s' ∧
      ∀ j o, l[j]? = some o → ∃ r, rs[i + j]? = some r ∧ recOf P L cl ops A (i + j) o (S (i + j)) (rs.take (i + j)) = some r ∧ S (i + j + 1) = ⟨putE (S (i + j)).fr o.dst r.v, r.h1⟩ := by
  intro l
  induction l with
  | nil =>
    intro i s rs0 s' rs hlen h
    simp only [drawRun, Option.some.injEq, Prod.mk.injEq] at h
    obtain ⟨rfl, rfl⟩ := h
    exact ⟨by simpa using hlen, List.take_of_length_le (by omega), fun _ => s, rfl, rfl, fun j o h => by simp at h⟩
  | cons q l ih =>
    intro i s rs0 s' rs hlen h
    simp only [drawRun] at h
    split at h
    · rename_i r hr
      obtain ⟨h1, h2, S, h3, h4, h5⟩ := ih (i + 1) _ (rs0 ++ [r]) s' rs (by simp [hlen]) h
      have htake : rs.take i = rs0 := by
        have : rs.take i = (rs.take (i + 1)).take i := by rw [List.take_take]; congr 1; omega
        rw [this, h2, List.take_append_of_le_length (by omega), List.take_of_length_le (by omega)]
      have hri : rs[i]? = some r := by
        have : rs[i]? = (rs.take (i + 1))[i]? := by rw [List.getElem?_take, if_pos (by omega)]
        rw [this, h2, List.getElem?_append, if_neg (by omega), hlen]; simp
      refine ⟨by simp; omega, htake, fun k => if k = i then s else S k, by simp, ?_, ?_⟩
      · simp only [List.length_cons]
        rw [if_neg (by omega), ← h4]; congr 1; omega
      · intro j o hj
        cases j with
        | zero =>
          simp at hj; subst hj
          refine ⟨r, hri, ?_, ?_⟩
          · simp only [Nat.add_zero, if_true]; rw [htake]; exact hr
          · simp only [Nat.add_zero, if_true]; rw [if_neg (by omega)]; exact h3
        | succ j =>
          obtain ⟨r2, g1, g2, g3⟩ := h5 j o (by simpa using hj)
          have e : i + 1 + j = i + (j + 1) := by omega
          rw [e] at g1 g2 g3
          refine ⟨r2, g1, ?_, ?_⟩
          · simp only; rw [if_neg (by omega)]; exact g2
          · simp only; rw [if_neg (by omega), if_neg (by omega)]; exact g3
    · cases h
end
end Go.Proofs.Ytoiijpphfckdjaa.Ev
