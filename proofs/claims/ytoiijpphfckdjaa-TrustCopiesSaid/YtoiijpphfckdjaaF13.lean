/-
  A match of a pattern: the same memory, told anew.
-/
import Derived.Test.YtoiijpphfckdjaaF12
namespace Go.Proofs.Ytoiijpphfckdjaa.Ev
noncomputable section
open Go
set_option linter.unusedVariables false
set_option linter.unusedSimpArgs false

theorem SHeap.root_pushO (S : SHeap) (b : Option SBlk) (k : Nat) : (S.pushO b).root.get k = if k = S.size then b else S.root.get k :=
  STr.get_put _ _ _ _ _ (Nat.lt_succ_self _)
theorem foldl_push : ∀ (l : List (Option SBlk)) (S : SHeap), (l.foldl SHeap.pushO S).size = S.size + l.length ∧ (l.foldl SHeap.pushO S).lock = S.lock ∧ (l.foldl SHeap.pushO S).hid = S.hid ∧
    ∀ j, (l.foldl SHeap.pushO S).root.get j = if S.size ≤ j ∧ j < S.size + l.length then (l[j - S.size]?).join else S.root.get j
  | [], S => by
    refine ⟨by simp, rfl, rfl, fun j => ?_⟩
    rw [if_neg (by simp)]
    rfl
  | b :: l, S => by
    obtain ⟨h1, h2, h3, h4⟩ := foldl_push l (S.pushO b)
    have hs : (S.pushO b).size = S.size + 1 := rfl
    refine ⟨by simp only [List.foldl_cons, List.length_cons]; rw [h1, hs]; omega, h2, h3, fun j => ?_⟩
    simp only [List.foldl_cons, List.length_cons]
    rw [h4, hs, SHeap.root_pushO]
    by_cases h : S.size + 1 ≤ j ∧ j < S.size + 1 + l.length
    · rw [if_pos h, if_pos (by omega), show j - S.size = (j - (S.size + 1)) + 1 by omega, List.getElem?_cons_succ]
    · rw [if_neg h]
      by_cases e : j = S.size
      · rw [if_pos e, if_pos (by omega), e]; simp
      · rw [if_neg e, if_neg (by omega)]
theorem heapOf_size (l : List (Option SBlk)) : (heapOf l).size = l.length := by
  have := (foldl_push l ⟨0, .e, 0, []⟩).1
  simpa [heapOf] using this
theorem heapOf_lock (l : List (Option SBlk)) : (heapOf l).lock = 0 := (foldl_push l ⟨0, .e, 0, []⟩).2.1
theorem heapOf_hid (l : List (Option SBlk)) : (heapOf l).hid = [] := (foldl_push l ⟨0, .e, 0, []⟩).2.2.1
theorem heapOf_get (l : List (Option SBlk)) (j : Nat) : (heapOf l).get j = (l[j]?).join := by
  by_cases h : j < l.length
  · rw [SHeap.get_of (by rw [heapOf_size]; exact h) (by rw [heapOf_hid]; rfl)]
    have := (foldl_push l ⟨0, .e, 0, []⟩).2.2.2 j
    unfold heapOf
    rw [this, if_pos ⟨Nat.zero_le _, by simpa using h⟩]
    simp
  · rw [List.getElem?_eq_none (by omega)]
    unfold SHeap.get
    rw [if_neg (by rw [heapOf_size]; exact h)]
    rfl
theorem heapTo_get (p : Pn) (us : List Un) (j : Nat) : (p.heapTo us).get j = (heapOf (bpsTo p.blks (us.drop p.size))).get j := rfl
theorem heapOf_some {l : List (Option SBlk)} {j : Nat} {B : SBlk} (h : (heapOf l).get j = some B) : l[j]? = some (some B) := by
  rw [heapOf_get] at h
  cases hl : l[j]? with
  | none => rw [hl] at h; cases h
  | some x => rw [hl] at h; simp at h; rw [h]

section
variable {φ : Phi} {S : SHeap} {H : Heap} {ban : Nat → Prop} {n : Nat} {own' : Nat → Prop}

/-- A block told anew is what it was. -/
def Told (φ : Phi) (S : SHeap) (H : Heap) (ban : Nat → Prop) (n : Nat) (own' : Nat → Prop) (υ : Sub) (B : SBlk) (B' : Option SBlk) : Prop :=
  ∀ C, B' = some C → (∀ cs, BV φ H (Own φ S) B cs → BV (φ.sub ban υ n) H own' C cs) ∧ (B.empty → C.empty)

theorem BP_of (hS : Sim φ S H) (ho : ∀ x, own' x → Own φ S x) {p : BP} {B : SBlk} {σ τ : Sub} {a : List Un} (h : BP.of S p B σ = some (a, τ)) :
    Sub.le σ τ ∧ a.length = p.size ∧ ∀ υ, Sub.le τ υ → Fine φ S own' n υ → ∀ rest, Told φ S H ban n own' υ B (p.to (a ++ rest)) := by
  unfold BP.of at h
  split at h
  · rename_i l l'
    obtain ⟨h1, h2, h3⟩ := VPs_of (n := n) (ban := ban) hS ho l l' _ _ _ h
    refine ⟨h1, h2, fun υ hle hf rest C hC => ?_⟩
    cases hC
    refine ⟨fun cs hB => ?_, fun _ => trivial⟩
    obtain ⟨c1, c2⟩ := h3 υ hle hf rest
    refine ⟨by rw [c1]; exact hB.1, fun i s v g1 g2 => ?_⟩
    have hi : i < l'.length := by rw [← c1]; exact (List.getElem?_eq_some_iff.1 g1).1
    exact c2 i _ s (List.getElem?_eq_getElem hi) g1 v (hB.2 i _ v (List.getElem?_eq_getElem hi) g2)
  · split at h
    · rename_i e
      cases h; subst e
      refine ⟨Sub.le_refl _, rfl, fun υ hle hf rest C hC => ?_⟩
      cases hC
      refine ⟨fun cs hB => ?_, fun e => e⟩
      exact ⟨hB.1, fun r hr j s hs v hv => (hB.2 r hr j s hs v hv).flat_tr ho (flat_row hs)⟩
    · cases h
  · split at h
    · rename_i e
      cases h
      have := schEq_eq.2 _ _ e
      subst this
      refine ⟨Sub.le_refl _, rfl, fun υ hle hf rest C hC => ?_⟩
      cases hC
      refine ⟨fun cs hB => ?_, fun e => e⟩
      exact ⟨hB.1, fun r hr j s hs v hv => (hB.2 r hr j s hs v hv).flat_tr ho (flat_row hs)⟩
    · cases h
  · split at h
    · rename_i e
      obtain ⟨rfl, rfl, hj⟩ := e
      split at h
      · rename_i τ' hb
        cases h
        obtain ⟨h1, h2⟩ := Sub.bind_le hb
        refine ⟨h1, rfl, fun υ hle hf rest C hC => ?_⟩
        cases hC
        refine ⟨fun cs hB => ⟨hB.1, fun r v hr hv => ?_⟩, fun e => e⟩
        have := hB.2 r v hr hv
        cases this with
        | npNil _ _ _ _ hn => exact .npNil _ _ _ _ hn
        | np _ _ _ x _ hn hx => exact .np _ _ _ x _ hn (by rw [Phi.sub_at hf hj (hle _ _ h2)]; exact hx)
      · cases h
    · cases h
  · cases h

mutual
theorem dflt_len : ∀ (p : VP), p.dflt.length = p.size
  | .int _ => rfl
  | .np _ _ _ => rfl
  | .sl _ _ => rfl
  | .bool => rfl
  | .ints _ => rfl
  | .recs _ => rfl
  | .dpt _ => rfl
  | .fn _ x y => by simp [VP.dflt, VP.size, dflts_len x, dflts_len y]
  | .agg l => by simp [VP.dflt, VP.size, dflts_len l]
  | .any => rfl
  | .nilp => rfl
  | .nils => rfl
  | .nilf => rfl
  | .ptr _ _ _ => rfl
  | .buf _ _ => rfl
theorem dflts_len : ∀ (l : List VP), (VP.dflts l).length = VP.sizes l
  | [] => rfl
  | p :: ps => by simp [VP.dflts, VP.sizes, dflt_len p, dflts_len ps]
end
theorem BP_nil (p : BP) : p.nil.length = p.size ∧ ∀ rest C, p.to (p.nil ++ rest) = some C → C.empty := by
  cases p with
  | cells l => exact ⟨dflts_len l, fun rest C h => by cases h; trivial⟩
  | ints k => exact ⟨rfl, fun rest C h => by cases h; rfl⟩
  | recs l => exact ⟨rfl, fun rest C h => by cases h; rfl⟩
  | ptrs j w col => exact ⟨rfl, fun rest C h => by cases h; rfl⟩
  | gone => exact ⟨rfl, fun rest C h => by cases h⟩

theorem bpsTo_len : ∀ (ps : List BP) (us : List Un), (bpsTo ps us).length = ps.length
  | [], _ => rfl
  | p :: ps, us => by simp [bpsTo, bpsTo_len ps]
theorem gone_size {p : BP} (h : p.isGone = true) (us : List Un) : p.size = 0 ∧ p.to us = none := by
  cases p <;> simp [BP.isGone] at h
  exact ⟨rfl, rfl⟩
theorem bind_none {σ : Sub} {j : Nat} (h : σ.get j = none) : Sub.le σ ((j, none) :: σ) ∧ Sub.get ((j, none) :: σ) j = some none := by
  refine ⟨fun k y hk => ?_, by simp [Sub.get]⟩
  simp only [Sub.get]
  split
  · rename_i e; subst e; rw [h] at hk; cases hk
  · exact hk

theorem bpsOf_sound (hS : Sim φ S H) (ho : ∀ x, own' x → Own φ S x) : ∀ {ps : List BP} {j : Nat} {σ τ : Sub} {a : List Un}, bpsOf S j ps σ = some (a, τ) →
    Sub.le σ τ ∧ ∀ υ, Sub.le τ υ → Fine φ S own' n υ → ∀ rest, ∀ i B', (bpsTo ps (a ++ rest))[i]? = some (some B') →
      (υ.get (j + i) = some none ∧ B'.empty) ∨ ∃ id B, υ.get (j + i) = some (some id) ∧ S.get id = some B ∧ (∀ cs, BV φ H (Own φ S) B cs → BV (φ.sub ban υ n) H own' B' cs) ∧ (B.empty → B'.empty)
  | [], j, σ, τ, a, h => by
    simp only [bpsOf, Option.some.injEq, Prod.mk.injEq] at h
    obtain ⟨rfl, rfl⟩ := h
    exact ⟨Sub.le_refl _, fun υ _ _ rest i B' hi => by simp [bpsTo] at hi⟩
  | p :: ps, j, σ, τ, a, h => by
    simp only [bpsOf] at h
    split at h
    · rename_i hg
      obtain ⟨b1, b2⟩ := bpsOf_sound hS ho h
      refine ⟨b1, fun υ hle hf rest i B' hi => ?_⟩
      obtain ⟨g1, g2⟩ := gone_size hg (a ++ rest)
      cases i with
      | zero =>
        simp only [bpsTo, List.getElem?_cons_zero, Option.some.injEq, g2] at hi
        cases hi
      | succ i =>
        simp only [bpsTo, List.getElem?_cons_succ, g1, List.drop_zero] at hi
        have := b2 υ hle hf rest i B' hi
        rwa [show j + 1 + i = j + (i + 1) by omega] at this
    · split at h
      · rename_i id hid
        split at h
        · rename_i B hB
          split at h
          · rename_i c τ1 h1
            split at h
            · rename_i d τ2 h2
              cases h
              obtain ⟨a1, a2, a3⟩ := BP_of (n := n) (ban := ban) hS ho h1
              obtain ⟨b1, b2⟩ := bpsOf_sound hS ho h2
              refine ⟨Sub.le_trans a1 b1, fun υ hle hf rest i B' hi => ?_⟩
              cases i with
              | zero =>
                simp only [bpsTo, List.getElem?_cons_zero, Option.some.injEq] at hi
                rw [List.append_assoc] at hi
                obtain ⟨c1, c2⟩ := a3 υ (Sub.le_trans b1 hle) hf (d ++ rest) B' hi
                exact .inr ⟨id, B, hle _ _ (b1 _ _ (a1 _ _ hid)), hB, c1, c2⟩
              | succ i =>
                simp only [bpsTo, List.getElem?_cons_succ] at hi
                rw [List.append_assoc, ← a2, List.drop_left] at hi
                have := b2 υ hle hf rest i B' hi
                rwa [show j + 1 + i = j + (i + 1) by omega] at this
            · cases h
          · cases h
        · cases h
      · rename_i hid
        split at h
        · rename_i d τ2 h2
          cases h
          obtain ⟨a2, a3⟩ := BP_nil p
          obtain ⟨b1, b2⟩ := bpsOf_sound hS ho h2
          refine ⟨b1, fun υ hle hf rest i B' hi => ?_⟩
          cases i with
          | zero =>
            simp only [bpsTo, List.getElem?_cons_zero, Option.some.injEq] at hi
            rw [List.append_assoc] at hi
            exact .inl ⟨hle _ _ (b1 _ _ hid), a3 _ _ hi⟩
          | succ i =>
            simp only [bpsTo, List.getElem?_cons_succ] at hi
            rw [List.append_assoc, ← a2, List.drop_left] at hi
            have := b2 υ hle hf rest i B' hi
            rwa [show j + 1 + i = j + (i + 1) by omega] at this
        · cases h
      · rename_i hid
        split at h
        · rename_i d τ2 h2
          cases h
          obtain ⟨a2, a3⟩ := BP_nil p
          obtain ⟨b1, b2⟩ := bpsOf_sound hS ho h2
          obtain ⟨e1, e2⟩ := bind_none hid
          refine ⟨Sub.le_trans e1 b1, fun υ hle hf rest i B' hi => ?_⟩
          cases i with
          | zero =>
            simp only [bpsTo, List.getElem?_cons_zero, Option.some.injEq] at hi
            rw [List.append_assoc] at hi
            exact .inl ⟨hle _ _ (b1 _ _ e2), a3 _ _ hi⟩
          | succ i =>
            simp only [bpsTo, List.getElem?_cons_succ] at hi
            rw [List.append_assoc, ← a2, List.drop_left] at hi
            have := b2 υ hle hf rest i B' hi
            rwa [show j + 1 + i = j + (i + 1) by omega] at this
        · cases h

theorem sub_mem : ∀ {σ : Sub} {j : Nat} {y : Option Nat}, σ.get j = some y → (j, y) ∈ σ
  | [], j, y, h => by cases h
  | (i, x) :: σ, j, y, h => by
    simp only [Sub.get] at h
    split at h
    · rename_i e; cases h; subst e; simp
    · exact List.mem_cons_of_mem _ (sub_mem h)
theorem apart_inj : ∀ {σ : Sub}, Sub.apart σ = true → ∀ {j k id : Nat}, σ.get j = some (some id) → σ.get k = some (some id) → j = k
  | [], _, _, _, _, h, _ => by cases h
  | (i, x) :: r, ha, j, k, id, h1, h2 => by
    simp only [Sub.apart, Bool.and_eq_true] at ha
    obtain ⟨ha1, ha2⟩ := ha
    have mem : ∀ {σ : Sub} {j : Nat} {y : Option Nat}, σ.get j = some y → (j, y) ∈ σ := by
      intro σ
      induction σ with
      | nil => intro j y h; cases h
      | cons p σ ih =>
        intro j y h
        obtain ⟨i, x⟩ := p
        simp only [Sub.get] at h
        split at h
        · rename_i e; cases h; subst e; simp
        · exact List.mem_cons_of_mem _ (ih h)
    simp only [Sub.get] at h1 h2
    by_cases e1 : j = i
    · by_cases e2 : k = i
      · rw [e1, e2]
      · rw [if_pos e1] at h1
        rw [if_neg e2] at h2
        cases h1
        simp only [List.all_eq_true, Bool.or_eq_true, beq_iff_eq] at ha1
        rcases ha1 _ (mem h2) with h | h
        · simp at h
        · exact absurd h e2
    · rw [if_neg e1] at h1
      by_cases e2 : k = i
      · rw [if_pos e2] at h2
        cases h2
        simp only [List.all_eq_true, Bool.or_eq_true, beq_iff_eq] at ha1
        rcases ha1 _ (mem h1) with h | h
        · simp at h
        · exact absurd h e1
      · rw [if_neg e2] at h2
        exact apart_inj ha2 h1 h2

theorem keys_of {σ : Sub} {n lk lock : Nat} (h : Sub.keys σ n lk lock = true) {j : Nat} {y : Option Nat} (hj : σ.get j = some y) : 1000000 ≤ j ∨ (j < n ∧ ∀ id, y = some id → lk ≤ j → lock ≤ id) := by
  have mem : ∀ {σ : Sub} {j : Nat} {y : Option Nat}, σ.get j = some y → (j, y) ∈ σ := by
    intro σ
    induction σ with
    | nil => intro j y h; cases h
    | cons p σ ih =>
      intro j y h
      obtain ⟨i, x⟩ := p
      simp only [Sub.get] at h
      split at h
      · rename_i e; cases h; subst e; simp
      · exact List.mem_cons_of_mem _ (ih h)
  simp only [Sub.keys, List.all_eq_true] at h
  have := h _ (mem hj)
  simp only [Bool.or_eq_true, Bool.and_eq_true, decide_eq_true_eq] at this
  rcases this with h | ⟨h1, h2⟩
  · exact .inl h
  · refine .inr ⟨h1, ?_⟩
    rintro id rfl hlk
    have h2 : j < lk ∨ lock ≤ id := by simpa using h2
    omega

/-- What stands behind each block of the pattern. -/
theorem bpsOf_ids : ∀ {ps : List BP} {j : Nat} {σ τ : Sub} {a : List Un}, bpsOf S j ps σ = some (a, τ) → (∀ σ1 σ2 p B b, BP.of S p B σ1 = some (b, σ2) → Sub.le σ1 σ2) →
    Sub.le σ τ ∧ ∀ i p, ps[i]? = some p → p.isGone = false → τ.get (j + i) = some none ∨ ∃ id B, τ.get (j + i) = some (some id) ∧ S.get id = some B
  | [], j, σ, τ, a, h, _ => by
    simp only [bpsOf, Option.some.injEq, Prod.mk.injEq] at h
    obtain ⟨rfl, rfl⟩ := h
    exact ⟨Sub.le_refl _, fun i p hi => by simp at hi⟩
  | p :: ps, j, σ, τ, a, h, hle => by
    simp only [bpsOf] at h
    split at h
    · rename_i hg
      obtain ⟨b1, b2⟩ := bpsOf_ids h hle
      refine ⟨b1, fun i q hi hq => ?_⟩
      cases i with
      | zero => simp at hi; subst hi; rw [hg] at hq; cases hq
      | succ i =>
        have := b2 i q (by simpa using hi) hq
        rwa [show j + 1 + i = j + (i + 1) by omega] at this
    · split at h
      · rename_i id hid
        split at h
        · rename_i B hB
          split at h
          · rename_i c τ1 h1
            split at h
            · rename_i d τ2 h2
              cases h
              have a1 := hle _ _ _ _ _ h1
              obtain ⟨b1, b2⟩ := bpsOf_ids h2 hle
              refine ⟨Sub.le_trans a1 b1, fun i q hi hq => ?_⟩
              cases i with
              | zero => exact .inr ⟨id, B, b1 _ _ (a1 _ _ hid), hB⟩
              | succ i =>
                have := b2 i q (by simpa using hi) hq
                rwa [show j + 1 + i = j + (i + 1) by omega] at this
            · cases h
          · cases h
        · cases h
      · rename_i hid
        split at h
        · rename_i d τ2 h2
          cases h
          obtain ⟨b1, b2⟩ := bpsOf_ids h2 hle
          refine ⟨b1, fun i q hi hq => ?_⟩
          cases i with
          | zero => exact .inl (b1 _ _ hid)
          | succ i =>
            have := b2 i q (by simpa using hi) hq
            rwa [show j + 1 + i = j + (i + 1) by omega] at this
        · cases h
      · rename_i hid
        split at h
        · rename_i d τ2 h2
          cases h
          obtain ⟨b1, b2⟩ := bpsOf_ids h2 hle
          obtain ⟨e1, e2⟩ := bind_none hid
          refine ⟨Sub.le_trans e1 b1, fun i q hi hq => ?_⟩
          cases i with
          | zero => exact .inl (b1 _ _ e2)
          | succ i =>
            have := b2 i q (by simpa using hi) hq
            rwa [show j + 1 + i = j + (i + 1) by omega] at this
        · cases h

theorem bpsTo_gone : ∀ {ps : List BP} {us : List Un} {j : Nat} {B : SBlk}, (bpsTo ps us)[j]? = some (some B) → ∃ p, ps[j]? = some p ∧ p.isGone = false
  | [], us, j, B, h => by simp [bpsTo] at h
  | p :: ps, us, 0, B, h => by
    simp only [bpsTo, List.getElem?_cons_zero, Option.some.injEq] at h
    refine ⟨p, by simp, ?_⟩
    cases hg : p.isGone with
    | false => rfl
    | true => rw [(gone_size hg us).2] at h; cases h
  | p :: ps, us, j + 1, B, h => by
    simp only [bpsTo, List.getElem?_cons_succ] at h
    simpa using bpsTo_gone h

/-- A match of a pattern. -/
theorem Pn_of {p : Pn} {σ0 : Sub} {vs : List SV} {us : List Un} {τ : Sub} (h : p.of σ0 vs S = some (us, τ)) (hS : Sim φ S H) (hban : ∀ x, ban x → Own φ S x)
    (hv : ∀ (id x : Nat) B, τ.get (1000000 + id) = some (some id) → S.get id = some B → φ id = some (some x) → ¬ ban x) :
    Sim (φ.sub ban τ p.blks.length) (p.heapTo us) H ∧ (∀ ws, DVL φ H (Own φ S) vs ws → DVL (φ.sub ban τ p.blks.length) H (Own (φ.sub ban τ p.blks.length) (p.heapTo us)) (p.valsTo us) ws) ∧
    (∀ x, OwnI (φ.sub ban τ p.blks.length) (p.heapTo us) x → ∃ (j id : Nat) (B : SBlk), j < p.blks.length ∧ τ.get j = some (some id) ∧ S.get id = some B ∧ φ id = some (some x)) ∧
    (∀ j id, j < p.blks.length → τ.get j = some (some id) → (φ.sub ban τ p.blks.length) j = φ id) ∧ Sub.le σ0 τ ∧ Sub.apart τ = true ∧ Sub.keys τ p.blks.length p.lk S.lock = true ∧ (∀ q ∈ σ0, q.1 < p.blks.length) ∧
    (∀ x, OwnW (φ.sub ban τ p.blks.length) (p.heapTo us) x → ∃ (j id : Nat) (B : SBlk), p.lk ≤ j ∧ j < p.blks.length ∧ τ.get j = some (some id) ∧ S.lock ≤ id ∧ S.get id = some B ∧ φ id = some (some x)) := by
  unfold Pn.of at h
  split at h
  · rename_i a σ h1
    split at h
    · rename_i c τ' h2
      split at h
      · rename_i hc
        obtain ⟨hk, hap, hn, hin⟩ := hc
        cases h
        -- structure
        have hdummy : ∀ σ1 σ2 (p : BP) B b, BP.of S p B σ1 = some (b, σ2) → Sub.le σ1 σ2 := fun σ1 σ2 p B b hb =>
          (BP_of (φ := φ) (H := H) (ban := fun _ => False) (n := 0) (own' := fun _ => False) hS (fun _ h => h.elim) hb).1
        obtain ⟨hle2, hids⟩ := bpsOf_ids h2 hdummy
        have hsz : (p.heapTo (a ++ c)).size = p.blks.length := by show (heapOf _).size = _; rw [heapOf_size, bpsTo_len]
        have hgetn : ∀ j B, (p.heapTo (a ++ c)).get j = some B → j < p.blks.length := fun j B h => by have := SHeap.get_lt h; omega
        have hat : ∀ j, j < p.blks.length → ∀ y, τ.get j = some y → (φ.sub ban τ p.blks.length) j = (match y with | some id => φ id | none => some none) := by
          intro j hj y hy
          unfold Phi.sub
          simp only [if_pos hj, hy]
          cases y <;> rfl
        have hownw : ∀ x, OwnW (φ.sub ban τ p.blks.length) (p.heapTo (a ++ c)) x → ∃ (j id : Nat) (B : SBlk), p.lk ≤ j ∧ j < p.blks.length ∧ τ.get j = some (some id) ∧ S.lock ≤ id ∧ S.get id = some B ∧ φ id = some (some x) := by
          rintro x ⟨j, B, g0, g1, g2⟩
          have hj := hgetn j B g1
          obtain ⟨q, q1, q2⟩ := bpsTo_gone (heapOf_some g1)
          rcases hids j q q1 q2 with g3 | ⟨id, B0, g3, g4⟩
          · rw [Nat.zero_add] at g3
            rw [hat j hj _ g3] at g2; cases g2
          · rw [Nat.zero_add] at g3
            rw [hat j hj _ g3] at g2
            have g0 : p.lk ≤ j := g0
            refine ⟨j, id, B0, g0, hj, g3, ?_, g4, g2⟩
            rcases keys_of hk g3 with h | ⟨_, h⟩
            · have := hn.1
              omega
            · exact h id rfl g0
        have hown0 : ∀ x, OwnI (φ.sub ban τ p.blks.length) (p.heapTo (a ++ c)) x → ∃ (j id : Nat) (B : SBlk), j < p.blks.length ∧ τ.get j = some (some id) ∧ S.get id = some B ∧ φ id = some (some x) := by
          rintro x ⟨j, B, g1, g2⟩
          have hj := hgetn j B g1
          obtain ⟨q, q1, q2⟩ := bpsTo_gone (heapOf_some g1)
          rcases hids j q q1 q2 with g3 | ⟨id, B0, g3, g4⟩
          · rw [Nat.zero_add] at g3
            rw [hat j hj _ g3] at g2; cases g2
          · rw [Nat.zero_add] at g3
            rw [hat j hj _ g3] at g2
            exact ⟨j, id, B0, hj, g3, g4, g2⟩
        have hown : ∀ x, Own (φ.sub ban τ p.blks.length) (p.heapTo (a ++ c)) x → Own φ S x := by
          rintro x (hx | hx)
          · exact hban x hx
          · obtain ⟨j, id, B, _, _, g1, g2⟩ := hown0 x hx
            exact .inr ⟨id, B, g1, g2⟩
        have hfine : Fine φ S (Own (φ.sub ban τ p.blks.length) (p.heapTo (a ++ c))) p.blks.length τ := by
          refine ⟨fun j y hy => ?_, fun id x hid ⟨B, hB⟩ hx => ?_⟩
          · rcases keys_of hk hy with h | ⟨h, _⟩
            · exact .inr h
            · exact .inl h
          · rintro (hb | hb)
            · exact hv id x B hid hB hx hb
            · obtain ⟨j, id', B', g0, g1, g2, g3⟩ := hown0 x hb
              have := hS.inj id id' B B' x hB g2 hx g3
              subst this
              have := apart_inj hap hid g1
              omega
        obtain ⟨hle1, ha, hvals⟩ := VPs_of (n := p.blks.length) (ban := ban) hS hown p.vals vs _ _ _ h1
        obtain ⟨_, hblks⟩ := bpsOf_sound (n := p.blks.length) (ban := ban) hS hown h2
        have hblk : ∀ j B', (p.heapTo (a ++ c)).get j = some B' → (τ.get j = some none ∧ B'.empty) ∨ ∃ id B, τ.get j = some (some id) ∧ S.get id = some B ∧
            (∀ cs, BV φ H (Own φ S) B cs → BV (φ.sub ban τ p.blks.length) H (Own (φ.sub ban τ p.blks.length) (p.heapTo (a ++ c))) B' cs) ∧ (B.empty → B'.empty) := by
          intro j B' hB'
          have hB' := heapOf_some hB'
          have := hblks τ (Sub.le_refl _) hfine [] j B' (by
            rw [List.append_nil]
            have e : (a ++ c).drop p.size = c := by
              unfold Pn.size
              rw [← ha, List.drop_left]
            rw [e] at hB'
            exact hB')
          rwa [Nat.zero_add] at this
        refine ⟨⟨?_, ?_, ?_, ?_, ?_, hS.elock, hS.ehid⟩, ?_, hown0, fun j id hj hid => hat j hj _ hid, Sub.le_trans hle1 hle2, hap, hk, fun q hq => by simpa using List.all_eq_true.1 hin q hq, hownw⟩
        · intro j B' hB'
          have hj := hgetn j B' hB'
          rcases hblk j B' hB' with ⟨g1, g2⟩ | ⟨id, B, g1, g2, g3, g4⟩
          · exact .inl ⟨hat j hj _ g1, g2⟩
          · have e := hat j hj _ g1
            rcases hS.blk id B g2 with ⟨g5, g6⟩ | ⟨x, d, g5, g6, g7, g8⟩
            · exact .inl ⟨by rw [e]; exact g5, g4 g6⟩
            · refine .inr ⟨x, d, by rw [e]; exact g5, g6, fun hlk => g7 ?_, g3 _ g8⟩
              have hlk : p.lk ≤ j := hlk
              rcases keys_of hk g1 with h | ⟨_, h⟩
              · have := hn.1
                omega
              · exact h id rfl hlk
        · intro j j' B B' x g1 g2 g3 g4
          have hj := hgetn j B g1
          have hj' := hgetn j' B' g2
          rcases hblk j B g1 with ⟨e1, _⟩ | ⟨id, C, e1, e2, _⟩
          · rw [hat j hj _ e1] at g3; cases g3
          · rcases hblk j' B' g2 with ⟨f1, _⟩ | ⟨id', C', f1, f2, _⟩
            · rw [hat j' hj' _ f1] at g4; cases g4
            · rw [hat j hj _ e1] at g3
              rw [hat j' hj' _ f1] at g4
              have := hS.inj id id' C C' x e2 f2 g3 g4
              subst this
              exact apart_inj hap e1 f1
        · intro j hj
          rw [hsz] at hj
          unfold Phi.sub
          simp only [if_neg (show ¬ j < p.blks.length by omega)]
        · intro j x hx
          unfold Phi.sub at hx
          simp only at hx
          split at hx
          · split at hx
            · rename_i id _; exact hS.lt id x hx
            · cases hx
            · cases hx
          · cases hx
        · rw [hsz]; exact hn.2
        · intro ws hws
          obtain ⟨c1, c2⟩ := hvals τ hle2 hfine c
          refine ⟨by unfold Pn.valsTo; rw [c1]; exact hws.1, fun i s v g1 g2 => ?_⟩
          have hi : i < vs.length := by rw [← c1]; exact (List.getElem?_eq_some_iff.1 g1).1
          exact c2 i _ s (List.getElem?_eq_getElem hi) g1 v (hws.2 i _ v (List.getElem?_eq_getElem hi) g2)
      · cases h
    · cases h
  · cases h
theorem Pn_small {p : Pn} {σ0 : Sub} {vs : List SV} {us : List Un} {τ : Sub} (h : p.of σ0 vs S = some (us, τ)) : p.blks.length ≤ 1000000 := by
  unfold Pn.of at h
  split at h
  · split at h
    · split at h
      · rename_i hc; exact hc.2.2.1.1
      · cases h
    · cases h
  · cases h
theorem Pn_live {p : Pn} {σ0 : Sub} {vs : List SV} {us : List Un} {τ : Sub} (h : p.of σ0 vs S = some (us, τ)) (hS : Sim φ S H) (hgn : p.blks.any BP.isGone = false) {j id : Nat} (hj : j < p.blks.length) (hid : τ.get j = some (some id)) : ∃ B, S.get id = some B := by
  unfold Pn.of at h
  split at h
  · rename_i a σ h1
    split at h
    · rename_i c τ' h2
      split at h
      · rename_i hc
        cases h
        have hdummy : ∀ σ1 σ2 (p : BP) B b, BP.of S p B σ1 = some (b, σ2) → Sub.le σ1 σ2 := fun σ1 σ2 p B b hb =>
          (BP_of (φ := φ) (H := H) (ban := fun _ => False) (n := 0) (own' := fun _ => False) hS (fun _ h => h.elim) hb).1
        obtain ⟨_, hids⟩ := bpsOf_ids h2 hdummy
        have hq : p.blks[j]? = some p.blks[j] := List.getElem?_eq_getElem hj
        cases hg : (p.blks[j]).isGone with
        | false =>
          rcases hids j _ hq hg with g3 | ⟨id', B0, g3, g4⟩
          · rw [Nat.zero_add, hid] at g3; cases g3
          · rw [Nat.zero_add, hid] at g3; cases g3; exact ⟨B0, g4⟩
        | true =>
          have := List.any_eq_false.1 hgn _ (List.getElem_mem hj)
          exact absurd hg this
      · cases h
    · cases h
  · cases h
end
end
end Go.Proofs.Ytoiijpphfckdjaa.Ev
