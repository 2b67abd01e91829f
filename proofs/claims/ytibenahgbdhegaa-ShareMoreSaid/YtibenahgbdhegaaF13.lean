/-
  A match of a pattern: the same memory, told anew.
-/
import Derived.Test.YtibenahgbdhegaaF12
namespace Go.Proofs.Ytibenahgbdhegaa.Ev
open Go
set_option linter.unusedVariables false
set_option linter.unusedSimpArgs false

theorem foldl_push : ∀ (l : List SBlk) (S : SHeap), (l.foldl SHeap.push S).size = S.size + l.length ∧ (l.foldl SHeap.push S).lock = S.lock ∧ (l.foldl SHeap.push S).hid = S.hid ∧
    ∀ j, (l.foldl SHeap.push S).root.get j = if S.size ≤ j ∧ j < S.size + l.length then l[j - S.size]? else S.root.get j
  | [], S => by
    refine ⟨by simp, rfl, rfl, fun j => ?_⟩
    rw [if_neg (by simp)]
    rfl
  | b :: l, S => by
    obtain ⟨h1, h2, h3, h4⟩ := foldl_push l (S.push b)
    have hs : (S.push b).size = S.size + 1 := rfl
    refine ⟨by simp only [List.foldl_cons, List.length_cons]; rw [h1, hs]; omega, h2, h3, fun j => ?_⟩
    simp only [List.foldl_cons, List.length_cons]
    rw [h4, hs, SHeap.root_push]
    by_cases h : S.size + 1 ≤ j ∧ j < S.size + 1 + l.length
    · rw [if_pos h, if_pos (by omega), show j - S.size = (j - (S.size + 1)) + 1 by omega, List.getElem?_cons_succ]
    · rw [if_neg h]
      by_cases e : j = S.size
      · rw [if_pos e, if_pos (by omega), e]; simp
      · rw [if_neg e, if_neg (by omega)]
theorem heapOf_size (l : List SBlk) : (heapOf l).size = l.length := by
  have := (foldl_push l ⟨0, .e, 0, []⟩).1
  simpa [heapOf] using this
theorem heapOf_lock (l : List SBlk) : (heapOf l).lock = 0 := (foldl_push l ⟨0, .e, 0, []⟩).2.1
theorem heapOf_hid (l : List SBlk) : (heapOf l).hid = [] := (foldl_push l ⟨0, .e, 0, []⟩).2.2.1
theorem heapOf_get (l : List SBlk) (j : Nat) : (heapOf l).get j = l[j]? := by
  by_cases h : j < l.length
  · rw [SHeap.get_of (by rw [heapOf_size]; exact h) (by rw [heapOf_hid]; rfl)]
    have := (foldl_push l ⟨0, .e, 0, []⟩).2.2.2 j
    unfold heapOf
    rw [this, if_pos ⟨Nat.zero_le _, by simpa using h⟩]
    simp
  · rw [List.getElem?_eq_none (by omega)]
    unfold SHeap.get
    rw [if_neg (by rw [heapOf_size]; exact h)]

section
variable {φ : Phi} {S : SHeap} {H : Heap} {ban : Nat → Prop} {n : Nat} {own' : Nat → Prop}

theorem BP_of (hS : Sim φ S H) (ho : ∀ x, own' x → Own φ S x) {p : BP} {B : SBlk} {σ τ : Sub} {a : List Un} (h : BP.of S p B σ = some (a, τ)) :
    Sub.le σ τ ∧ a.length = p.size ∧ ∀ υ, Sub.le τ υ → Fine φ S own' n υ → ∀ rest, (∀ cs, BV φ H (Own φ S) B cs → BV (φ.sub ban υ n) H own' (p.to (a ++ rest)) cs) ∧ (B.empty → (p.to (a ++ rest)).empty) := by
  unfold BP.of at h
  split at h
  · rename_i l l'
    obtain ⟨h1, h2, h3⟩ := VPs_of (n := n) (ban := ban) hS ho l l' _ _ _ h
    refine ⟨h1, h2, fun υ hle hf rest => ⟨fun cs hB => ?_, fun e => e.elim⟩⟩
    obtain ⟨c1, c2⟩ := h3 υ hle hf rest
    refine ⟨by rw [c1]; exact hB.1, fun i s v g1 g2 => ?_⟩
    have hi : i < l'.length := by rw [← c1]; exact (List.getElem?_eq_some_iff.1 g1).1
    exact c2 i _ s (List.getElem?_eq_getElem hi) g1 v (hB.2 i _ v (List.getElem?_eq_getElem hi) g2)
  · split at h
    · rename_i e
      cases h; subst e
      refine ⟨Sub.le_refl _, rfl, fun υ hle hf rest => ⟨fun cs hB => ?_, fun e => e⟩⟩
      exact ⟨hB.1, fun r hr j s hs v hv => (hB.2 r hr j s hs v hv).flat_tr ho (flat_row hs)⟩
    · cases h
  · split at h
    · rename_i e
      cases h
      have := schEq_eq.2 _ _ e
      subst this
      refine ⟨Sub.le_refl _, rfl, fun υ hle hf rest => ⟨fun cs hB => ?_, fun e => e⟩⟩
      exact ⟨hB.1, fun r hr j s hs v hv => (hB.2 r hr j s hs v hv).flat_tr ho (flat_row hs)⟩
    · cases h
  · cases h

theorem BP_nil {p : BP} {a : List Un} (h : p.nil = some a) : a.length = p.size ∧ ∀ rest, (p.to (a ++ rest)).empty := by
  cases p with
  | cells l => cases h
  | ints k => cases h; exact ⟨rfl, fun _ => rfl⟩
  | recs l => cases h; exact ⟨rfl, fun _ => rfl⟩

theorem bpsTo_len : ∀ (ps : List BP) (us : List Un), (bpsTo ps us).length = ps.length
  | [], _ => rfl
  | p :: ps, us => by simp [bpsTo, bpsTo_len ps]

theorem bpsOf_sound (hS : Sim φ S H) (ho : ∀ x, own' x → Own φ S x) : ∀ {ps : List BP} {j : Nat} {σ τ : Sub} {a : List Un}, bpsOf S j ps σ = some (a, τ) →
    Sub.le σ τ ∧ ∀ υ, Sub.le τ υ → Fine φ S own' n υ → ∀ rest, ∀ i B', (bpsTo ps (a ++ rest))[i]? = some B' →
      (υ.get (j + i) = some none ∧ B'.empty) ∨ ∃ id B, υ.get (j + i) = some (some id) ∧ S.get id = some B ∧ (∀ cs, BV φ H (Own φ S) B cs → BV (φ.sub ban υ n) H own' B' cs) ∧ (B.empty → B'.empty)
  | [], j, σ, τ, a, h => by
    simp only [bpsOf, Option.some.injEq, Prod.mk.injEq] at h
    obtain ⟨rfl, rfl⟩ := h
    exact ⟨Sub.le_refl _, fun υ _ _ rest i B' hi => by simp [bpsTo] at hi⟩
  | p :: ps, j, σ, τ, a, h => by
    simp only [bpsOf] at h
    split at h
    · rename_i id hid
      split at h
      · rename_i B hB
        split at h
        · rename_i c τ1 h1
          split at h
          · rename_i d τ2 h2
            cases h
            obtain ⟨a1, a2, a3⟩ := BP_of (n := n) (ban := ban) hS ho h1
            obtain ⟨b1, b2⟩ := bpsOf_sound hS ho h2
            refine ⟨Sub.le_trans a1 b1, fun υ hle hf rest i B' hi => ?_⟩
            cases i with
            | zero =>
              simp only [bpsTo, List.getElem?_cons_zero, Option.some.injEq] at hi
              subst hi
              rw [List.append_assoc]
              obtain ⟨c1, c2⟩ := a3 υ (Sub.le_trans b1 hle) hf (d ++ rest)
              exact .inr ⟨id, B, hle _ _ (b1 _ _ (a1 _ _ hid)), hB, c1, c2⟩
            | succ i =>
              simp only [bpsTo, List.getElem?_cons_succ] at hi
              rw [List.append_assoc, ← a2, List.drop_left] at hi
              have := b2 υ hle hf rest i B' hi
              rwa [show j + 1 + i = j + (i + 1) by omega] at this
          · cases h
        · cases h
      · cases h
    · rename_i hid
      split at h
      · rename_i c h1
        split at h
        · rename_i d τ2 h2
          cases h
          obtain ⟨a2, a3⟩ := BP_nil h1
          obtain ⟨b1, b2⟩ := bpsOf_sound hS ho h2
          refine ⟨b1, fun υ hle hf rest i B' hi => ?_⟩
          cases i with
          | zero =>
            simp only [bpsTo, List.getElem?_cons_zero, Option.some.injEq] at hi
            subst hi
            rw [List.append_assoc]
            exact .inl ⟨hle _ _ (b1 _ _ hid), a3 _⟩
          | succ i =>
            simp only [bpsTo, List.getElem?_cons_succ] at hi
            rw [List.append_assoc, ← a2, List.drop_left] at hi
            have := b2 υ hle hf rest i B' hi
            rwa [show j + 1 + i = j + (i + 1) by omega] at this
        · cases h
      · cases h
    · cases h

theorem apart_inj : ∀ {σ : Sub}, Sub.apart σ = true → ∀ {j k id : Nat}, σ.get j = some (some id) → σ.get k = some (some id) → j = k
  | [], _, _, _, _, h, _ => by cases h
  | (i, x) :: r, ha, j, k, id, h1, h2 => by
    simp only [Sub.apart, Bool.and_eq_true] at ha
    obtain ⟨ha1, ha2⟩ := ha
    have mem : ∀ {σ : Sub} {j : Nat} {y : Option Nat}, σ.get j = some y → (j, y) ∈ σ := by
      intro σ
      induction σ with
      | nil => intro j y h; cases h
      | cons p σ ih =>
        intro j y h
        obtain ⟨i, x⟩ := p
        simp only [Sub.get] at h
        split at h
        · rename_i e; cases h; subst e; simp
        · exact List.mem_cons_of_mem _ (ih h)
    simp only [Sub.get] at h1 h2
    by_cases e1 : j = i
    · by_cases e2 : k = i
      · rw [e1, e2]
      · rw [if_pos e1] at h1
        rw [if_neg e2] at h2
        cases h1
        simp only [List.all_eq_true, Bool.or_eq_true, beq_iff_eq] at ha1
        rcases ha1 _ (mem h2) with h | h
        · simp at h
        · exact absurd h e2
    · rw [if_neg e1] at h1
      by_cases e2 : k = i
      · rw [if_pos e2] at h2
        cases h2
        simp only [List.all_eq_true, Bool.or_eq_true, beq_iff_eq] at ha1
        rcases ha1 _ (mem h1) with h | h
        · simp at h
        · exact absurd h e1
      · rw [if_neg e2] at h2
        exact apart_inj ha2 h1 h2

theorem keys_of {σ : Sub} {n lock : Nat} {view : Bool} (h : Sub.keys σ n lock view = true) {j : Nat} {y : Option Nat} (hj : σ.get j = some y) : (view = true ∧ 1000000 ≤ j) ∨ (j < n ∧ ∀ id, y = some id → lock ≤ id) := by
  have mem : ∀ {σ : Sub} {j : Nat} {y : Option Nat}, σ.get j = some y → (j, y) ∈ σ := by
    intro σ
    induction σ with
    | nil => intro j y h; cases h
    | cons p σ ih =>
      intro j y h
      obtain ⟨i, x⟩ := p
      simp only [Sub.get] at h
      split at h
      · rename_i e; cases h; subst e; simp
      · exact List.mem_cons_of_mem _ (ih h)
  simp only [Sub.keys, List.all_eq_true] at h
  have := h _ (mem hj)
  simp only [Bool.or_eq_true, Bool.and_eq_true, decide_eq_true_eq] at this
  rcases this with h | ⟨h1, h2⟩
  · exact .inl h
  · refine .inr ⟨h1, ?_⟩
    rintro id rfl
    simpa using h2

/-- What stands behind each block of the pattern. -/
theorem bpsOf_ids : ∀ {ps : List BP} {j : Nat} {σ τ : Sub} {a : List Un}, bpsOf S j ps σ = some (a, τ) → (∀ σ1 σ2 p B b, BP.of S p B σ1 = some (b, σ2) → Sub.le σ1 σ2) →
    Sub.le σ τ ∧ ∀ i, i < ps.length → τ.get (j + i) = some none ∨ ∃ id B, τ.get (j + i) = some (some id) ∧ S.get id = some B
  | [], j, σ, τ, a, h, _ => by
    simp only [bpsOf, Option.some.injEq, Prod.mk.injEq] at h
    obtain ⟨rfl, rfl⟩ := h
    exact ⟨Sub.le_refl _, fun i hi => by simp at hi⟩
  | p :: ps, j, σ, τ, a, h, hle => by
    simp only [bpsOf] at h
    split at h
    · rename_i id hid
      split at h
      · rename_i B hB
        split at h
        · rename_i c τ1 h1
          split at h
          · rename_i d τ2 h2
            cases h
            have a1 := hle _ _ _ _ _ h1
            obtain ⟨b1, b2⟩ := bpsOf_ids h2 hle
            refine ⟨Sub.le_trans a1 b1, fun i hi => ?_⟩
            cases i with
            | zero => exact .inr ⟨id, B, b1 _ _ (a1 _ _ hid), hB⟩
            | succ i =>
              have := b2 i (by simpa using hi)
              rwa [show j + 1 + i = j + (i + 1) by omega] at this
          · cases h
        · cases h
      · cases h
    · rename_i hid
      split at h
      · rename_i c h1
        split at h
        · rename_i d τ2 h2
          cases h
          obtain ⟨b1, b2⟩ := bpsOf_ids h2 hle
          refine ⟨b1, fun i hi => ?_⟩
          cases i with
          | zero => exact .inl (b1 _ _ hid)
          | succ i =>
            have := b2 i (by simpa using hi)
            rwa [show j + 1 + i = j + (i + 1) by omega] at this
        · cases h
      · cases h
    · cases h

/-- A match of a pattern. -/
theorem Pn_of {p : Pn} {view : Bool} {vs : List SV} {us : List Un} {τ : Sub} (h : p.of view vs S = some (us, τ)) (hS : Sim φ S H) (hban : ∀ x, ban x → φ.ban x) (hv : view = true → ∀ x, ¬ ban x) :
    Sim (φ.sub ban τ p.blks.length) (p.heapTo us) H ∧ (∀ ws, DVL φ H (Own φ S) vs ws → DVL (φ.sub ban τ p.blks.length) H (Own (φ.sub ban τ p.blks.length) (p.heapTo us)) (p.valsTo us) ws) ∧
    (∀ x, OwnI (φ.sub ban τ p.blks.length) (p.heapTo us) x → OwnI φ S x) ∧ (∀ j id, j < p.blks.length → τ.get j = some (some id) → (φ.sub ban τ p.blks.length) j = φ id) := by
  unfold Pn.of at h
  split at h
  · rename_i a σ h1
    split at h
    · rename_i c τ' h2
      split at h
      · rename_i hc
        obtain ⟨hk, hap, hn⟩ := hc
        cases h
        -- structure
        have hdummy : ∀ σ1 σ2 (p : BP) B b, BP.of S p B σ1 = some (b, σ2) → Sub.le σ1 σ2 := fun σ1 σ2 p B b hb =>
          (BP_of (φ := φ) (H := H) (ban := fun _ => False) (n := 0) (own' := fun _ => False) hS (fun _ h => h.elim) hb).1
        obtain ⟨hle2, hids⟩ := bpsOf_ids h2 hdummy
        have hsz : (p.heapTo (a ++ c)).size = p.blks.length := by unfold Pn.heapTo; rw [heapOf_size, bpsTo_len]
        have hgetn : ∀ j B, (p.heapTo (a ++ c)).get j = some B → j < p.blks.length := fun j B h => by have := SHeap.get_lt h; omega
        have hat : ∀ j, j < p.blks.length → ∀ y, τ.get j = some y → (φ.sub ban τ p.blks.length) j = (match y with | some id => φ id | none => some none) := by
          intro j hj y hy
          unfold Phi.sub
          simp only [if_pos hj, hy]
          cases y <;> rfl
        have hown0 : ∀ x, OwnI (φ.sub ban τ p.blks.length) (p.heapTo (a ++ c)) x → ∃ j id B, j < p.blks.length ∧ τ.get j = some (some id) ∧ S.get id = some B ∧ φ id = some (some x) := by
          rintro x ⟨j, B, g1, g2⟩
          have hj := hgetn j B g1
          rcases hids j hj with g3 | ⟨id, B0, g3, g4⟩
          · rw [Nat.zero_add] at g3
            rw [hat j hj _ g3] at g2; cases g2
          · rw [Nat.zero_add] at g3
            rw [hat j hj _ g3] at g2
            exact ⟨j, id, B0, hj, g3, g4, g2⟩
        have hownI : ∀ x, OwnI (φ.sub ban τ p.blks.length) (p.heapTo (a ++ c)) x → OwnI φ S x := by
          intro x hx
          obtain ⟨j, id, B, _, _, g1, g2⟩ := hown0 x hx
          exact ⟨id, B, g1, g2⟩
        have hown : ∀ x, Own (φ.sub ban τ p.blks.length) (p.heapTo (a ++ c)) x → Own φ S x := by
          rintro x (hx | hx)
          · exact .inl (hban x hx)
          · exact .inr (hownI x hx)
        have hfine : Fine φ S (Own (φ.sub ban τ p.blks.length) (p.heapTo (a ++ c))) p.blks.length τ := by
          refine ⟨fun j y hy => ?_, fun id x hid ⟨B, hB⟩ hx => ?_⟩
          · rcases keys_of hk hy with ⟨_, h⟩ | ⟨h, _⟩
            · exact .inr h
            · exact .inl h
          · have hview : view = true := by
              rcases keys_of hk hid with ⟨h, _⟩ | ⟨h, _⟩
              · exact h
              · omega
            rintro (hb | hb)
            · exact hv hview x hb
            · obtain ⟨j, id', B', g0, g1, g2, g3⟩ := hown0 x hb
              have := hS.inj id id' B B' x hB g2 hx g3
              subst this
              have := apart_inj hap hid g1
              omega
        obtain ⟨_, ha, hvals⟩ := VPs_of (n := p.blks.length) (ban := ban) hS hown p.vals vs _ _ _ h1
        obtain ⟨_, hblks⟩ := bpsOf_sound (n := p.blks.length) (ban := ban) hS hown h2
        have hblk : ∀ j B', (p.heapTo (a ++ c)).get j = some B' → (τ.get j = some none ∧ B'.empty) ∨ ∃ id B, τ.get j = some (some id) ∧ S.get id = some B ∧
            (∀ cs, BV φ H (Own φ S) B cs → BV (φ.sub ban τ p.blks.length) H (Own (φ.sub ban τ p.blks.length) (p.heapTo (a ++ c))) B' cs) ∧ (B.empty → B'.empty) := by
          intro j B' hB'
          have hB2 := hB'
          unfold Pn.heapTo at hB'
          rw [heapOf_get] at hB'
          have := hblks τ (Sub.le_refl _) hfine [] j B' (by
            rw [List.append_nil]
            have e : (a ++ c).drop p.size = c := by
              unfold Pn.size
              rw [← ha, List.drop_left]
            rw [e] at hB'
            exact hB')
          rwa [Nat.zero_add] at this
        refine ⟨⟨?_, ?_, ?_, ?_, ?_, hS.elock, hS.ehid⟩, ?_, hownI, fun j id hj hid => hat j hj _ hid⟩
        · intro j B' hB'
          have hj := hgetn j B' hB'
          rcases hblk j B' hB' with ⟨g1, g2⟩ | ⟨id, B, g1, g2, g3, g4⟩
          · exact .inl ⟨hat j hj _ g1, g2⟩
          · have e := hat j hj _ g1
            rcases hS.blk id B g2 with ⟨g5, g6⟩ | ⟨x, d, g5, g6, g7, g8⟩
            · exact .inl ⟨by rw [e]; exact g5, g4 g6⟩
            · refine .inr ⟨x, d, by rw [e]; exact g5, g6, fun _ => g7 ?_, g3 _ g8⟩
              rcases keys_of hk g1 with ⟨_, h⟩ | ⟨_, h⟩
              · omega
              · exact h id rfl
        · intro j j' B B' x g1 g2 g3 g4
          have hj := hgetn j B g1
          have hj' := hgetn j' B' g2
          rcases hblk j B g1 with ⟨e1, _⟩ | ⟨id, C, e1, e2, _⟩
          · rw [hat j hj _ e1] at g3; cases g3
          · rcases hblk j' B' g2 with ⟨f1, _⟩ | ⟨id', C', f1, f2, _⟩
            · rw [hat j' hj' _ f1] at g4; cases g4
            · rw [hat j hj _ e1] at g3
              rw [hat j' hj' _ f1] at g4
              have := hS.inj id id' C C' x e2 f2 g3 g4
              subst this
              exact apart_inj hap e1 f1
        · intro j hj
          rw [hsz] at hj
          unfold Phi.sub
          simp only [if_neg (show ¬ j < p.blks.length by omega)]
        · intro j x hx
          unfold Phi.sub at hx
          simp only at hx
          split at hx
          · split at hx
            · rename_i id _; exact hS.lt id x hx
            · cases hx
            · cases hx
          · cases hx
        · rw [show (p.heapTo (a ++ c)).lock = 0 from heapOf_lock _]; exact Nat.zero_le _
        · intro ws hws
          obtain ⟨c1, c2⟩ := hvals τ hle2 hfine c
          refine ⟨by unfold Pn.valsTo; rw [c1]; exact hws.1, fun i s v g1 g2 => ?_⟩
          have hi : i < vs.length := by rw [← c1]; exact (List.getElem?_eq_some_iff.1 g1).1
          exact c2 i _ s (List.getElem?_eq_getElem hi) g1 v (hws.2 i _ v (List.getElem?_eq_getElem hi) g2)
      · cases h
    · cases h
  · cases h
end
end Go.Proofs.Ytibenahgbdhegaa.Ev
