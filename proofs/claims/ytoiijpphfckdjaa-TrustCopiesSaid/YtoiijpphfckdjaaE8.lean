/-
  Every operation of the evaluator is the machine's.
-/
import Derived.Test.YtoiijpphfckdjaaE7
namespace Go.Proofs.Ytoiijpphfckdjaa.Ev
open Go
set_option linter.unusedSimpArgs false

section
variable {P : Program} {f : Fm} {H : Heap} {w : World}

theorem copyE_sound (hR : R f H w) {t u ty : TypeId} {d d' s s' v : Value} {H' : Heap} (hd : V f d d') (hs : V f s s') (h : copyE P H t u d s = some (v, H')) :
    ∃ w' v', (Builtin.copy_ #[t, u] ty #[d', s']).run P w = .ok v' w' ∧ V f v v' ∧ Stp f H w f H' w' ∧ R f H' w' := by
  unfold copyE at h
  split at h
  case h_2 => cases h
  rename_i elem db dLen dCap sb sLen sCap hu
  cases hi : P.info? elem with
  | none => simp [hi] at h
  | some i =>
  simp only [hi] at h
  obtain ⟨sa, sc, hs'⟩ := sliceLen hs rfl
  obtain ⟨da, dc, hd'⟩ := sliceLen hd rfl
  split at h
  · -- nothing to copy
    rename_i hcs
    cases h
    obtain ⟨hlen, cs', hvl, hcell, hrun, _⟩ := sliceCells_sound (P := P) hR hs (by intro a m c e; cases e; exact Nat.min_le_left _ _) hcs
    have hnil : cs' = [] := by have := hvl.1; simpa using this.symm
    subst hnil
    subst hs'; subst hd'
    refine ⟨w, _, ?_, .int .i64 _, .refl f H w, hR⟩
    have hrun' : (Builtin.firstCells i.size (Nat.min sLen dLen) (.slice sa sLen sc)).run P w = .ok #[] w := hrun
    cases da <;> simp [Builtin.copy_, run_underlying hu, Builtin.lenOf, sizeOf, typeInfo, hi, hrun', storeCells, goInt]
  · rename_i cs hne hcs
    obtain ⟨hlen, cs', hvl, hcell, hrun, _⟩ := sliceCells_sound (P := P) hR hs (by intro a m c e; cases e; exact Nat.min_le_left _ _) hcs
    split at h
    · cases h
    · rename_i b off sp
      simp only [Option.map_eq_some_iff] at h
      obtain ⟨H2, hset, hv⟩ := h
      cases hv
      obtain ⟨l, C, e, hl, hw, hfit, hstp, hR'⟩ := hR.store hset hvl hcell
      have hcell' : ∀ u ∈ cs', isCell u = true := by
        intro u hu'
        obtain ⟨j, hj⟩ := List.getElem?_of_mem hu'
        have hjl : j < cs.length := by rw [hvl.1]; exact (List.getElem?_eq_some_iff.1 hj).1
        rw [(hvl.2 j _ _ (List.getElem?_eq_getElem hjl) hj).cell]
        exact hcell _ (List.getElem_mem hjl)
      have hst := run_storeCells_at P l.blk (l.off + off) e cs' 0 C w hw (by simpa using hfit) (fun u hu => isCell_one (hcell' u hu))
      simp only [Nat.add_zero] at hst
      have hrun' : (Builtin.firstCells i.size (Nat.min sLen dLen) (.slice sa sLen sc)).run P w = .ok cs'.toArray w := by subst hs'; exact hrun
      have haddr : da = some ⟨l.blk, l.off + off, none⟩ := by
        subst hd'
        cases hd with
        | slX _ _ _ _ l2 a hl2 ha =>
          rw [hl] at hl2; cases hl2
          rcases ha with h | ⟨h, _⟩
          · rw [h]
          · have : cs.length = 0 := by rw [hlen, h]; simp
            exact absurd (List.eq_nil_of_length_eq_zero this) (fun e => hne e)
        | slL _ _ _ _ _ off' c' l2 hl2 h1 h2 h3 h4 =>
          rw [hl] at hl2; cases hl2
          have hpos : 0 < dLen := by
            rcases Nat.eq_zero_or_pos dLen with h0 | h0
            · have : cs.length = 0 := by rw [hlen, h0]; simp
              exact absurd (List.eq_nil_of_length_eq_zero this) (fun e => hne e)
            · exact h0
          rw [h4 (by omega)]
      subst hs'; subst hd'; subst haddr
      refine ⟨_, _, ?_, .int .i64 _, hstp, hR'⟩
      simp [Builtin.copy_, run_underlying hu, Builtin.lenOf, sizeOf, typeInfo, hi, hrun', hst, goInt]
  · cases h

theorem VL.cons_inv {x : Value} {xs ys : List Value} (h : VL f (x :: xs) ys) : ∃ y r, ys = y :: r ∧ V f x y ∧ VL f xs r := by
  cases ys with
  | nil => have := h.1; simp at this
  | cons y r => exact ⟨y, r, rfl, h.2 0 _ _ (by simp) (by simp), by have := h.1; simpa using this, fun i v v' a b => h.2 (i + 1) v v' (by simpa using a) (by simpa using b)⟩
theorem VL.nil_inv {ys : List Value} (h : VL f [] ys) : ys = [] := by have := h.1; simpa using this.symm
theorem VL.one {x : Value} {ys : List Value} (h : VL f [x] ys) : ∃ y, ys = [y] ∧ V f x y := by
  obtain ⟨y, r, rfl, h0, h1⟩ := h.cons_inv
  rw [h1.nil_inv]; exact ⟨y, rfl, h0⟩
theorem VL.two {x u : Value} {ys : List Value} (h : VL f [x, u] ys) : ∃ y z, ys = [y, z] ∧ V f x y ∧ V f u z := by
  obtain ⟨y, r, rfl, h0, h1⟩ := h.cons_inv
  obtain ⟨z, rfl, h2⟩ := h1.one
  exact ⟨y, z, rfl, h0, h2⟩

theorem min2_none : ∀ l : List Value, l.foldl min2E none = none
  | [] => rfl
  | _ :: l => min2_none l
theorem min2_key : ∀ (rest rest' : List Value) (k : IntKind) (x : Int), VL f rest rest' → ∀ v, rest.foldl min2E (some (.int k x)) = some v →
    (rest'.foldlM Builtin.min2 (.int k x)).run P w = .ok v w ∧ V f v v := by
  intro rest
  induction rest with
  | nil =>
    intro rest' k x hr v hv
    have : rest' = [] := by have := hr.1; simpa using this.symm
    subst this
    simp at hv; subst hv
    exact ⟨by simp, .int _ _⟩
  | cons y rest ih =>
    intro rest' k x hr v hv
    obtain ⟨y', r', rfl, h0, ht⟩ := hr.cons_inv
    rw [List.foldl_cons] at hv
    cases h0
    case int k2 n =>
      obtain ⟨h1, h2⟩ := ih r' k _ ht v hv
      exact ⟨by simp only [List.foldlM_cons, Sem.run_bind, Builtin.min2, Sem.run_pure, Result.andThen_ok]; exact h1, h2⟩
    all_goals (have hv' : List.foldl min2E none rest = some v := hv; rw [min2_none] at hv'; cases hv')

theorem minE_sound {ts : Array TypeId} {t : TypeId} {xs xs' : List Value} {v : Value} (hx : VL f xs xs') (h : minE xs = some v) :
    (Builtin.min_ ts t xs'.toArray).run P w = .ok v w ∧ V f v v := by
  unfold minE at h
  split at h
  · rename_i k x rest
    obtain ⟨y', r', rfl, h0, ht⟩ := hx.cons_inv
    cases h0
    exact min2_key rest r' k x ht v h
  · cases h

theorem max2_none : ∀ l : List Value, l.foldl max2E none = none
  | [] => rfl
  | _ :: l => max2_none l
theorem max2_key : ∀ (rest rest' : List Value) (k : IntKind) (x : Int), VL f rest rest' → ∀ v, rest.foldl max2E (some (.int k x)) = some v →
    (rest'.foldlM Builtin.max2 (.int k x)).run P w = .ok v w ∧ V f v v := by
  intro rest
  induction rest with
  | nil =>
    intro rest' k x hr v hv
    have : rest' = [] := by have := hr.1; simpa using this.symm
    subst this
    simp at hv; subst hv
    exact ⟨by simp, .int _ _⟩
  | cons y rest ih =>
    intro rest' k x hr v hv
    obtain ⟨y', r', rfl, h0, ht⟩ := hr.cons_inv
    rw [List.foldl_cons] at hv
    cases h0
    case int k2 n =>
      obtain ⟨h1, h2⟩ := ih r' k _ ht v hv
      exact ⟨by simp only [List.foldlM_cons, Sem.run_bind, Builtin.max2, Sem.run_pure, Result.andThen_ok]; exact h1, h2⟩
    all_goals (have hv' : List.foldl max2E none rest = some v := hv; rw [max2_none] at hv'; cases hv')

theorem maxE_sound {ts : Array TypeId} {t : TypeId} {xs xs' : List Value} {v : Value} (hx : VL f xs xs') (h : maxE xs = some v) :
    (Builtin.max_ ts t xs'.toArray).run P w = .ok v w ∧ V f v v := by
  unfold maxE at h
  split at h
  · rename_i k x rest
    obtain ⟨y', r', rfl, h0, ht⟩ := hx.cons_inv
    cases h0
    exact max2_key rest r' k x ht v h
  · cases h

/-- What a builtin does. -/
theorem builtinE_sound (hR : R f H w) {b : Builtin} {ts : Array TypeId} {ty : TypeId} {cs : Array Bool} {xs xs' : List Value} {v : Value} {H' : Heap}
    (hfree : ∀ j, H.size ≤ j → j < H'.size → f j = none) (hx : VL f xs xs') (h : builtinE P H b ts xs = some (v, H')) :
    ∃ f' w' v', (Go.builtin b ts ty cs xs'.toArray).run P w = .ok (.value v') w' ∧ V f' v v' ∧ Stp f H w f' H' w' ∧ R f' H' w' := by
  obtain ⟨tl⟩ := ts
  unfold builtinE at h
  split at h
  · split at h
    · rename_i t u s x hts
      simp at hts; subst hts
      obtain ⟨s', x', rfl, h1, h2⟩ := hx.two
      obtain ⟨f', w', v', h1, h2⟩ := appendE_sound (ty := ty) hR hfree h1 h2 h
      exact ⟨f', w', v', by simp [Go.builtin, h1], h2⟩
    · cases h
  · split at h
    · rename_i t u s x hts
      simp at hts; subst hts
      obtain ⟨s', x', rfl, h1, h2⟩ := hx.two
      obtain ⟨w', v', h1, h2⟩ := copyE_sound (u := u) (ty := ty) hR h1 h2 h
      exact ⟨f, w', v', by simp [Go.builtin, h1], h2⟩
    · cases h
  · split at h
    · rename_i t x hts
      simp at hts; subst hts
      obtain ⟨x', rfl, hv⟩ := hx.one
      split at h
      · rename_i e a n c hu
        cases h
        obtain ⟨a', c', rfl⟩ := sliceLen hv rfl
        exact ⟨f, w, _, by simp [Go.builtin, Builtin.len_, run_underlying hu, goInt], .int _ _, .refl f H w, hR⟩
      · rename_i n e y hu
        cases h
        exact ⟨f, w, _, by simp [Go.builtin, Builtin.len_, run_underlying hu, goInt], .int _ _, .refl f H w, hR⟩
      · rename_i s hu
        cases h
        cases hv
        exact ⟨f, w, _, by simp [Go.builtin, Builtin.len_, run_underlying hu, goInt], .int _ _, .refl f H w, hR⟩
      · cases h
    · cases h
  · split at h
    · rename_i t hts
      simp at hts; subst hts
      obtain ⟨x', rfl, hv⟩ := hx.one
      split at h
      · rename_i e hu
        cases h
        cases hv
        exact ⟨f, w, _, by simp [Go.builtin, Builtin.cap_, run_underlying hu, goInt], .int _ _, .refl f H w, hR⟩
      · cases h
    · rename_i t b off n c hts
      simp at hts; subst hts
      obtain ⟨x', rfl, hv⟩ := hx.one
      split at h
      · rename_i e hu
        cases h
        cases hv with
        | slX b off _ _ l a hl ha => exact ⟨f, w, _, by simp [Go.builtin, Builtin.cap_, run_underlying hu, goInt], .int _ _, .refl f H w, hR⟩
      · cases h
    · cases h
  · simp only [Option.map_eq_some_iff] at h
    obtain ⟨u, hu, hv⟩ := h
    cases hv
    obtain ⟨h1, h2⟩ := minE_sound (P := P) (w := w) (ts := ⟨tl⟩) (t := ty) hx hu
    exact ⟨f, w, _, by simp [Go.builtin, h1], h2, .refl f H w, hR⟩
  · simp only [Option.map_eq_some_iff] at h
    obtain ⟨u, hu, hv⟩ := h
    cases hv
    obtain ⟨h1, h2⟩ := maxE_sound (P := P) (w := w) (ts := ⟨tl⟩) (t := ty) hx hu
    exact ⟨f, w, _, by simp [Go.builtin, h1], h2, .refl f H w, hR⟩
  · cases h
end
end Go.Proofs.Ytoiijpphfckdjaa.Ev
