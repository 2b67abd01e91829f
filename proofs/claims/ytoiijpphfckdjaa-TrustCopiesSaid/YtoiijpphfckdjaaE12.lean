/-
  An operation, and a region in the text's order.
-/
import Derived.Test.YtoiijpphfckdjaaE11
namespace Go.Proofs.Ytoiijpphfckdjaa.Ev
open Go
set_option linter.unusedSimpArgs false

/-- The frame's temporaries. -/
structure FR (f : Fm) (fr : List Value) (a : Act) : Prop where
  size : a.tmps.size = fr.length
  val : ∀ t, V f (fr.getD t undef) (a.tmps.getD t undef)

theorem FR.mono {f g : Fm} (hle : Le f g) {fr : List Value} {a : Act} (h : FR f fr a) : FR g fr a := ⟨h.size, fun t => (h.val t).mono hle⟩

theorem FR.put {f : Fm} {fr : List Value} {a : Act} (h : FR f fr a) (d : Option Tmp) {v v' : Value} (hv : V f v v') : FR f (putE fr d v) (a.put d v') := by
  cases d with
  | none => exact h
  | some d =>
    refine ⟨by simp [putE, Act.put, h.size], fun t => ?_⟩
    have := h.val t
    simp only [putE, Act.put, Array.getD_eq_getD_getElem?, List.getD_eq_getElem?_getD] at *
    rw [List.getElem?_set, Array.getElem?_setIfInBounds, h.size]
    by_cases e : d = t
    · subst e
      simp only [if_true]
      by_cases hl : d < fr.length
      · simp [hl]; exact hv
      · simp [hl]; exact V.undef f
    · simp only [e, if_false]; exact this

theorem FR.opnd {f : Fm} {fr : List Value} {a : Act} (h : FR f fr a) {x : Operand} {v : Value} (hx : Ev.opnd fr x = some v) : V f v (a.eval x) := by
  cases x with
  | tmp t => simp only [Ev.opnd, Option.some.injEq] at hx; subst hx; exact h.val t
  | const c =>
    simp only [Ev.opnd] at hx
    split at hx
    · rename_i hc; cases hx; exact V.constOk f hc
    · cases hx
  | global g => simp [Ev.opnd] at hx
  | func g => simp only [Ev.opnd, Option.some.injEq] at hx; subst hx; exact .func g _ _ _ _ rfl rfl (fun i v v' h _ => by simp at h) (fun i v v' h _ => by simp at h)

theorem FR.wanted {f : Fm} {fr : List Value} {a : Act} (h : FR f fr a) (ops : Array Oper) (o : Oper) : Region.wanted o (yielded ops a.tmps) = wantedE ops fr o := by
  unfold Region.wanted wantedE
  cases o.guard with
  | none => rfl
  | some gw =>
    obtain ⟨j, want⟩ := gw
    simp only [yielded]
    cases hd : (ops[j]?).bind (·.dst) with
    | none => simp
    | some t =>
      simp only [Option.bind_some]
      have hv := h.val t
      simp only [Array.getD_eq_getD_getElem?, List.getD_eq_getElem?_getD] at hv
      by_cases hl : t < fr.length
      · have hl' : t < a.tmps.size := by rw [h.size]; exact hl
        rw [List.getElem?_eq_getElem hl, Array.getElem?_eq_getElem hl'] at hv
        rw [List.getElem?_eq_getElem hl, Array.getElem?_eq_getElem hl']
        simp only [Option.getD_some] at hv
        generalize fr[t] = u at hv
        generalize a.tmps[t] = u' at hv
        cases hv <;> simp
      · have hl' : ¬ t < a.tmps.size := by rw [h.size]; exact hl
        have e1 : fr[t]? = none := List.getElem?_eq_none (Nat.le_of_not_lt hl)
        have e2 : a.tmps[t]? = none := Array.getElem?_eq_none (Nat.le_of_not_lt hl')
        rw [e1, e2]
        simp

section
variable {P : Program} {cl : FuncId → List Value → Heap → Option (Value × Heap)} {f : Fm} {H : Heap} {w : World}

theorem op_wp (hcl : ClOk P cl) (hR : R f H w) {o : Oper} {ρ : Operand → Option Value} {a : Act} (hρ : ∀ x ∈ o.op.operands, ∀ v, ρ x = some v → V f v (a.eval x)) {v : Value} {H' : Heap}
    (hfree : ∀ j, H.size ≤ j → j < H'.size → f j = none) (h : opE P cl ρ o H = some (v, H')) {K : Act → World → Prop} {Q : Exit → Act → World → Prop}
    (hK : ∀ f' w' v', V f' v v' → Stp f H w f' H' w' → R f' H' w' → K (a.put o.dst v') w') : o.wp P a w K Q := by
  by_cases hnc : ∀ c g, o.op = .call c → c.callee ≠ .value g
  · obtain ⟨f', w', v', h1, h2, h3, h4⟩ := op_did hR hρ hfree hnc h
    unfold Oper.wp
    rcases h1 with h1 | ⟨h1, rfl⟩
    · rw [h1]; exact hK f' w' v' h2 h3 h4
    · rw [h1]; exact hK f' w' undef h2 h3 h4
  · have : ∃ c g, o.op = .call c ∧ c.callee = .value g := by
      apply Classical.byContradiction
      intro hn
      exact hnc fun c g h1 h2 => hn ⟨c, g, h1, h2⟩
    obtain ⟨c, g, hop, hg⟩ := this
    unfold opE at h
    rw [hop] at h hρ
    simp only [hg] at h
    split at h
    · rename_i args hargs
      have va := argsE_sound (f := f) (ρ' := a.eval) c.args.toList args (fun x hx => hρ x (by simp [Op.operands, Call.operands]; exact .inr (by simpa using hx))) hargs
      split at h
      · rename_i n x y hfun
        have vf := hρ g (by simp [Op.operands, Call.operands, hg]) _ hfun
        cases hg' : a.eval g <;> rw [hg'] at vf <;> try (cases vf; done)
        rename_i fn x' y'
        cases vf with
        | func _ _ _ _ _ hx hy vx vy =>
          obtain ⟨⟨fnn, code, hfn, hbody, hname⟩, hcall⟩ := hcl _ _ _ _ _ h
          have vargs : VL f (x.toList ++ args ++ y.toList) (x'.toList ++ c.args.toList.map a.eval ++ y'.toList) := by
            refine (VL.append ⟨by simpa using hx, fun i u u' h1 h2 => vx i u u' (by simpa using h1) (by simpa using h2)⟩ va).append ⟨by simpa using hy, fun i u u' h1 h2 => vy i u u' (by simpa using h1) (by simpa using h2)⟩
          have hc := hcall f w _ hR hfree vargs
          have hrun : (execOp a.eval o).run P w = .ok (.enter n (x' ++ c.args.map a.eval ++ y')) w := by
            simp [execOp, hop, resolve, hg, hg', Deferred.ofValue, invoke, callFunc, hfn, hbody, hname]
          have e : (x'.toList ++ c.args.toList.map a.eval ++ y'.toList).toArray = x' ++ c.args.map a.eval ++ y' := by
            apply Array.ext'
            simp only [Array.toList_append, Array.toList_map]
          rw [e] at hc
          unfold Oper.wp
          rw [hrun]
          refine Calls.mono hc ?_
          rintro e w' ⟨f', v', rfl, h2, h3, h4⟩
          exact hK f' w' v' h2 h3 h4
      · cases h
    · cases h

/-- A region in the text's order. -/
theorem opsE_sound (hcl : ClOk P cl) (hfr : ClFr cl) {ops : Array Oper} {Q : Exit → Act → World → Prop} : ∀ (l : List Oper) (k : Nat) (fr : List Value) (H : Heap) (f : Fm) (w : World) (a : Act) (s' : St),
    (∀ j, l[j]? = ops[k + j]?) → R f H w → FR f fr a → (∀ j, H.size ≤ j → j < s'.hp.size → f j = none) → opsE P cl ops l ⟨fr, H⟩ = some s' →
    (∀ f' w' a', Stp f H w f' s'.hp w' → R f' s'.hp w' → FR f' s'.fr a' → a'.defers = a.defers → Q .normal a' w') →
    wpOps P ops Q ((List.range l.length).map (k + ·)) a w := by
  intro l
  induction l with
  | nil =>
    intro k fr H f w a s' _ hR hF _ h hQ
    simp only [opsE, Option.some.injEq] at h
    subst h
    exact hQ f w a (.refl f H w) hR hF rfl
  | cons o l ih =>
    intro k fr H f w a s' hl hR hF hfree h hQ
    have h0 : ops[k]? = some o := by simpa using (hl 0).symm
    have hl' : ∀ j, l[j]? = ops[k + 1 + j]? := fun j => by
      have := hl (j + 1)
      simpa [Nat.add_assoc, Nat.add_comm 1 j] using this
    have hrange : ((List.range (o :: l).length).map (k + ·)) = k :: ((List.range l.length).map (k + 1 + ·)) := by
      rw [List.length_cons, List.range_succ_eq_map, List.map_cons, List.map_map]
      simp only [Nat.add_zero]
      congr 1
      apply List.map_congr_left
      intro j _
      simp only [Function.comp]; omega
    rw [hrange]
    simp only [opsE] at h
    simp only [wpOps, h0]
    rw [hF.wanted ops o]
    cases hw : wantedE ops fr o with
    | true =>
      simp only [hw] at h
      simp only [if_true]
      split at h
      · rename_i v H1 hop
        left
        have f1 := opE_fr hfr hop
        have f2 : H1.size ≤ s'.hp.size := by
          have key : ∀ (l : List Oper) (s s' : St), opsE P cl ops l s = some s' → s.hp.size ≤ s'.hp.size := by
            intro l
            induction l with
            | nil => intro s s' h; simp [opsE] at h; subst h; exact Nat.le_refl _
            | cons q l ihk =>
              intro s s' h
              simp only [opsE] at h
              split at h
              · split at h
                · rename_i hq
                  exact Nat.le_trans (opE_fr hfr hq).size (ihk _ _ h)
                · cases h
              · have := ihk _ _ h; exact this
          exact key l _ _ h
        refine op_wp hcl hR (fun x _ u hu => hF.opnd hu) (fun j h1 h2 => hfree j h1 (by omega)) hop ?_
        intro f' w' v' hV hS hR'
        refine ih (k + 1) _ H1 f' w' _ s' hl' hR' ((hF.mono hS.le).put o.dst hV) ?_ h ?_
        · intro j h1 h2
          rw [hS.out j (by omega)]
          exact hfree j (Nat.le_trans f1.size h1) h2
        · intro f2 w2 a2 s2 r2 fr2 d2
          refine hQ f2 w2 a2 (hS.trans s2) r2 fr2 ?_
          rw [d2]; cases o.dst <;> rfl
      · cases h
    | false =>
      simp only [hw] at h
      simp only [Bool.false_eq_true, if_false]
      refine ih (k + 1) _ H f w _ s' hl' hR (hF.put o.dst (V.undef f)) hfree h ?_
      intro f2 w2 a2 s2 r2 fr2 d2
      refine hQ f2 w2 a2 s2 r2 fr2 ?_
      rw [d2]; cases o.dst <;> rfl
end
end Go.Proofs.Ytoiijpphfckdjaa.Ev
