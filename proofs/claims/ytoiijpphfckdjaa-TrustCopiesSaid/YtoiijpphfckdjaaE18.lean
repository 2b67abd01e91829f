/-
  The evaluator's calls are the machine's calls: the whole.
-/
import Derived.Test.YtoiijpphfckdjaaE17
namespace Go.Proofs.Ytoiijpphfckdjaa.Ev
open Go
open Go.RowKit (Below)
set_option linter.unusedSimpArgs false

section
variable {P : Program} {L : List FuncId} {O : Known}

theorem codeE_fr {cl : FuncId → List Value → Heap → Option (Value × Heap)} (hfr : ClFr cl) (N : Nat) : ∀ (c : Code) (s : St) (ex : Ex) (s' : St), codeE P L cl N c s = some (ex, s') → Fr s.hp s'.hp := by
  have hops : ∀ (ops : Array Oper) (l : List Oper) (s s' : St), opsE P cl ops l s = some s' → Fr s.hp s'.hp := by
    intro ops l
    induction l with
    | nil => intro s s' h; simp [opsE] at h; subst h; exact .refl _
    | cons q l ihk =>
      intro s s' h
      simp only [opsE] at h
      split at h
      · split at h
        · rename_i hq
          exact (opE_fr hfr hq).trans (ihk _ _ h)
        · cases h
      · have := ihk _ _ h; exact this
  have hdraw : ∀ (ops : Array Oper) (s s' : St), drawE P L cl ops s = some s' → Fr s.hp s'.hp := by
    intro ops s s' h
    unfold drawE at h
    split at h
    · cases h
    · rename_i hst
      split at h
      · rename_i s2 rs hrun
        split at h
        · rename_i hpairs
          cases h
          obtain ⟨hlen, _, S, hS0, hSn, hstep⟩ := drawRun_facts ops.toList 0 s [] s' rs rfl hrun
          have hC : Can P L cl ops (Region.before ops) s s' rs S := by
            refine ⟨by simpa using hlen, hS0, by simpa using hSn, ?_, hst, hpairs⟩
            intro i o ho
            have := hstep i o (by simpa using ho)
            simpa only [Nat.zero_add] using this
          have := hC.fr_upto hfr ops.size 0 (Nat.zero_le _) (Nat.le_refl _)
          rw [hC.ini, hC.fin] at this
          exact this
        · cases h
      · cases h
  have hloop : ∀ (body : St → Option (Ex × St)), (∀ s ex s', body s = some (ex, s') → Fr s.hp s'.hp) → ∀ (n : Nat) (s : St) (ex : Ex) (s' : St), loopN n body s = some (ex, s') → Fr s.hp s'.hp := by
    intro body hb n
    induction n with
    | zero => intro s ex s' h; simp [loopN] at h
    | succ n ih =>
      intro s ex s' h
      simp only [loopN] at h
      split at h
      · rename_i s1 h1
        exact (hb _ _ _ h1).trans (ih _ _ _ h)
      · exact hb _ _ _ h
  intro c
  induction c with
  | skip => intro s ex s' h; simp [codeE] at h; rw [← h.2]; exact .refl _
  | region id ops d =>
    intro s ex s' h
    simp only [codeE] at h
    split at h
    · simp only [Option.map_eq_some_iff] at h
      obtain ⟨s1, h1, h2⟩ := h; cases h2
      exact hops _ _ _ _ h1
    · simp only [Option.map_eq_some_iff] at h
      obtain ⟨s1, h1, h2⟩ := h; cases h2
      exact hdraw _ _ _ h1
  | seq x y ihx ihy =>
    intro s ex s' h
    simp only [codeE] at h
    split at h
    · rename_i s1 h1
      exact (ihx _ _ _ h1).trans (ihy _ _ _ h)
    · exact ihx _ _ _ h
  | cond c x y ihx ihy =>
    intro s ex s' h
    simp only [codeE] at h
    split at h
    · exact ihx _ _ _ h
    · exact ihy _ _ _ h
    · cases h
  | block id b ih =>
    intro s ex s' h
    simp only [codeE] at h
    split at h
    · rename_i k s1 h1
      have := ih _ _ _ h1
      split at h <;> (cases h; exact this)
    · exact ih _ _ _ h
  | loop b ih =>
    intro s ex s' h
    simp only [codeE] at h
    exact hloop _ ih _ _ _ _ h
  | rangeFunc f ps x y => intro s ex s' h; simp [codeE] at h
  | exit id => intro s ex s' h; simp [codeE] at h; rw [← h.2]; exact .refl _
  | scope b => intro s ex s' h; simp [codeE] at h
  | label l => intro s ex s' h; simp [codeE] at h; rw [← h.2]; exact .refl _
  | goto l => intro s ex s' h; simp [codeE] at h
  | ret => intro s ex s' h; simp [codeE] at h; rw [← h.2]; exact .refl _
  | refuse y => intro s ex s' h; simp [codeE] at h

theorem callE_fr : ∀ n, ClFr (callE P L O n) := by
  intro n
  induction n with
  | zero => intro g args H v H' h; simp [callE] at h
  | succ n ih =>
    intro g args H v H' h
    have hen : enterE P L (callE P L O n) n g args H = some (v, H') → Fr H H' := by
      intro h
      unfold enterE at h
      split at h
      · split at h
        · split at h
          · rename_i s h1
            simp only [Option.map_eq_some_iff, Prod.mk.injEq] at h
            obtain ⟨vs, _, _, h3⟩ := h
            rw [← h3]; exact codeE_fr ih n _ _ _ _ h1
          · rename_i s h1
            simp only [Option.map_eq_some_iff, Prod.mk.injEq] at h
            obtain ⟨vs, _, _, h3⟩ := h
            rw [← h3]; exact codeE_fr ih n _ _ _ _ h1
          · cases h
        · cases h
      · cases h
    cases hO : O g args with
    | none => rw [callE_enter hO] at h; exact hen h
    | some u => rw [callE_told hO] at h; cases h; exact .refl H

theorem resultE_sound {f : Fm} {H : Heap} {w : World} {fr : List Value} {a : Act} (hR : R f H w) (hF : FR f fr a) : ∀ (rv : List ResultVar) (vs : List Value), resultE P H fr rv = some vs →
    ∃ vs', (rv.mapM fun | .tmp t => pure (a.tmps.getD t undef) | .cell ad t => do loadVar t (← asAddr (a.tmps.getD ad undef)) : Sem (List Value)).run P w = .ok vs' w ∧ VL f vs vs' := by
  intro rv
  induction rv with
  | nil => intro vs h; simp [resultE] at h; subst h; exact ⟨[], by simp, .nil f⟩
  | cons r rv ih =>
    intro vs h
    cases r with
    | tmp t =>
      simp only [resultE] at h
      split at h
      · rename_i us hus
        cases h
        obtain ⟨vs', h1, h2⟩ := ih us hus
        refine ⟨a.tmps.getD t undef :: vs', ?_, .cons (hF.val t) h2⟩
        simp only [List.mapM_cons, Sem.run_bind, Sem.run_pure, Result.andThen_ok, h1]
      · cases h
    | cell ad t =>
      simp only [resultE] at h
      split at h
      · rename_i v us hv hus
        cases h
        obtain ⟨vs', h1, h2⟩ := ih us hus
        have hp := hF.val ad
        obtain ⟨v', h3, h4⟩ := loadE_sound hR hp hv
        refine ⟨v' :: vs', ?_, .cons h4 h2⟩
        have h5 : (do loadVar t (← asAddr (a.tmps.getD ad undef)) : Sem Value).run P w = .ok v' w := by
          generalize a.tmps.getD ad undef = q at h3 hp ⊢
          generalize fr.getD ad undef = q0 at hv hp
          cases hp <;> try (simp [loadE] at hv; done)
          simpa [Instr.loadAt, Instr.sureAddr, asAddr] using h3
        simp only [List.mapM_cons, Sem.run_bind, h5, Result.andThen_ok, h1, Sem.run_pure]
      · cases h

/-- Whatever the arguments are, memory is left alone and the answer is this one. -/
structure ToldOk (P : Program) (g : FuncId) (args : List Value) (v : Value) : Prop where
  fn : ∃ fn c, P.funcs[g]? = some fn ∧ fn.body = some c ∧ fn.name ≠ "runtime.NumGoroutine"
  calls : ∀ (f : Fm) (args' : List Value) (w : World), VL f args args' → Calls P g args'.toArray w fun e w' => ∃ v', e = .returned v' ∧ V f v v' ∧ Below w.heap.size w w'

theorem R.below {f : Fm} {H : Heap} {w w' : World} (hR : R f H w) (hb : Below w.heap.size w w') : Stp f H w f H w' ∧ R f H w' := by
  refine ⟨⟨.refl f, fun _ _ => rfl, Nat.le_refl _, rfl, rfl, fun _ _ _ => rfl, hb.size, hb.os, hb.tape, hb.output, fun cb h _ => hb.block cb h, fun _ _ h => h⟩, ?_, ?_, hR.lk, hR.inj⟩
  · intro x b hx
    obtain ⟨l, C, e, fr, h1, h2, h3⟩ := hR.blk x b hx
    exact ⟨l, C, e, fr, h1, by rw [hb.block l.blk (hR.big x l h1)]; exact h2, h3⟩
  · intro x l hx
    exact Nat.lt_of_lt_of_le (hR.big x l hx) hb.size

theorem callE_sound (hmix : P.follows .mixedOrders = true) (hname : ∀ (g : FuncId) (fn : Func) (c : Code), P.funcs[g]? = some fn → fn.body = some c → fn.name ≠ "runtime.NumGoroutine")
    (hO : ∀ g args v, O g args = some v → ToldOk P g args v) : ∀ n, ClOk P (callE P L O n) := by
  intro n
  induction n with
  | zero => intro g args H v H' h; simp [callE] at h
  | succ n ih =>
    intro g args H v H' h
    cases ht : O g args with
    | none =>
      rw [callE_enter ht] at h
      unfold enterE at h
      cases hfn : P.funcs[g]? with
      | none => simp [hfn] at h
      | some fn =>
        cases hbody : fn.body with
        | none => simp [hfn, hbody] at h
        | some c =>
          simp only [hfn, hbody] at h
          refine ⟨⟨fn, c, hfn, hbody, hname g fn c hfn hbody⟩, fun f w args' hR hfree hvl => ?_⟩
          have key : ∀ (ex : Ex) (s : St), (ex = .normal ∨ ex = .ret) → codeE P L (callE P L O n) n c ⟨args ++ List.replicate (fn.ntmps - args.length) undef, H⟩ = some (ex, s) →
              (resultE P s.hp s.fr fn.results.toList).map (fun vs => (packE vs, s.hp)) = some (v, H') →
              Calls P g args'.toArray w fun e w' => ∃ f' v', e = .returned v' ∧ V f' v v' ∧ Stp f H w f' H' w' ∧ R f' H' w' := by
            intro ex s hex hcode hres
            simp only [Option.map_eq_some_iff, Prod.mk.injEq] at hres
            obtain ⟨vs, hvs, hpack, hH⟩ := hres
            subst hH
            refine calls_of_wp hfn hbody ?_
            have hF : FR f (args ++ List.replicate (fn.ntmps - args.length) undef) { tmps := args'.toArray ++ Array.replicate (fn.ntmps - args'.toArray.size) undef, defers := [] } := by
              have hl := hvl.1
              refine ⟨by simp [hl], fun t => ?_⟩
              simp only [List.getD_eq_getElem?_getD, Array.getD_eq_getD_getElem?]
              rw [List.getElem?_append, Array.getElem?_append]
              by_cases ht : t < args.length
              · have ht' : t < args'.length := by omega
                rw [if_pos ht, if_pos (by simpa using ht')]
                simp only [List.getElem?_toArray]
                rw [List.getElem?_eq_getElem ht, List.getElem?_eq_getElem ht']
                exact hvl.2 t _ _ (List.getElem?_eq_getElem ht) (List.getElem?_eq_getElem ht')
              · rw [if_neg ht, if_neg (by simp; omega)]
                simp only [List.size_toArray, ← hl]
                by_cases h2 : t - args.length < fn.ntmps - args.length
                · simp [h2]; exact V.undef f
                · simp [h2]; exact V.undef f
            refine wp_mono (codeE_sound hmix ih (callE_fr n) n c _ ex s hcode f _ w hR hF hfree) ?_
            rintro e a1 w1 ⟨rfl, f1, hS, hR1, hF1, hd⟩
            have hfin : a1.defers = [] ∧ ∃ v', (results fn a1.tmps).run P w1 = .ok v' w1 ∧ ∃ f' v'', Ending.returned v' = .returned v'' ∧ V f' v v'' ∧ Stp f H w f' s.hp w1 ∧ R f' s.hp w1 := by
              refine ⟨hd, ?_⟩
              obtain ⟨vs', h1, h2⟩ := resultE_sound hR1 hF1 _ vs hvs
              have h3 : (results fn a1.tmps).run P w1 = .ok (if h : vs'.toArray.size = 1 then vs'.toArray[0] else .tuple vs'.toArray) w1 := by
                unfold results
                simp only [Sem.run_bind, Array.mapM_eq_mapM_toList]
                rw [Sem.run_map]
                exact congrArg (fun r => Result.andThen (Result.andThen r fun a w' => Result.ok a.toArray w') fun a w' => Sem.run P (pure (if h : a.size = 1 then a[0] else Value.tuple a)) w') h1
              refine ⟨_, h3, f1, _, rfl, ?_, hS, hR1⟩
              rw [← hpack]
              unfold packE
              split
              · rename_i u
                obtain ⟨u', rfl, hu⟩ := h2.one
                simpa using hu
              · rename_i hne
                have hsz : ¬ vs'.toArray.size = 1 := by
                  intro h5
                  have h6 := h2.1
                  simp at h5
                  rw [h5] at h6
                  match vs, h6 with
                  | [u], _ => exact hne u rfl
                rw [dif_neg hsz]
                exact .tuple _ _ (by simpa using h2.1) (fun i u u' e1 e2 => h2.2 i u u' (by simpa using e1) (by simpa using e2))
            rcases hex with rfl | rfl
            · exact hfin
            · exact hfin
          split at h
          · rename_i s h1; exact key _ s (.inl rfl) h1 h
          · rename_i s h1; exact key _ s (.inr rfl) h1 h
          · cases h
    | some u =>
      rw [callE_told ht] at h
      cases h
      have hT := hO g args v ht
      refine ⟨hT.fn, fun f w args' hR _ hvl => ?_⟩
      refine Calls.mono (hT.calls f args' w hvl) ?_
      rintro e w' ⟨v', rfl, hV, hb⟩
      obtain ⟨h1, h2⟩ := hR.below hb
      exact ⟨f, v', rfl, hV, h1, h2⟩
end
end Go.Proofs.Ytoiijpphfckdjaa.Ev
