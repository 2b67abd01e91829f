/-
  Code and calls over partly unknown values are the evaluator's.
-/
import Derived.Test.YtoiijpphfckdjaaF10
namespace Go.Proofs.Ytoiijpphfckdjaa.Ev
noncomputable section
open Go
set_option linter.unusedVariables false
set_option linter.unusedSimpArgs false

section
variable {R : Type} {P : Program} {L : List FuncId} {O : Known} {T : TabS} {A : Array Nat} {base : Nat} {φ : Phi} {S : SHeap} {H : Heap} {rsS : List SRec} {rsE : List Rec}

theorem pairs_of_loose (I : RI P A base φ S H rsS rsE) (h : looseS A rsS = true) : pairsOk P A rsE = true := by
  unfold pairsOk
  rw [List.all_eq_true]
  rintro ⟨b, i⟩ hb
  rw [List.all_eq_true]
  rintro ⟨d, j⟩ hd
  have hbi : rsE[i]? = some b := by
    have := List.mem_zipIdx_iff_getElem?.1 hb
    simpa using this
  have hdj : rsE[j]? = some d := by
    have := List.mem_zipIdx_iff_getElem?.1 hd
    simpa using this
  have hi : i < rsS.length := by rw [I.len]; exact (List.getElem?_eq_some_iff.1 hbi).1
  have hj : j < rsS.length := by rw [I.len]; exact (List.getElem?_eq_some_iff.1 hdj).1
  have ha := List.getElem?_eq_getElem hi
  have hc := List.getElem?_eq_getElem hj
  generalize rsS[i] = a at ha
  generalize rsS[j] = c at hc
  have k1 := I.kinds i a b ha hbi
  have k2 := I.kinds j c d hc hdj
  have hp : loosePS A rsS i a j c = true := by
    unfold looseS at h
    rw [List.all_eq_true] at h
    have h := h (a, i) (List.mem_zipIdx_iff_getElem?.2 (by simpa using ha))
    rw [List.all_eq_true] at h
    exact h (c, j) (List.mem_zipIdx_iff_getElem?.2 (by simpa using hc))
  simp only
  unfold pairOk
  cases hdk : d.kind with
  | loud =>
    have hck : c.kind = .loud := by
      rw [hdk] at k2
      cases hck : c.kind <;> rw [hck] at k2 <;> first | rfl | exact k2.elim
    unfold loosePS at hp
    rw [hck] at hp
    simp only at hp ⊢
    cases hbk : b.kind with
    | pure => rfl
    | load =>
      have hak : a.kind = .load := by
        rw [hbk] at k1
        cases hak : a.kind <;> rw [hak] at k1 <;> first | rfl | exact k1.elim
      rw [hak] at hp
      simp only [Bool.or_eq_true] at hp ⊢
      rcases hp with hp | hp | (hp | hp) | hp
      · exact .inl (.inl hp)
      · exact .inl (.inr hp)
      · refine .inr ?_
        obtain ⟨hij, b', t, pv, v, e1, e2, e3, e4⟩ := I.oks j c d hc hdj i (by simpa using hp)
        rw [hbi] at e1
        cases e1
        rw [e2]
        simp only
        rw [if_neg (by omega), e3]
        exact e4
      · refine .inr ?_
        simp only [Bool.and_eq_true, decide_eq_true_eq] at hp
        obtain ⟨hij, hp⟩ := hp
        obtain ⟨t, p, e1, e2, e3⟩ := I.loads i a b ha hbi hak
        split at hp
        · rename_i y hy
          simp only [Bool.and_eq_true, List.all_eq_true] at hp
          obtain ⟨hself, hall⟩ := hp
          obtain ⟨x0, o, rfl, _, _, e6⟩ := e3 y hy
          have hcalm : calm rsS i j y := by
            intro m q h1 h2 h3 h4
            have hmem : q ∈ (rsS.take (j + 1)).drop i := by
              refine List.mem_of_getElem? (i := m - i) ?_
              rw [List.getElem?_drop, List.getElem?_take, if_pos (by omega), show i + (m - i) = m by omega]
              exact h3
            have := hall q hmem
            rw [h4] at this
            exact this
          rw [e1]
          simp only
          rw [if_neg (by omega), e6 j d hij hdj hcalm]
          exact e2 hself
        · cases hp
      · refine .inr ?_
        simp only [Bool.and_eq_true, decide_eq_true_eq] at hp
        obtain ⟨hij, hp⟩ := hp
        split at hp
        · rename_i y hy
          simp only [Bool.and_eq_true, List.all_eq_true, decide_eq_true_eq] at hp
          obtain ⟨⟨hself, hyn⟩, hall⟩ := hp
          have hcalm : calm rsS j i y := by
            intro m q h1 h2 h3 h4
            have hmem : q ∈ (rsS.take (i + 1)).drop j := by
              refine List.mem_of_getElem? (i := m - j) ?_
              rw [List.getElem?_drop, List.getElem?_take, if_pos (by omega), show j + (m - j) = m by omega]
              exact h3
            have := hall q hmem
            rw [h4] at this
            exact this
          obtain ⟨t, p, e1, e2⟩ := I.lates i a b ha hbi hak y hy j c d hij hc hdj hyn hcalm
          obtain ⟨_, _, _, e3, _⟩ := I.loads i a b ha hbi hak
          rw [e1]
          simp only
          rw [if_pos hij, e2]
          exact e3 hself
        · cases hp
    | quiet =>
      have hak : a.kind = .quiet ∨ a.kind = .loud := by
        rw [hbk] at k1
        cases hak : a.kind <;> rw [hak] at k1 <;> first | exact .inl rfl | exact .inr rfl | exact k1.elim
      simp only
      rcases hak with hak | hak <;> (rw [hak] at hp; simpa [Bool.or_assoc] using hp)
    | loud =>
      have hak : a.kind = .loud := by
        rw [hbk] at k1
        cases hak : a.kind <;> rw [hak] at k1 <;> first | rfl | exact k1.elim
      simp only
      rw [hak] at hp; simpa [Bool.or_assoc] using hp
  | _ => rfl

/-- What may not be looked at otherwise may be more. -/
theorem Step.reban {b : Nat → Prop} (hb : ∀ x, φ.ban x → b x) {φ' : Phi} {S' : SHeap} {H' : Heap} (hst : Step ⟨φ.m, b⟩ S H φ' S' H') :
    Step φ S H ⟨φ'.m, φ.ban⟩ S' H' ∧ ∀ s v, DV φ' H' (Own φ' S') s v → DV ⟨φ'.m, φ.ban⟩ H' (Own ⟨φ'.m, φ.ban⟩ S') s v := by
  have hext : Ext φ' H' (Own φ' S') ⟨φ'.m, φ.ban⟩ H' (Own ⟨φ'.m, φ.ban⟩ S') := by
    refine ⟨fun _ _ h => h, fun x c h1 h2 => ⟨h1, fun h => h2 ?_⟩, fun id x c' _ h => ⟨c', h, rfl⟩⟩
    rcases h with h | h
    · exact .inl (by rw [hst.ban]; exact hb x h)
    · exact .inr h
  refine ⟨⟨⟨?_, hst.sim.inj, hst.sim.fresh, hst.sim.lt, hst.sim.slock, hst.sim.elock, hst.sim.ehid⟩, hst.le, rfl, hst.own, hst.keep, hst.len, hst.esize, hst.elock, hst.ehid, hst.ssize, hst.slock, hst.shid, hst.sroot⟩, fun s v h => h.mono hext⟩
  intro id B h
  rcases hst.sim.blk id B h with h3 | ⟨x, c, h3, h4, h5, h6⟩
  · exact .inl h3
  · exact .inr ⟨x, c, h3, h4, h5, h6.mono hext⟩

theorem Sim.reban (hS : Sim φ S H) {b : Nat → Prop} (hb : ∀ x, b x → φ.ban x ∨ H.size ≤ x) :
    Ext φ H (Own φ S) ⟨φ.m, b⟩ H (Own ⟨φ.m, b⟩ S) ∧ Sim ⟨φ.m, b⟩ S H := by
  have hext : Ext φ H (Own φ S) ⟨φ.m, b⟩ H (Own ⟨φ.m, b⟩ S) := by
    refine ⟨fun _ _ h => h, fun x c h1 h2 => ⟨h1, fun h => ?_⟩, fun id x c' _ h => ⟨c', h, rfl⟩⟩
    have hlt := Heap.get_lt h1
    rcases h with h | h
    · rcases hb x h with h | h
      · exact h2 (.inl h)
      · omega
    · exact h2 (.inr h)
  refine ⟨hext, ⟨?_, hS.inj, hS.fresh, hS.lt, hS.slock, hS.elock, hS.ehid⟩⟩
  intro id B h
  rcases hS.blk id B h with h3 | ⟨x, c, h3, h4, h5, h6⟩
  · exact .inl h3
  · exact .inr ⟨x, c, h3, h4, h5, h6.mono hext⟩

theorem draw_region {cx : CallS R} (hT : TabRight P L O T) (hcx : CxRight P L O cx) {ops : Array Oper} {fr : List SV} {fv : List Value} {k : SSt → Option R} {r : R} (hS : Sim φ S H) (hf : DVL φ H (Own φ S) fr fv)
    (hst : staticOk ops (Region.before ops) fr.length = true) (htr : transOk (Region.before ops) ops.size = true) (h : drawS P L T cx ops (Region.before ops) ops.toList 0 ⟨fr, S⟩ [] k = some r) :
    ∃ φ' fr' S' fv' H', k ⟨fr', S'⟩ = some r ∧ Step φ S H φ' S' H' ∧ DVL φ' H' (Own φ' S') fr' fv' ∧ ∃ N, drawE P L (callE P L O N) ops ⟨fv, H⟩ = some ⟨fv', H'⟩ := by
  have hb : ∀ x, (φ.ban x ∨ H.size ≤ x) → φ.ban x ∨ H.size ≤ x := fun _ h => h
  obtain ⟨he, hs⟩ := hS.reban (b := fun x => φ.ban x ∨ H.size ≤ x) hb
  have I : RI P (Region.before ops) H.size ⟨φ.m, fun x => φ.ban x ∨ H.size ≤ x⟩ S H [] [] := by
    refine ⟨hs, rfl, fun x hx => .inr hx, fun id B x _ h => .inl (hS.lt id x h), ?_, ?_, ?_, Nat.le_refl _, ?_, ?_, ?_, ?_, ?_, ?_⟩
    all_goals (intros; simp_all)
  obtain ⟨φ', fr', S', fv', H', rsS', rsE', g1, g2, g3, g4, g5, N, g6⟩ := drawS_sound hT hcx (transOk_of htr) h I (hf.mono he) rfl (by simp)
  obtain ⟨h1, h2⟩ := Step.reban (φ := φ) (b := fun x => φ.ban x ∨ H.size ≤ x) (fun x hx => .inl hx) g3
  refine ⟨⟨φ'.m, φ.ban⟩, fr', S', fv', H', g1, h1, ⟨g4.1, fun i s v a b => h2 s v (g4.2 i s v a b)⟩, N, ?_⟩
  unfold drawE
  rw [show (⟨fv, H⟩ : St).fr.length = fr.length from hf.1.symm, hst]
  simp only [g6, pairs_of_loose g2 g5, if_true]

theorem execS_sound {cx : CallS R} (hT : TabRight P L O T) (hcx : CxRight P L O cx) {stop : List Nat → Bool} {body : Code} : ∀ {n : Nat} {its : List Item} {fr : List SV} {S : SHeap} {k : List Item → SSt → Option R} {r : R} {φ : Phi} {H : Heap} {fv : List Value},
    execS P L T cx stop n its ⟨fr, S⟩ k = some r → Along body its → NBh φ S H → Sim φ S H → DVL φ H (Own φ S) fr fv →
    ∃ its' φ' fr' S' fv' H', k its' ⟨fr', S'⟩ = some r ∧ Along body its' ∧ Step φ S H φ' S' H' ∧ DVL φ' H' (Own φ' S') fr' fv' ∧ ∀ rv w, MeanV P L O rv its' ⟨fv', H'⟩ w → MeanV P L O rv its ⟨fv, H⟩ w
  | 0, _, _, _, _, _, _, _, _, h, _, _, _, _ => by cases h
  | n + 1, its, fr, S, k, r, φ, H, fv, h, ha, hnb, hS, hf => by
    unfold execS at h
    have same : ∀ {its2 : List Item}, Along body its2 → execS P L T cx stop n its2 ⟨fr, S⟩ k = some r → (∀ q, Mean P L O its2 ⟨fv, H⟩ q → Mean P L O its ⟨fv, H⟩ q) →
        ∃ its' φ' fr' S' fv' H', k its' ⟨fr', S'⟩ = some r ∧ Along body its' ∧ Step φ S H φ' S' H' ∧ DVL φ' H' (Own φ' S') fr' fv' ∧ ∀ rv w, MeanV P L O rv its' ⟨fv', H'⟩ w → MeanV P L O rv its ⟨fv, H⟩ w := by
      intro its2 ha2 h2 hm
      obtain ⟨i, φ', fr', S', fv', H', h1, h2, h3, h4, h5⟩ := execS_sound hT hcx h2 ha2 hnb hS hf
      exact ⟨i, φ', fr', S', fv', H', h1, h2, h3, h4, fun rv w hw => (h5 rv w hw).of hm⟩
    split at h
    · exact ⟨[], φ, fr, S, fv, H, h, ha, Step.refl hS, hf, fun _ _ h => h⟩
    · rename_i p c rest
      have hc : nav body p = some c := by
        have := ha (.code p c) (by simp)
        simp only [Item.tag, Tag.item] at this
        cases hn : nav body p with
        | none => rw [hn] at this; cases this
        | some c' => rw [hn] at this; cases this; rfl
      split at h
      · exact same ha.tail h (fun q => .skip)
      · exact same ha.tail h (fun q => .label)
      · rename_i id ops d
        split at h
        · obtain ⟨φ1, fr1, S1, fv1, H1, g1, g2, g3, g4⟩ := opsS_sound hT hcx hnb hS hf h
          obtain ⟨i, φ', fr', S', fv', H', h1, h2, h3, h4, h5⟩ := execS_sound hT hcx g1 ha.tail (hnb.step g2) g2.sim g3
          exact ⟨i, φ', fr', S', fv', H', h1, h2, g2.trans h3, h4, fun rv w hw => (h5 rv w hw).of fun q hq => .region (g4 _ q hq)⟩
        · split at h
          · rename_i hst
            simp only [Bool.and_eq_true] at hst
            obtain ⟨φ1, fr1, S1, fv1, H1, g1, g2, g3, g4⟩ := draw_region hT hcx hS hf hst.1 hst.2 h
            obtain ⟨i, φ', fr', S', fv', H', h1, h2, h3, h4, h5⟩ := execS_sound hT hcx g1 ha.tail (hnb.step g2) g2.sim g3
            exact ⟨i, φ', fr', S', fv', H', h1, h2, g2.trans h3, h4, fun rv w hw => (h5 rv w hw).of fun q hq => .draw g4 hq⟩
          · cases h
      · rename_i a b
        exact same (.cons (by simp [Item.tag, Tag.item, nav, hc, child]) (.cons (by simp [Item.tag, Tag.item, nav, hc, child]) ha.tail)) h (fun q => .seq)
      · rename_i x a b
        split at h
        · rename_i t hx
          obtain ⟨v, hv, hd⟩ := opndS_sound hf hx
          cases hd
          split at h
          · exact same (.cons (by simp [Item.tag, Tag.item, nav, hc, child]) ha.tail) h (fun q => .cond (t := true) hv)
          · exact same (.cons (by simp [Item.tag, Tag.item, nav, hc, child]) ha.tail) h (fun q => .cond (t := false) hv)
        · cases h
      · rename_i id b
        exact same (.cons (by simp [Item.tag, Tag.item, nav, hc, child]) (.cons (by simp [Item.tag, Tag.item]) ha.tail)) h (fun q => .block)
      · rename_i b
        exact same (.cons (by simp [Item.tag, Tag.item, nav, hc, child]) ha.tail) h (fun q => .loop)
      · split at h
        · rename_i id r' hr
          exact same (Along.leave hr ha.tail) h (fun q => .exit hr)
        · cases h
      · refine ⟨[], φ, fr, S, fv, H, h, (fun _ hi => by cases hi), Step.refl hS, hf, fun rv w hw => ?_⟩
        obtain ⟨q, ⟨N, h1⟩, h2⟩ := hw
        rw [itemsE] at h1
        cases h1
        exact ⟨_, .ret, h2⟩
      · cases h
    · rename_i p b rest
      have hb : nav body (0 :: p) = some b := by
        have := ha (.lp p b) (by simp)
        simp only [Item.tag, Tag.item] at this
        cases hn : nav body (0 :: p) with
        | none => rw [hn] at this; cases this
        | some c' => rw [hn] at this; cases this; rfl
      split at h
      · exact ⟨_, φ, fr, S, fv, H, h, ha, Step.refl hS, hf, fun _ _ h => h⟩
      · exact same (.cons (by simp only [Item.tag, Tag.item, hb]; rfl) ha) h (fun q => .round)
    · exact same ha.tail h (fun q => .blk)
    · cases h

theorem resultS_sound (hS : Sim φ S H) {fr : List SV} {fv : List Value} (hf : DVL φ H (Own φ S) fr fv) : ∀ {rv : List ResultVar} {k : List SV → Option R} {r : R}, resultS P S fr rv k = some r →
    ∃ ss vs, resultE P H fv rv = some vs ∧ DVL φ H (Own φ S) ss vs ∧ k ss = some r
  | [], k, r, h => ⟨[], [], rfl, .nil, h⟩
  | .tmp t :: rv, k, r, h => by
    obtain ⟨ss, vs, h1, h2, h3⟩ := resultS_sound hS hf (rv := rv) h
    obtain ⟨v, h4, h5⟩ := opndS_sound (x := .tmp t) hf rfl
    cases h4
    exact ⟨_, _, by simp only [resultE, h1], .cons h5 h2, h3⟩
  | .cell a t :: rv, k, r, h => by
    obtain ⟨v, h4, h5⟩ := opndS_sound (x := .tmp a) hf rfl
    cases h4
    obtain ⟨s, u, g1, g2, g3⟩ := loadS_sound hS h5 h
    obtain ⟨ss, vs, h1, h2, h3⟩ := resultS_sound hS hf (rv := rv) g3
    exact ⟨_, _, by simp only [resultE, g1, h1], .cons g2 h2, h3⟩

theorem packS_sound {own : Nat → Prop} {ss : List SV} {vs : List Value} (h : DVL φ H own ss vs) : DV φ H own (packS ss) (packE vs) := by
  match ss, vs, h with
  | [], vs, h =>
    rw [h.nil_inv]
    exact .tup [] #[] rfl (fun i s v h => by simp at h)
  | [s], vs, h =>
    obtain ⟨v, rfl, h1⟩ := h.one
    exact h1
  | a :: b :: ss, vs, h =>
    obtain ⟨v, vs1, rfl, h1, h2⟩ := h.uncons
    obtain ⟨w, vs2, rfl, h3, h4⟩ := h2.uncons
    exact .tup _ _ (by simpa using h.1) (fun i s v g1 g2 => h.2 i s v g1 (by simpa using g2))

theorem frame_DVL {own : Nat → Prop} {args : List SV} {vs : List Value} (h : DVL φ H own args vs) (n : Nat) : DVL φ H own (args ++ List.replicate (n - args.length) (.tup [])) (vs ++ List.replicate (n - vs.length) undef) := by
  rw [h.1]
  refine h.append ⟨by simp, fun i s v h1 h2 => ?_⟩
  rw [List.getElem?_replicate] at h1 h2
  split at h1
  · rename_i hi
    rw [if_pos hi] at h2
    cases h1; cases h2
    exact DV.undef
  · cases h1

theorem callS_right {kn : FuncId → Bool} (hkn : ∀ g, kn g = false → ∀ args, O g args = none) (hT : TabRight P L O T) : ∀ (n : Nat), CxRight P L O (callS (R := R) P L T kn n)
  | 0, _, _, _, _, _, h, _, _, _, _, _, _ => by cases h
  | n + 1, g, args, S, k, r, h, φ, H, vs, hnb, hS, hd => by
    unfold callS at h
    split at h
    · cases h
    rename_i hk0
    split at h
    · rename_i fn hg
      split at h
      · rename_i c hb
        obtain ⟨its, φ', fr', S', fv', H', hk, _, hst, hf, hm⟩ := execS_sound hT (callS_right hkn hT n) h nav_nil hnb hS (frame_DVL hd fn.ntmps)
        split at hk
        · obtain ⟨ss, vs', g1, g2, g3⟩ := resultS_sound hst.sim hf hk
          have hw : MeanV P L O fn.results.toList [] ⟨fv', H'⟩ (packE vs', H') := ⟨(.normal, ⟨fv', H'⟩), .nil, by simp only [fin, g1]; rfl⟩
          obtain ⟨N, hN⟩ := call_of_mean (hkn g hk0 _) hg hb (hm _ _ hw)
          exact ⟨packS ss, S', N, packE vs', H', hN, ⟨φ', hst, packS_sound g2⟩, g3⟩
        · cases hk
      · cases h
    · cases h
end
end
end Go.Proofs.Ytoiijpphfckdjaa.Ev
