/-
  The evaluator's single operations are the machine's.
-/
import Derived.Test.YtoiijpphfckdjaaE2
namespace Go.Proofs.Ytoiijpphfckdjaa.Ev
open Go
set_option linter.unusedSimpArgs false

section
variable {P : Program} {f : Fm} {H : Heap} {w : World}

theorem VL_len {f : Fm} {xs ys : List Value} (h : VL f xs ys) : ys.length = xs.length := h.1.symm

theorem run_isAgg {t : TypeId} {d : TypeDesc} (hu : P.underlying t = some d) : (isAgg t).run P w = .ok (aggD d) w := by
  cases d <;> simp [isAgg, run_underlying hu, aggD]
theorem run_sizeOf {t : TypeId} {i : TypeInfo} (hi : P.info? t = some i) : (sizeOf t).run P w = .ok i.size w := by simp [sizeOf, typeInfo, hi]

theorem Addr.add_eq (b o n : Nat) : (⟨b, o, none⟩ : Addr).add n = ⟨b, o + n, none⟩ := by
  unfold Addr.add
  split
  · rename_i h; subst h; rfl
  · rfl

theorem cellAt {g : Nat} {C : Array Value} {e : TypeId} {fr : Nat × Nat} (hw : w.heap[g]? = some (.cells C e fr)) (o : Nat) : w.cell? ⟨g, o, none⟩ = C[o]? := by
  simp [World.cell?, hw]

/-- A row of cells that reads as a list. -/
theorem run_loadCells' {g o : Nat} {C : Array Value} {e : TypeId} {fr : Nat × Nat} (hw : w.heap[g]? = some (.cells C e fr)) (cs : List Value)
    (h : ∀ (j : Nat) v, cs[j]? = some v → C[o + j]? = some v) : (loadCells ⟨g, o, none⟩ cs.length).run P w = .ok cs.toArray w :=
  run_loadCells_list w _ cs fun j v hj => by rw [Addr.add_eq, cellAt hw]; exact h j v hj

theorem loadE_sound (hR : R f H w) {t : TypeId} {p p' v : Value} (hp : V f p p') (h : loadE P H t p = some v) :
    ∃ v', (Instr.loadAt t p').run P w = .ok v' w ∧ V f v v' := by
  cases hp <;> try (simp [loadE] at h; done)
  case ptr b off l hl =>
    simp only [loadE] at h
    cases hu : P.underlying t with
    | none => simp [hu] at h
    | some d =>
      cases hi : P.info? t with
      | none => simp [hu, hi] at h
      | some i =>
        simp only [hu, hi] at h
        cases ha : aggD d with
        | true =>
          simp only [ha, Option.map_eq_some_iff] at h
          obtain ⟨cs, hg, rfl⟩ := h
          obtain ⟨hlen, l', C, e, fr, hl', hw, cs', hvl, hcell, hc⟩ := hR.cells hg
          rw [hl] at hl'; cases hl'
          have hr := run_loadCells' (P := P) hw cs' hc
          rw [VL_len hvl, hlen] at hr
          refine ⟨.agg cs'.toArray, ?_, V.of_list hvl hcell⟩
          simp [Instr.loadAt, Instr.sureAddr, loadVar, run_isAgg hu, ha, run_sizeOf hi, hr]
        | false =>
          simp only [ha] at h
          split at h
          · rename_i u rest hg
            cases h
            obtain ⟨hlen, l', C, e, fr, hl', hw, cs', hvl, hcell, hc⟩ := hR.cells hg
            rw [hl] at hl'; cases hl'
            obtain ⟨v', hv', hV⟩ := hvl.get (i := 0) (by simp; rfl)
            have := hc 0 v' hv'
            refine ⟨v', ?_, hV⟩
            simp only [Nat.add_zero] at this
            simp [Instr.loadAt, Instr.sureAddr, loadVar, run_isAgg hu, ha, run_load, cellAt hw, this]
          · cases h

theorem run_storeVar {t : TypeId} {i : TypeInfo} (hi : P.info? t = some i) {g o : Nat} {C : Array Value} {e : TypeId} (hw : w.heap[g]? = some (.cells C e (0, 0)))
    (v : Value) (hs : v.cells.size = i.size) (hfit : o + v.cells.toList.length ≤ C.size) (hc : ∀ u ∈ v.cells.toList, isCell u = true) :
    (storeVar t ⟨g, o, none⟩ v).run P w = .ok () (w.setRow g (C.toList.take o ++ v.cells.toList ++ C.toList.drop (o + v.cells.toList.length)).toArray) := by
  have := run_storeCells_at P g o e v.cells.toList 0 C w hw (by simpa using hfit) (fun u hu => isCell_one (hc u hu))
  simp only [Nat.add_zero] at this
  simp [storeVar, run_sizeOf hi, hs, this]

theorem storeE_sound (hR : R f H w) {t : TypeId} {p p' v v' : Value} {H' : Heap} (hp : V f p p') (hv : V f v v') (h : storeE P H t p v = some H') :
    ∃ w', (Instr.storeAt t p' v').run P w = .ok () w' ∧ Stp f H w f H' w' ∧ R f H' w' := by
  cases hp <;> try (simp [storeE] at h; done)
  case ptr b off l hl =>
    simp only [storeE] at h
    cases hcs : valCells v with
    | none => simp [hcs] at h
    | some cs =>
      cases hi : P.info? t with
      | none => simp [hcs, hi] at h
      | some i =>
        simp only [hcs, hi] at h
        split at h
        · rename_i hlen
          obtain ⟨hvl, hcell⟩ := hv.valCells hcs
          obtain ⟨l', C, e, hl', hw, hfit, hs, hr⟩ := hR.store h hvl hcell
          rw [hl] at hl'; cases hl'
          have hcell' : ∀ u ∈ v'.cells.toList, isCell u = true := by
            intro u hu
            obtain ⟨j, hj⟩ := List.getElem?_of_mem hu
            have hjl : j < cs.length := by rw [hvl.1]; exact (List.getElem?_eq_some_iff.1 hj).1
            have h1 := List.getElem?_eq_getElem hjl
            rw [(hvl.2 j _ _ h1 hj).cell]
            exact hcell _ (List.getElem_mem hjl)
          have hsz : v'.cells.size = i.size := by have := hvl.1; simp at this; omega
          exact ⟨_, by simp only [Instr.storeAt, Instr.sureAddr, Sem.run_bind, Sem.run_pure, Result.andThen_ok]; exact run_storeVar hi hw v' hsz hfit hcell', hs, hr⟩
        · cases h

theorem partE_sound {t : TypeId} {x x' : Array Value} {off : Nat} {v : Value} (hx : V f (.agg x) (.agg x')) (h : partE P t x off = some v) :
    ∃ v', (part t x' off).run P w = .ok v' w ∧ V f v v' := by
  unfold partE at h
  cases hu : P.underlying t with
  | none => simp [hu] at h
  | some d =>
    cases hi : P.info? t with
    | none => simp [hu, hi] at h
    | some i =>
      simp only [hu, hi] at h
      obtain ⟨hvl, hcell⟩ := VL.of_agg hx
      cases ha : aggD d with
      | true =>
        simp only [ha] at h
        split at h
        · rename_i hle
          cases h
          refine ⟨.agg (x'.extract off (off + i.size)), by simp [part, run_isAgg hu, ha, run_sizeOf hi], ?_⟩
          have h1 : x.extract off (off + i.size) = ((x.toList.drop off).take i.size).toArray := by
            apply Array.ext'
            simp [List.extract_eq_take_drop]
          have h2 : x'.extract off (off + i.size) = ((x'.toList.drop off).take i.size).toArray := by
            apply Array.ext'
            simp [List.extract_eq_take_drop]
          rw [h1, h2]
          refine V.of_list ((hvl.drop off).take i.size) fun u hu => hcell u (List.mem_of_mem_drop (List.mem_of_mem_take hu))
        · cases h
      | false =>
        simp only [ha] at h
        obtain ⟨v', h1, h2⟩ := hvl.get (i := off) (v := v) (by simpa using h)
        have h1' : x'[off]? = some v' := by simpa using h1
        exact ⟨v', by simp [part, run_isAgg hu, ha, h1'], h2⟩


theorem run_part {t : TypeId} {x : Array Value} {off : Nat} {v : Value} (h : partE P t x off = some v) : (part t x off).run P w = .ok v w := by
  unfold partE at h
  cases hu : P.underlying t with
  | none => simp [hu] at h
  | some d =>
    cases hi : P.info? t with
    | none => simp [hu, hi] at h
    | some i =>
      simp only [hu, hi] at h
      cases ha : aggD d with
      | true =>
        simp only [ha] at h
        split at h
        · cases h; simp [part, run_isAgg hu, ha, run_sizeOf hi]
        · cases h
      | false => simp only [ha] at h; simp [part, run_isAgg hu, ha, h]

theorem eqE_sound : ∀ (d : Nat) (t : TypeId) (x y x' y' : Value) (b : Bool), V f x x' → V f y y' → eqE P d t x y = some b → (Op.equalIn d t x' y').run P w = .ok b w := by
  intro d
  induction d with
  | zero => intro t x y x' y' b _ _ h; simp [eqE] at h
  | succ d ih =>
    intro t x y x' y' b hx hy h
    cases hu : P.underlying t with
    | none => simp [eqE, hu] at h
    | some D =>
      cases D <;> cases hx <;> cases hy <;> simp only [eqE, hu] at h <;> try (cases h; done)
      case bool.bool.bool a c => cases h; simp [Op.equalIn, run_underlying hu]
      case int.int.int k a n k' m =>
        split at h
        · rename_i e; cases h; subst e; simp [Op.equalIn, run_underlying hu]
        · cases h
      case struct.agg.agg fs xs xs' hxs hxc hxv ys ys' hys hyc hyv =>
        split at h
        · cases h
        · rename_i hst
          have hst' : P.stoodInHeld t = false := by simpa using hst
          have hfo : P.fieldsOf t = fs := by simp [Program.fieldsOf, hu]
          rw [run_equalIn_struct w d t xs' ys' (by rw [hfo]; exact hu) hst', hfo]
          generalize fs.toList = l at h
          induction l generalizing b with
          | nil => simp at h; subst h; simp [Op.eqFields]
          | cons fd l ihl =>
            simp only [List.foldr_cons] at h
            simp only [Op.eqFields]
            by_cases hn : fd.name ≠ "_"
            · simp only [hn, if_true, ne_eq, not_false_eq_true] at h ⊢
              cases h1 : partE P fd.type xs fd.offset with
              | none => simp [h1] at h
              | some a =>
                cases h2 : partE P fd.type ys fd.offset with
                | none => simp [h1, h2] at h
                | some c =>
                  simp only [h1, h2] at h
                  obtain ⟨a', ha', hVa⟩ := partE_sound (w := w) (V.agg xs xs' hxs hxc hxv) h1
                  obtain ⟨c', hc', hVc⟩ := partE_sound (w := w) (V.agg ys ys' hys hyc hyv) h2
                  cases h3 : eqE P d fd.type a c with
                  | none => simp [h3] at h
                  | some r =>
                    have h4 := ih fd.type a c a' c' r hVa hVc h3
                    cases r with
                    | true => simp only [h3] at h; simp [ha', hc', h4]; exact ihl b h
                    | false => simp only [h3] at h; cases h; simp [ha', hc', h4]
            · simp only [hn, if_false] at h ⊢
              exact ihl b h
      case array.agg.agg len elem xs xs' hxs hxc hxv ys ys' hys hyc hyv =>
        cases hi : P.info? elem with
        | none => simp [hi] at h
        | some i =>
          simp only [hi] at h
          rw [run_equalIn_array w d xs' ys' hu hi]
          have hcs : P.cellsOf elem = i.size := by simp [Program.cellsOf, hi]
          rw [hcs]
          generalize List.range len = l at h
          induction l generalizing b with
          | nil => simp at h; subst h; simp [Op.eqItems]
          | cons j l ihl =>
            simp only [List.foldr_cons] at h
            simp only [Op.eqItems]
            cases h1 : partE P elem xs (j * i.size) with
            | none => simp [h1] at h
            | some a =>
              cases h2 : partE P elem ys (j * i.size) with
              | none => simp [h1, h2] at h
              | some c =>
                simp only [h1, h2] at h
                obtain ⟨a', ha', hVa⟩ := partE_sound (w := w) (V.agg xs xs' hxs hxc hxv) h1
                obtain ⟨c', hc', hVc⟩ := partE_sound (w := w) (V.agg ys ys' hys hyc hyv) h2
                cases h3 : eqE P d elem a c with
                | none => simp [h3] at h
                | some r =>
                  have h4 := ih elem a c a' c' r hVa hVc h3
                  cases r with
                  | true => simp only [h3] at h; simp [ha', hc', h4]; exact ihl b h
                  | false => simp only [h3] at h; cases h; simp [ha', hc', h4]

theorem isNil_V {x x' : Value} {b : Bool} (hx : V f x x') (h : isNil x = some b) : isNil x' = some b := by
  cases hx <;> simp [isNil] at h ⊢ <;> exact h

theorem run_eqGuard_plain {op : BinOp} {t : TypeId} {u v : Operand} {x y : Value} (h1 : ∀ a b, ¬ (x = .agg a ∧ y = .agg b)) (h2 : ¬ (x = .nilIface ∧ y = .nilIface)) :
    (eqGuard op t u v x y).run P w = .ok () w := by
  unfold eqGuard
  cases op <;> simp <;> (split <;> simp_all)

theorem equal_succ (t : TypeId) (x y : Value) : Op.equal t x y = Op.equalIn (9999 + 1) t x y := rfl

theorem run_equal_bool {t : TypeId} (hu : P.underlying t = some .bool) (a b : Bool) : (Op.equal t (.bool a) (.bool b)).run P w = .ok (a == b) w := by
  rw [equal_succ]; generalize 9999 = n; simp only [Op.equalIn]; simp [run_underlying hu]
theorem run_equal_ref {t : TypeId} {d : TypeDesc} (hu : P.underlying t = some d) {x y : Value} {a c : Bool} (hr : refD d x y = true) (ha : isNil x = some a) (hc : isNil y = some c) :
    (Op.equal t x y).run P w = .ok (a && c) w := by
  rw [equal_succ]
  generalize 9999 = n
  unfold refD at hr
  split at hr
  · rename_i e p
    cases p <;> simp [isNil] at ha hc <;> subst ha <;> subst hc <;> simp only [Op.equalIn] <;> simp [run_underlying hu]
  · rename_i e p _
    cases p <;> simp [isNil] at ha hc <;> subst ha <;> subst hc <;> simp only [Op.equalIn] <;> simp [run_underlying hu]
  · rename_i e n1 c1 p n2 c2
    cases p <;> simp [isNil] at ha hc <;> subst ha <;> subst hc <;> simp only [Op.equalIn] <;> simp [run_underlying hu]
  · rename_i e p n1 c1 n2 c2 _
    cases p <;> simp [isNil] at ha hc <;> subst ha <;> subst hc <;> simp only [Op.equalIn] <;> simp [run_underlying hu]
  · cases hr

theorem isNil_cases {x : Value} {b : Bool} (h : isNil x = some b) : (∃ a, x = .pointer a) ∨ ∃ a n c, x = .slice a n c := by
  cases x <;> simp [isNil] at h ⊢
theorem refD_V {d : TypeDesc} {x y x' y' : Value} (hx : V f x x') (hy : V f y y') (h : refD d x y = true) : refD d x' y' = true := by
  unfold refD at h
  split at h
  · cases hx; cases hy <;> rfl
  · cases hy; cases hx <;> rfl
  · cases hx; cases hy <;> rfl
  · cases hy; cases hx <;> rfl
  · cases h

theorem equalE_sound {t : TypeId} {x y x' y' : Value} {b : Bool} (hx : V f x x') (hy : V f y y') (h : equalE P t x y = some b) :
    (Op.equal t x' y').run P w = .ok b w ∧ ∀ op u v, (eqGuard op t u v x' y').run P w = .ok () w := by
  unfold equalE at h
  split at h
  · -- two aggregates
    split at h
    · cases h
    · rename_i hg
      have hg' : P.eqGuardType P.depth t = false := by simpa using hg
      have := eqE_sound 10000 t _ _ _ _ b (w := w) hx hy h
      refine ⟨this, fun op u v => ?_⟩
      cases hx; cases hy
      exact run_eqGuard_agg w op t u v _ _ hg'
  · -- two bools
    cases hx; cases hy
    split at h
    · rename_i hu
      cases h
      exact ⟨run_equal_bool hu _ _, fun op u v => run_eqGuard_plain (by simp) (by simp)⟩
    · cases h
  · -- nil
    split at h
    · rename_i d a c hu ha hc
      split at h
      · rename_i hr
        cases h
        have ha' := isNil_V hx ha
        have hc' := isNil_V hy hc
        refine ⟨run_equal_ref hu (refD_V hx hy hr) ha' hc', fun op u v => run_eqGuard_plain ?_ ?_⟩
        · intro a1 b1 ⟨e1, e2⟩
          subst e1; simp [isNil] at ha'
        · intro ⟨e1, e2⟩
          subst e1; simp [isNil] at ha'
      · cases h
    · cases h

theorem arithE_sound {op : BinOp} {k : IntKind} {a b : Int} {t : TypeId} {v : Value} (h1 : op ≠ .shl) (h2 : op ≠ .shr) (h : arithE op k a b = some v) :
    (binOp op t (.int k a) (.int k b)).run P w = .ok v w ∧ V f v v := by
  cases op <;> simp [arithE] at h <;> first
    | (exact absurd rfl h1)
    | (exact absurd rfl h2)
    | (subst h; exact ⟨by simp [binOp, Op.intArith, Op.intBits, Op.intCmp], by constructor⟩)
    | (obtain ⟨hb, rfl⟩ := h; exact ⟨by simp [binOp, Op.intDiv, hb], by constructor⟩)

theorem shiftE_sound {op : BinOp} {k k' : IntKind} {a b : Int} {t : TypeId} {v : Value} (h : shiftE op k a b = some v) :
    (binOp op t (.int k a) (.int k' b)).run P w = .ok v w ∧ V f v v := by
  unfold shiftE at h
  split at h
  · cases h
  · rename_i hb
    cases op <;> simp at h <;> subst h <;> exact ⟨by simp [binOp, Op.shift, hb], by constructor⟩

theorem binE_sound {op : BinOp} {t : TypeId} {x y x' y' v : Value} (hx : V f x x') (hy : V f y y') (h : binE P op t x y = some v) :
    (∀ u r, (eqGuard op t u r x' y').run P w = .ok () w) ∧ (binOp op t x' y').run P w = .ok v w ∧ V f v v := by
  unfold binE at h
  split at h
  · cases hx; cases hy
    refine ⟨fun u r => run_eqGuard_plain (by simp) (by simp), ?_⟩
    split at h
    · exact shiftE_sound h
    · exact shiftE_sound h
    · rename_i h1 h2
      split at h
      · rename_i e; subst e; exact arithE_sound h1 h2 h
      · cases h
  · rename_i hni
    have key : ∀ b, equalE P t x y = some b → binOp .eql t x' y' = (do pure (.bool (← Op.equal t x' y')) : Sem Value) ∧ binOp .neq t x' y' = (do pure (.bool (!(← Op.equal t x' y'))) : Sem Value) := by
      intro b hb
      unfold equalE at hb
      split at hb
      · cases hx; cases hy; exact ⟨rfl, rfl⟩
      · cases hx; cases hy; exact ⟨rfl, rfl⟩
      · split at hb
        · rename_i d a c hu ha hc
          have ha' := isNil_V hx ha
          have hc' := isNil_V hy hc
          rcases isNil_cases ha' with ⟨p, rfl⟩ | ⟨p, n, m, rfl⟩ <;> rcases isNil_cases hc' with ⟨q, rfl⟩ | ⟨q, n', m', rfl⟩ <;> exact ⟨rfl, rfl⟩
        · cases hb
    split at h
    · simp only [Option.map_eq_some_iff] at h
      obtain ⟨b, hb, rfl⟩ := h
      obtain ⟨h1, h2⟩ := equalE_sound (w := w) hx hy hb
      refine ⟨fun u r => h2 _ u r, ?_, .bool b⟩
      rw [(key b hb).1]
      simp only [Sem.run_bind, h1, Result.andThen_ok, Sem.run_pure]
    · simp only [Option.map_eq_some_iff] at h
      obtain ⟨b, hb, rfl⟩ := h
      obtain ⟨h1, h2⟩ := equalE_sound (w := w) hx hy hb
      refine ⟨fun u r => h2 _ u r, ?_, .bool _⟩
      rw [(key b hb).2]
      simp only [Sem.run_bind, h1, Result.andThen_ok, Sem.run_pure]
    · cases h
end
end Go.Proofs.Ytoiijpphfckdjaa.Ev
