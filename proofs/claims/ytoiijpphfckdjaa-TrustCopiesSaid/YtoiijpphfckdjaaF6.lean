/-
  Operations over partly unknown values are the evaluator's: all kinds.
-/
import Derived.Test.YtoiijpphfckdjaaF5
namespace Go.Proofs.Ytoiijpphfckdjaa.Ev
noncomputable section
open Go
set_option linter.unusedVariables false
set_option linter.unusedSimpArgs false

section
variable {R : Type} {P : Program} {φ : Phi} {H : Heap} {own : Nat → Prop} {S : SHeap}

/-! ### Cells laid into places -/
inductive PS (φ : Phi) (H : Heap) (own : Nat → Prop) : List (Nat × List SV) → List (Nat × Value) → Prop where
  | nil : PS φ H own [] []
  | cons (i : Nat) (l : List SV) (v : Value) (r : List (Nat × List SV)) (r' : List (Nat × Value)) (h : DVL φ H own l v.cells.toList) (t : PS φ H own r r') : PS φ H own ((i, l) :: r) ((i, v) :: r')

theorem fold_setS (off : Nat) : ∀ (xs : List SV) (xs' : List Value) (k : Nat) (c : List SV) (c' : Array Value), DVL φ H own xs xs' → DVL φ H own c c'.toList →
    DVL φ H own ((xs.zipIdx k).foldl (fun cs (p : SV × Nat) => cs.set (off + p.2) p.1) c) ((xs'.zipIdx k).foldl (fun cs (p : Value × Nat) => cs.setIfInBounds (off + p.2) p.1) c').toList := by
  intro xs
  induction xs with
  | nil =>
    intro xs' k c c' h hc
    cases xs' with
    | nil => exact hc
    | cons => have := h.1; simp at this
  | cons x xs ih =>
    intro xs' k c c' h hc
    obtain ⟨y, ys, rfl, h0, ht⟩ := h.uncons
    simp only [List.zipIdx_cons, List.foldl_cons]
    refine ih ys (k + 1) _ _ ht ?_
    rw [Array.toList_setIfInBounds]
    exact hc.set _ h0

theorem fillS_sound {place : Nat → Option (Nat × Nat)} : ∀ (ps : List (Nat × List SV)) (ps' : List (Nat × Value)) (c out : List SV) (c' : Array Value), PS φ H own ps ps' → DVL φ H own c c'.toList →
    fillS place c ps = some out → ∃ out', Instr.fill place c' ps' = some out' ∧ DVL φ H own out out'.toList ∧ out.length = c.length := by
  intro ps
  induction ps with
  | nil =>
    intro ps' c out c' hp hc h
    cases hp
    simp [fillS] at h
    subst h
    exact ⟨c', rfl, hc, rfl⟩
  | cons p ps ih =>
    intro ps' c out c' hp hc h
    cases hp with
    | cons i l v r r' hv t =>
      have hsz : v.cells.size = l.length := by have := hv.1; simpa using this.symm
      have hcs : c'.size = c.length := by have := hc.1; simpa using this.symm
      simp only [fillS] at h
      simp only [Instr.fill]
      cases hpl : place i with
      | none => simp [hpl] at h
      | some q =>
        obtain ⟨off, size⟩ := q
        simp only [hpl] at h ⊢
        split at h
        · rename_i hcond
          simp only [Bool.and_eq_true, decide_eq_true_eq] at hcond
          rw [if_neg (by simp [hsz, hcs, hcond.1]; omega)]
          rw [← Array.foldl_toList, Array.toList_zipIdx]
          have h1 := fold_setS off l v.cells.toList 0 c c' hv hc
          obtain ⟨out', g1, g2, g3⟩ := ih r' _ out _ t h1 h
          refine ⟨out', g1, g2, ?_⟩
          rw [g3]
          have h2 := h1.1
          have h3 : ∀ (xs : List (SV × Nat)) (c : List SV), (xs.foldl (fun cs (p : SV × Nat) => cs.set (off + p.2) p.1) c).length = c.length := by
            intro xs
            induction xs with
            | nil => intro c; rfl
            | cons x xs ih => intro c; simp only [List.foldl_cons]; rw [ih]; simp
          exact h3 _ _
        · cases h

theorem cellsS_cells {s : SV} {v : Value} {cs : List SV} (hv : DV φ H own s v) (h : cellsS s = some cs) : noTuple v = some v ∧ DVL φ H own cs v.cells.toList := by
  obtain ⟨vs, h1, h2⟩ := cellsS_sound hv h
  cases v <;> simp_all [valCells, noTuple, Value.cells]
  all_goals subst h1; exact h2

theorem partsS_sound {ρ : Operand → Option SV} {ρ' : Operand → Option Value} (hρ : ∀ x s, ρ x = some s → ∃ v, ρ' x = some v ∧ DV φ H own s v) : ∀ {ps : List (Nat × Operand)} {l : List (Nat × List SV)}, partsS ρ ps = some l →
    ∃ vs, partsE ρ' ps = some vs ∧ PS φ H own l vs
  | [], l, h => by simp [partsS] at h; subst h; exact ⟨[], rfl, .nil⟩
  | (i, x) :: ps, l, h => by
    simp only [partsS] at h
    split at h
    · rename_i v vs h1 h2
      cases h
      rw [Option.bind_eq_some_iff] at h1
      obtain ⟨s, hs, hc⟩ := h1
      obtain ⟨w, hw, hd⟩ := hρ x s hs
      obtain ⟨g1, g2⟩ := cellsS_cells hd hc
      obtain ⟨ws, g3, g4⟩ := partsS_sound hρ h2
      exact ⟨(i, w) :: ws, by simp [partsE, hw, g1, g3], .cons i v w _ _ g2 g4⟩
    · cases h

theorem argsS_sound {ρ : Operand → Option SV} {ρ' : Operand → Option Value} (hρ : ∀ x s, ρ x = some s → ∃ v, ρ' x = some v ∧ DV φ H own s v) : ∀ {xs : List Operand} {l : List SV}, argsS ρ xs = some l →
    ∃ vs, argsE ρ' xs = some vs ∧ DVL φ H own l vs
  | [], l, h => by simp [argsS] at h; subst h; exact ⟨[], rfl, .nil⟩
  | x :: xs, l, h => by
    simp only [argsS] at h
    split at h
    · rename_i v vs h1 h2
      cases h
      obtain ⟨w, hw, hd⟩ := hρ x v h1
      obtain ⟨ws, g3, g4⟩ := argsS_sound hρ h2
      exact ⟨w :: ws, by simp [argsE, hw, g3], .cons hd g4⟩
    · cases h

theorem optS_sound {ρ : Operand → Option SV} {ρ' : Operand → Option Value} (hρ : ∀ x s, ρ x = some s → ∃ v, ρ' x = some v ∧ DV φ H own s v) {x : Option Operand} {l : Option SV} (h : optS ρ x = some l) :
    ∃ v, optE ρ' x = some v ∧ OV φ H own l v := by
  cases x with
  | none => simp [optS] at h; subst h; exact ⟨none, rfl, trivial⟩
  | some y =>
    simp only [optS, Option.map_eq_some_iff] at h
    obtain ⟨s, hs, rfl⟩ := h
    obtain ⟨w, hw, hd⟩ := hρ y s hs
    exact ⟨some w, by simp [optE, hw], hd⟩

/-! ### New memory -/
theorem zeroS_sound {t : TypeId} {z : List SV} (h : zeroS P t = some z) : ∃ i z0 zc, P.info? t = some i ∧ i.zero = some z0 ∧ zCells z0 = some zc ∧ z0.cells.toList = zc ∧ ∀ φ H own, DVL φ H own z zc := by
  unfold zeroS at h
  split at h
  · rename_i cs hz
    rw [Option.bind_eq_some_iff] at hz
    obtain ⟨i, h1, h2⟩ := hz
    refine ⟨i, .agg cs, cs.toList, h1, h2, ?_, rfl, fun φ H own => (svsOfC_sound h).2⟩
    have := (svsOfC_sound (φ := ⟨fun _ => none, fun _ => False⟩) (H := nil) (own := fun _ => False) h).1
    simp [zCells, valCells, this]
  · rename_i v hz hv
    rw [Option.bind_eq_some_iff] at hv
    obtain ⟨i, h1, h2⟩ := hv
    split at h
    · rename_i s hs
      cases h
      have hc := (svOfC_sound (φ := ⟨fun _ => none, fun _ => False⟩) (H := nil) (own := fun _ => False) hs).1
      have key : valCells v = some [v] ∧ v.cells.toList = [v] := by
        cases v <;> simp_all [valCells, Value.cells, constOk, svOfC]
      exact ⟨i, v, [v], h1, h2, by simp [zCells, key.1, hc], key.2, fun φ H own => .cons (svOfC_sound hs).2 .nil⟩
    · cases h
  · cases h

theorem buildS_sound {t : TypeId} {ps : List (Nat × List SV)} {ps' : List (Nat × Value)} {s : SV} (hp : PS φ H own ps ps') (h : buildS P t ps = some s) : ∃ v, buildE P t ps' = some v ∧ DV φ H own s v := by
  have agg : ∀ {cs : List SV} {out : Array Value}, DVL φ H own cs out.toList → DV φ H own (.agg cs) (.agg out) := fun hd => .agg _ _ (by simpa using hd.1) (fun i s v h1 h2 => hd.2 i s v h1 (by simpa using h2))
  unfold buildS at h
  split at h
  · rename_i n e hu
    split at h
    · rename_i z ie hz hie
      obtain ⟨i, z0, zc, h1, h2, h3, h4, h5⟩ := zeroS_sound hz
      split at h
      · rename_i cs hf
        cases h
        obtain ⟨out', g1, g2, _⟩ := fillS_sound ps ps' z cs z0.cells hp (by rw [h4]; exact h5 _ _ _) hf
        refine ⟨.agg out', ?_, agg g2⟩
        unfold buildE
        simp only [h1, Option.bind_some, h2, h3]
        unfold Program.built
        simp only [h1, hu, h2, hie, g1, Option.map_some]
      · cases h
    · cases h
  · rename_i fs hu
    split at h
    · rename_i z places hz hpl
      obtain ⟨i, z0, zc, h1, h2, h3, h4, h5⟩ := zeroS_sound hz
      split at h
      · rename_i cs hf
        cases h
        obtain ⟨out', g1, g2, _⟩ := fillS_sound ps ps' z cs z0.cells hp (by rw [h4]; exact h5 _ _ _) hf
        refine ⟨.agg out', ?_, agg g2⟩
        unfold buildE
        simp only [h1, Option.bind_some, h2, h3]
        unfold Program.built
        simp only [h1, hu, h2, hpl, g1, Option.map_some]
      · cases h
    · cases h
  · cases h

theorem intsOf_sound {k : IntKind} : ∀ {cs : List SV} {xs : List Int}, intsOf k cs = some xs → cs = xs.map (SV.i k)
  | [], xs, h => by simp [intsOf] at h; subst h; rfl
  | c :: cs, xs, h => by
    unfold intsOf at h
    split at h
    · rename_i heq; cases heq
    · rename_i k' n r heq
      cases heq
      split at h
      · rename_i l hk hl
        cases h
        rw [beq_iff_eq] at hk; subst hk
        rw [intsOf_sound hl]; rfl
      · cases h
    · cases h

theorem rowsOf_sound {l : List Sch} : ∀ {n : Nat} {cs : List SV} {rs : List Dat}, rowsOf l l.length n cs = some rs → rs.length = n ∧ cs.length = n * l.length ∧
    ∀ vs : List Value, DVL φ H own cs vs → ∀ r, r < n → ∀ (j : Nat) s, (rowFrom l 0 (rs.getD r (.r [])))[j]? = some s → ∀ v, vs[r * l.length + j]? = some v → DV φ H own s v
  | 0, [], rs, h => by simp [rowsOf] at h; subst h; exact ⟨rfl, by simp, fun vs _ r hr => by omega⟩
  | 0, _ :: _, rs, h => by simp [rowsOf] at h
  | n + 1, cs, rs, h => by
    unfold rowsOf at h
    split at h
    · rename_i r rs' h1 h2
      cases h
      obtain ⟨g1, g2, g3⟩ := rowsOf_sound h2
      have hl := (encRow_len h1).2
      have hle : l.length ≤ cs.length := by
        rw [List.length_take] at hl; omega
      have hcs : cs.length = (n + 1) * l.length := by
        rw [List.length_drop] at g2
        rw [Nat.succ_mul]; omega
      refine ⟨by simp [g1], hcs, fun vs hd r' hr' j s hs v hv => ?_⟩
      cases r' with
      | zero =>
        simp only [List.getD_cons_zero] at hs
        rw [Nat.zero_mul, Nat.zero_add] at hv
        have hj : j < l.length := by
          have := (List.getElem?_eq_some_iff.1 hs).1
          rwa [rowFrom_len] at this
        exact (encRow_dec h1 (hd.take l.length)).2 j s v hs (by rw [List.getElem?_take, if_pos hj]; exact hv)
      | succ r' =>
        simp only [List.getD_cons_succ] at hs
        refine g3 _ (hd.drop l.length) r' (by omega) j s hs v ?_
        rw [List.getElem?_drop]
        rw [Nat.succ_mul] at hv
        rw [show l.length + (r' * l.length + j) = r' * l.length + l.length + j by omega]
        exact hv
    · cases h

theorem contOf_sound {e : TypeId} {n : Nat} {cs : List SV} {c : Cont} (h : contOf P e n cs = some c) {vs : List Value} (hd : DVL φ H own cs vs) : BV φ H own (.cont c) vs := by
  unfold contOf at h
  split at h
  · split at h
    · rename_i xs hx
      cases h
      have := intsOf_sound hx
      subst this
      refine ⟨by have := hd.1; simp [Cont.len, Cont.w] at this ⊢; exact this.symm, fun r hr j s hs v hv => ?_⟩
      simp only [Cont.row] at hs
      have hj : j = 0 := by
        cases j with
        | zero => rfl
        | succ j => simp at hs
      subst hj
      simp at hs
      subst hs
      simp only [Cont.w, Nat.mul_one, Nat.add_zero, Cont.len] at hv hr
      refine hd.2 r _ v ?_ hv
      rw [List.getElem?_map, List.getElem?_eq_getElem hr, Option.map_some, Option.getD_some]
    · cases h
  · split at h
    · rename_i l hl
      split at h
      · rename_i rs hr
        cases h
        obtain ⟨g1, g2, g3⟩ := rowsOf_sound (φ := φ) (H := H) (own := own) hr
        refine ⟨by rw [← hd.1, g2]; simp [Cont.len, Cont.w, g1], fun r hr' j s hs v hv => ?_⟩
        exact g3 vs hd r (by simpa [Cont.len, g1] using hr') j s hs v hv
      · cases h
    · cases h

theorem blkOf_sound {e : TypeId} {n : Nat} {cs : List SV} {vs : List Value} (hd : DVL φ H own cs vs) : BV φ H own (blkOf P e n cs) vs := by
  unfold blkOf
  split
  · rename_i c hc; exact contOf_sound hc hd
  · exact hd

theorem push_get (hS : Sim φ S H) (cs : List Value) : (pushV H cs).get H.size = some ⟨cs⟩ := by
  unfold Heap.get
  rw [if_pos (by simp [pushV]), show (pushV H cs).hid = H.hid from rfl, hS.ehid _ (Nat.le_refl _)]
  simp [pushV, Heap.root_push]

theorem got_ptr (hS : Sim φ S H) {B : SBlk} {cs : List Value} (hB : BV φ H (Own φ S) B cs) : Got φ S H (S.push B) (.ptr S.size 0 0 0) (pushV H cs) (ptr H.size 0) :=
  ⟨_, Step.push hS B cs hB, by
    have := DV.ptr (φ := φ.add S.size (some H.size)) (H := pushV H cs) (own := Own (φ.add S.size (some H.size)) (S.push B)) S.size 0 0 0 H.size (by simp [Phi.add])
    simpa [ptr] using this⟩
theorem got_buf (hS : Sim φ S H) {B : SBlk} {cs : List Value} {n w : Nat} (hB : BV φ H (Own φ S) B cs) (hl : cs.length = n * w) : Got φ S H (S.push B) (.buf S.size w true) (pushV H cs) (.slice (some ⟨H.size, 0, none⟩) n n) :=
  ⟨_, Step.push hS B cs hB, .buf S.size w true H.size n none (by simp [Phi.add]) (fun c hc => by rw [(Heap.get_root (push_get hS cs)).1] at hc; cases hc; exact hl) (.inl rfl)⟩

theorem DVL.flatten_replicate {z : List SV} {zc : List Value} (h : DVL φ H own z zc) : ∀ n, DVL φ H own (List.replicate n z).flatten (List.replicate n zc).flatten
  | 0 => .nil
  | n + 1 => by
    rw [List.replicate_succ, List.replicate_succ, List.flatten_cons, List.flatten_cons]
    exact h.append (DVL.flatten_replicate h n)

theorem buildSliceS_sound (hS : Sim φ S H) {t : TypeId} {n : Nat} {ps : List (Nat × List SV)} {ps' : List (Nat × Value)} {k : SV → SHeap → Option R} {r : R} (hp : PS φ H (Own φ S) ps ps') (h : buildSliceS P S t n ps k = some r) :
    ∃ s S' v H', buildSliceE P H t n ps' = some (v, H') ∧ Got φ S H S' s H' v ∧ k s S' = some r := by
  unfold buildSliceS at h
  split at h
  · rename_i e hu
    split at h
    · rename_i i z hi hz
      split at h
      · rename_i hc
        simp only [Bool.and_eq_true, decide_eq_true_eq] at hc
        split at h
        · rename_i cs hf
          obtain ⟨i', z0, zc, h1, h2, h3, h4, h5⟩ := zeroS_sound hz
          rw [hi] at h1; cases h1
          have hzl : zc.length = i.size := by rw [← (h5 φ H (Own φ S)).1]; exact hc.2
          obtain ⟨out', g1, g2, g3⟩ := fillS_sound ps ps' _ cs (List.replicate n zc).flatten.toArray hp (by simpa using (h5 φ H (Own φ S)).flatten_replicate n) hf
          refine ⟨_, _, _, _, ?_, got_buf hS (n := n) (w := i.size) (blkOf_sound g2) ?_, h⟩
          rotate_left
          · rw [← g2.1, g3]; simp [hc.2]
          · unfold buildSliceE
            simp only [hu, hi, h2, h3]
            rw [if_pos ⟨hc.1, hzl⟩, g1]
        · cases h
      · cases h
    · cases h
  · cases h

theorem zeroCont_sound {e : TypeId} {n : Nat} {c : Cont} {z : List SV} (h : zeroCont P e n = some c) (hz : zeroS P e = some z) {zc : List Value} (hd : DVL φ H own z zc) (hw : z.length = c.w) :
    BV φ H own (.cont c) (List.replicate n zc).flatten := by
  have hzl : zc.length = c.w := by rw [← hd.1, hw]
  have hlen : (List.replicate n zc).flatten.length = n * c.w := by simp [hzl]
  have key : c.len = n → (∀ r, r < n → DVL φ H own (c.row r) zc) → BV φ H own (.cont c) (List.replicate n zc).flatten := by
    intro hcl hrow
    refine ⟨by rw [hlen, hcl], fun r hr j s hs v hv => ?_⟩
    have hj : j < c.w := by
      have := (List.getElem?_eq_some_iff.1 hs).1
      rwa [Cont.row_len] at this
    rw [hcl] at hr
    have hin := row_in (w := c.w) hr
    rw [flatten_replicate_get zc n _ (by rw [hzl]; omega), hzl, Nat.mul_comm, Nat.mul_add_mod, Nat.mod_eq_of_lt hj] at hv
    exact (hrow r hr).2 j s v hs hv
  refine key (zeroCont_len h) (fun r hr => ?_)
  unfold zeroCont at h
  split at h
  · split at h
    · rename_i k' z' hz'
      split at h
      · rename_i hk
        cases h
        rw [beq_iff_eq] at hk; subst hk
        rw [hz] at hz'; cases hz'
        simp only [Cont.row, List.getD_eq_getElem?_getD, List.getElem?_replicate, if_pos hr, Option.getD_some]
        exact hd
      · cases h
    · cases h
  · split at h
    · rename_i l z' hl hz'
      split at h
      · rename_i r' hr'
        cases h
        rw [hz] at hz'; cases hz'
        simp only [Cont.row, List.getD_eq_getElem?_getD, List.getElem?_replicate, if_pos hr, Option.getD_some]
        exact encRow_dec hr' hd
      · cases h
    · cases h

theorem makeS_sound (hS : Sim φ S H) {t : TypeId} {a : SV} {va : Value} {k : SV → SHeap → Option R} {r : R} (ha : DV φ H (Own φ S) a va) (h : makeS P S t a k = some r) :
    ∃ s S' v H', makeE P H t va va = some (v, H') ∧ Got φ S H S' s H' v ∧ k s S' = some r := by
  unfold makeS at h
  split at h
  · rename_i e kk n hu
    cases ha
    split at h
    · rename_i i z c hi hz hc
      split at h
      · rename_i hcond
        simp only [Bool.and_eq_true, decide_eq_true_eq, beq_iff_eq] at hcond
        split at h
        · rename_i hlim
          obtain ⟨l1, l2, l3⟩ := of_decide_eq_true hlim
          obtain ⟨i', z0, zc, h1, h2, h3, h4, h5⟩ := zeroS_sound hz
          rw [hi] at h1; cases h1
          have hzl : zc.length = i.size := by rw [← (h5 φ H (Own φ S)).1]; exact hcond.2
          have hB := zeroCont_sound hc hz (h5 φ H (Own φ S)) (by rw [hcond.1]; exact hcond.2)
          refine ⟨_, _, _, _, ?_, got_buf hS hB (n := n.toNat) (w := i.size) (by simp [hzl]), h⟩
          unfold makeE
          simp only [hu, hi, h2, h3]
          rw [if_pos ⟨l1, Int.le_refl _, l2, l3⟩, if_pos hzl]
        · cases h
      · cases h
    · cases h
  · cases h

theorem allocB_sound {e : TypeId} {z : List SV} {vs : List Value} (hd : DVL φ H own z vs) : BV φ H own (allocB P e z) vs := by
  unfold allocB
  split
  · split
    · split
      · split
        · rename_i k _ _ xs hx
          have := contOf_sound (P := P) (e := 0) (n := 0) (cs := z) (c := .ints k xs) (φ := φ) (H := H) (own := own) (vs := vs)
          have h2 := intsOf_sound hx
          subst h2
          refine ⟨by have := hd.1; simp [Cont.len, Cont.w] at this ⊢; exact this.symm, fun r hr j s hs v hv => ?_⟩
          simp only [Cont.row] at hs
          have hj : j = 0 := by
            cases j with
            | zero => rfl
            | succ j => simp at hs
          subst hj
          simp at hs
          subst hs
          simp only [Cont.w, Nat.mul_one, Nat.add_zero, Cont.len] at hv hr
          refine hd.2 r _ v ?_ hv
          rw [List.getElem?_map, List.getElem?_eq_getElem hr, Option.map_some, Option.getD_some]
        · exact hd
      · exact hd
    · exact hd
  · exact hd

/-! ### Copies -/
theorem Cont.copied_sound {d s c : Cont} {cs ds : List Value} (h : d.copied s = some c) (hd : BV φ H own (.cont d) cs) (hs : BV φ H own (.cont s) ds) :
    BV φ H own (.cont c) (ds.take (min s.len d.len * d.w) ++ cs.drop (min s.len d.len * d.w)) ∧ s.w = d.w := by
  have key : ∀ (hl : c.len = d.len) (hw : c.w = d.w) (hw' : s.w = d.w) (h1 : ∀ r, r < min s.len d.len → c.row r = s.row r) (h2 : ∀ r, min s.len d.len ≤ r → c.row r = d.row r),
      BV φ H own (.cont c) (ds.take (min s.len d.len * d.w) ++ cs.drop (min s.len d.len * d.w)) ∧ s.w = d.w := by
    intro hl hw hw' h1 h2
    have e1 := hd.1
    have e2 := hs.1
    rw [hw'] at e2
    have m1 : min s.len d.len * d.w ≤ s.len * d.w := Nat.mul_le_mul_right _ (Nat.min_le_left _ _)
    have m2 : min s.len d.len * d.w ≤ d.len * d.w := Nat.mul_le_mul_right _ (Nat.min_le_right _ _)
    refine ⟨⟨by simp [hl, hw]; omega, fun r hr j u hu v hv => ?_⟩, hw'⟩
    rw [hw] at hv
    have hj : j < d.w := by
      have := (List.getElem?_eq_some_iff.1 hu).1
      rwa [Cont.row_len, hw] at this
    rw [List.getElem?_append, List.length_take, Nat.min_eq_left (by omega)] at hv
    by_cases hrm : r < min s.len d.len
    · have := row_in (w := d.w) hrm
      rw [if_pos (by omega), List.getElem?_take, if_pos (by omega)] at hv
      rw [h1 r hrm] at hu
      exact hs.2 r (by omega) j u hu v (by rw [hw']; exact hv)
    · have hge : min s.len d.len * d.w ≤ r * d.w := Nat.mul_le_mul_right _ (by omega)
      rw [if_neg (by omega), List.getElem?_drop] at hv
      rw [h2 r (by omega)] at hu
      exact hd.2 r (by omega) j u hu v (by rw [show min s.len d.len * d.w + (r * d.w + j - min s.len d.len * d.w) = r * d.w + j by omega] at hv; exact hv)
  unfold Cont.copied at h
  split at h
  · split at h
    · rename_i hk
      rw [beq_iff_eq] at hk; subst hk
      cases h
      refine key (by simp [Cont.len]; omega) rfl rfl (fun r hr => ?_) (fun r hr => ?_)
      · simp only [Cont.len] at hr
        simp only [Cont.row, List.getD_eq_getElem?_getD]
        rw [List.getElem?_append_left (by simp; omega), List.getElem?_take, if_pos hr]
      · simp only [Cont.len] at hr
        simp only [Cont.row, List.getD_eq_getElem?_getD]
        rw [List.getElem?_append_right (by simp; omega), List.getElem?_drop, List.length_take]
        congr 4; omega
    · cases h
  · split at h
    · rename_i hk
      have := schEq_eq.2 _ _ hk
      subst this
      cases h
      refine key (by simp [Cont.len]; omega) rfl rfl (fun r hr => ?_) (fun r hr => ?_)
      · simp only [Cont.len] at hr
        simp only [Cont.row, List.getD_eq_getElem?_getD]
        rw [List.getElem?_append_left (by simp; omega), List.getElem?_take, if_pos hr]
      · simp only [Cont.len] at hr
        simp only [Cont.row, List.getD_eq_getElem?_getD]
        rw [List.getElem?_append_right (by simp; omega), List.getElem?_drop, List.length_take]
        congr 4; omega
    · cases h
  · cases h

theorem copyS_sound (hS : Sim φ S H) {t u : TypeId} {d s : SV} {vd vs : Value} {k : SV → SHeap → Option R} {r : R} (hd : DV φ H (Own φ S) d vd) (hs : DV φ H (Own φ S) s vs) (h : copyS P S t d s k = some r) :
    ∃ z S' v H', copyE P H t u vd vs = some (v, H') ∧ Got φ S H S' z H' v ∧ k z S' = some r := by
  unfold copyS at h
  split at h
  · rename_i e id w ex hu
    split at h
    · rename_i i c new hi hB hnew
      split at h
      · rename_i c' hcond hcop
        simp only [Bool.and_eq_true, decide_eq_true_eq, beq_iff_eq] at hcond
        obtain ⟨⟨⟨hw, hcw⟩, hl⟩, hpos⟩ := hcond
        subst hw
        obtain ⟨a, cap, ds, rfl, hds, hBn, _⟩ := viewS_sound hS hs hnew
        cases hd with
        | bufNil _ _ hφ =>
          rcases hS.blk _ _ hB with ⟨_, h0⟩ | ⟨y, b, h1, _⟩
          · have h0 : c.len = 0 := h0
            have hc'len : c'.len = 0 := by
              unfold Cont.copied at hcop
              split at hcop
              · split at hcop
                · cases hcop; simp [Cont.len] at h0 ⊢; simp [h0]
                · cases hcop
              · split at hcop
                · cases hcop; simp [Cont.len] at h0 ⊢; simp [h0]
                · cases hcop
              · cases hcop
            have hm : min new.len 0 = 0 := Nat.min_zero _
            have hds0 := hds 0 (Nat.zero_le _)
            have hE : copyE P H t u (.slice none 0 0) (.slice a new.len cap) = some (.int .i64 ((min new.len 0 : Nat) : Int), H) := by
              unfold copyE
              simp only [hu, hi]
              rw [hm]
              have : sliceCells H i.size 0 (.slice a new.len cap) = some [] := by
                have hz : sliceCells H new.w 0 (.slice a new.len cap) = some [] := by rw [hds0]; simp
                cases a with
                | none => rfl
                | some ad =>
                  obtain ⟨b', off, sp⟩ := ad
                  simp only [sliceCells, Nat.zero_mul] at hz ⊢
                  exact hz
              rw [this]
            refine ⟨_, _, _, _, hE, ⟨φ, ?_, by rw [h0]; exact .i _ _⟩, h⟩
            -- the empty block is written with an empty list
            have hsub : ∀ j C, (S.put id (some (.cont c'))).get j = some C → ∃ D, S.get j = some D := by
              intro j C h
              rcases SHeap.get_put _ _ _ _ h with ⟨rfl, _⟩ | ⟨_, h2⟩
              · exact ⟨_, hB⟩
              · exact ⟨_, h2⟩
            have hown : ∀ y, OwnI φ (S.put id (some (.cont c'))) y → OwnI φ S y := by
              rintro y ⟨j, C, h1, h2⟩
              obtain ⟨D, hD⟩ := hsub j C h1
              exact ⟨j, D, hD, h2⟩
            have hext : Ext φ H (Own φ S) φ H (Own φ (S.put id (some (.cont c')))) := ⟨fun _ _ h => h, fun y d h1 h2 => ⟨h1, fun h => h2 (h.imp _root_.id (hown y))⟩, fun j y d h1 h2 => ⟨d, h2, rfl⟩⟩
            refine ⟨⟨?_, ?_, hS.fresh, hS.lt, hS.slock, hS.elock, hS.ehid⟩, fun _ _ h => h, rfl, fun y _ h => hown y h, fun _ _ _ => rfl, fun _ d _ h => ⟨d, h, rfl⟩, Nat.le_refl _, rfl, rfl, Nat.le_refl _, rfl, rfl, ?_⟩
            · intro j C h1
              rcases SHeap.get_put _ _ _ _ h1 with ⟨rfl, h2⟩ | ⟨_, h2⟩
              · cases h2; exact .inl ⟨hφ, hc'len⟩
              · rcases hS.blk _ _ h2 with h3 | ⟨y, d, h3, h4, h5, h6⟩
                · exact .inl h3
                · exact .inr ⟨y, d, h3, h4, h5, h6.mono hext⟩
            · intro j j' C C' y h1 h2 h3 h4
              obtain ⟨D, hD⟩ := hsub j C h1
              obtain ⟨D', hD'⟩ := hsub j' C' h2
              exact hS.inj j j' D D' y hD hD' h3 h4
            · intro j _ h2
              have e : j ≠ id := by
                rintro rfl
                rcases h2 with h2 | h2
                · omega
                · rw [hB] at h2; cases h2
              rw [SHeap.root_put, if_neg e]
          · rw [hφ] at h1; cases h1
        | buf _ _ _ x0 n sp hφ hn hsp =>
          rcases hS.blk _ _ hB with ⟨h0, _⟩ | ⟨y0, b, h1, hb, hlk, hBd⟩
          · rw [hφ] at h0; cases h0
          rw [hφ] at h1; cases h1
          obtain ⟨hBc, hww⟩ := Cont.copied_sound hcop hBd hBn
          have hlen := hn b (Heap.get_root hb).1
          have hnl : n = c.len := by
            have := hBd.1
            rw [hlen, hcw] at this
            exact Nat.eq_of_mul_eq_mul_right hpos this
          subst hnl
          have hdm := hds (min new.len c.len) (Nat.min_le_left _ _)
          rw [hww, hcw] at hdm
          have hdl : (ds.take (min new.len c.len * i.size)).length = min new.len c.len * i.size := by
            rw [List.length_take, hBn.1, hww, hcw]
            exact Nat.min_eq_left (Nat.mul_le_mul_right _ (Nat.min_le_left _ _))
          have hle : min new.len c.len * i.size ≤ c.len * i.size := Nat.mul_le_mul_right _ (Nat.min_le_right _ _)
          rw [hcw] at hBc
          cases hcs : ds.take (min new.len c.len * i.size) with
          | nil =>
            have h0 : min new.len c.len * i.size = 0 := by rw [← hdl, hcs]; rfl
            rw [h0, List.take_zero, List.drop_zero, List.nil_append] at hBc
            rw [hcs] at hdm
            refine ⟨_, _, .int .i64 ((min new.len c.len : Nat) : Int), H, ?_, ⟨φ, Step.see hS hB hφ hb hl hBc, .i _ _⟩, h⟩
            unfold copyE
            simp only [hu, hi, hdm]
          | cons q qs =>
            rw [hcs] at hdm hBc hdl
            have hset := setCells_of (off := 0) (vs := q :: qs) hb (hlk hl) (by simp) (by rw [hdl, hlen]; omega)
            rw [List.take_zero, List.nil_append, Nat.zero_add] at hset
            refine ⟨_, _, .int .i64 ((min new.len c.len : Nat) : Int), _, ?_, ⟨φ, Step.put hS hB hφ hb hl (cs' := q :: qs ++ b.cells.drop (q :: qs).length) (by simp only [List.length_append, List.length_drop]; rw [hdl, hlen]; omega) ?_, .i _ _⟩, h⟩
            · unfold copyE
              simp only [hu, hi, hdm, hset, Option.map_some]
            · rw [hdl]; exact hBc
      · cases h
    · cases h
  · cases h
end
end
end Go.Proofs.Ytoiijpphfckdjaa.Ev
