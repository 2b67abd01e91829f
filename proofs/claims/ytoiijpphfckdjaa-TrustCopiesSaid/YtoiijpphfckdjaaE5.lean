/-
  The evaluator's single operations are the machine's, third part: what makes or writes memory.
-/
import Derived.Test.YtoiijpphfckdjaaE4
namespace Go.Proofs.Ytoiijpphfckdjaa.Ev
open Go
set_option linter.unusedSimpArgs false

section
variable {P : Program} {f : Fm} {H : Heap} {w : World}

theorem zCells_VL (f : Fm) {z : Value} {cs : List Value} (h : zCells z = some cs) : z.cells.toList = cs ∧ VL f cs cs ∧ ∀ u ∈ cs, isCell u = true := by
  unfold zCells at h
  cases hv : valCells z with
  | none => simp [hv] at h
  | some c =>
    simp only [hv] at h
    split at h
    · rename_i hall
      cases h
      have hc : z.cells.toList = cs := by
        cases z <;> simp [valCells] at hv <;> subst hv <;> rfl
      refine ⟨hc, ⟨rfl, fun i v v' h1 h2 => ?_⟩, fun u hu => ?_⟩
      · rw [h1] at h2; cases h2
        exact V.constOk f (List.all_eq_true.1 hall v (List.mem_of_getElem? h1))
      · have := List.all_eq_true.1 hall u hu
        cases u <;> simp_all [constOk, isCell]
    · cases h

theorem V.cells_VL {v v' : Value} (h : V f v v') (hn : noTuple v = some v) : VL f v.cells.toList v'.cells.toList ∧ ∀ u ∈ v.cells.toList, isCell u = true := by
  cases hc : Ev.valCells v with
  | none => cases v <;> simp [Ev.valCells, noTuple] at hc hn
  | some cs =>
    have := h.valCells hc
    have e : v.cells.toList = cs := by cases v <;> simp [Ev.valCells] at hc <;> subst hc <;> rfl
    rw [e]; exact this

inductive PV (f : Fm) : List (Nat × Value) → List (Nat × Value) → Prop where
  | nil : PV f [] []
  | cons (i : Nat) (v v' : Value) (r r' : List (Nat × Value)) (h : V f v v') (hn : noTuple v = some v) (t : PV f r r') : PV f ((i, v) :: r) ((i, v') :: r')

theorem fold_set (off : Nat) : ∀ (xs xs' : List Value) (k : Nat) (c c' : Array Value), VL f xs xs' → (∀ u ∈ xs, isCell u = true) → VL f c.toList c'.toList → (∀ u ∈ c.toList, isCell u = true) →
    VL f ((xs.zipIdx k).foldl (fun cs (p : Value × Nat) => cs.setIfInBounds (off + p.2) p.1) c).toList ((xs'.zipIdx k).foldl (fun cs (p : Value × Nat) => cs.setIfInBounds (off + p.2) p.1) c').toList ∧
    ∀ u ∈ ((xs.zipIdx k).foldl (fun cs (p : Value × Nat) => cs.setIfInBounds (off + p.2) p.1) c).toList, isCell u = true := by
  intro xs
  induction xs with
  | nil =>
    intro xs' k c c' h _ hc hcc
    cases xs' with
    | nil => exact ⟨by simpa using hc, by simpa using hcc⟩
    | cons => have := h.1; simp at this
  | cons x xs ih =>
    intro xs' k c c' h hx hc hcc
    cases xs' with
    | nil => have := h.1; simp at this
    | cons y ys =>
      have h0 : V f x y := h.2 0 x y (by simp) (by simp)
      have ht : VL f xs ys := ⟨by have := h.1; simpa using this, fun i v v' a b => h.2 (i + 1) v v' (by simpa using a) (by simpa using b)⟩
      simp only [List.zipIdx_cons, List.foldl_cons]
      refine ih ys (k + 1) _ _ ht (fun u hu => hx u (by simp [hu])) ?_ ?_
      · rw [Array.toList_setIfInBounds, Array.toList_setIfInBounds]
        exact hc.set _ h0
      · intro u hu
        rw [Array.toList_setIfInBounds] at hu
        rcases List.mem_or_eq_of_mem_set hu with h1 | rfl
        · exact hcc u h1
        · exact hx u (by simp)

theorem fill_VL {place : Nat → Option (Nat × Nat)} : ∀ (ps ps' : List (Nat × Value)) (c c' out : Array Value), PV f ps ps' → VL f c.toList c'.toList → (∀ u ∈ c.toList, isCell u = true) →
    Instr.fill place c ps = some out → ∃ out', Instr.fill place c' ps' = some out' ∧ VL f out.toList out'.toList ∧ ∀ u ∈ out.toList, isCell u = true := by
  intro ps
  induction ps with
  | nil =>
    intro ps' c c' out hp hc hcc h
    cases hp
    simp [Instr.fill] at h
    subst h
    exact ⟨c', rfl, hc, hcc⟩
  | cons p ps ih =>
    intro ps' c c' out hp hc hcc h
    cases hp with
    | cons i v v' r r' hv hn t =>
      obtain ⟨hvl, hvc⟩ := hv.cells_VL hn
      have hsz : v'.cells.size = v.cells.size := by have := hvl.1; simpa using this.symm
      have hcs : c'.size = c.size := by have := hc.1; simpa using this.symm
      simp only [Instr.fill] at h ⊢
      cases hpl : place i with
      | none => simp [hpl] at h
      | some q =>
        obtain ⟨off, size⟩ := q
        simp only [hpl, hsz, hcs] at h ⊢
        split at h
        · cases h
        · rename_i hcond
          rw [if_neg hcond]
          rw [← Array.foldl_toList] at h ⊢
          rw [Array.toList_zipIdx] at h ⊢
          obtain ⟨h1, h2⟩ := fold_set off v.cells.toList v'.cells.toList 0 c c' hvl hvc hc hcc
          exact ih r' _ _ out t h1 h2 h

theorem buildE_sound {t : TypeId} {ps ps' : List (Nat × Value)} {v : Value} (hp : PV f ps ps') (h : buildE P t ps = some v) :
    ∃ v', (Instr.build t ps'.toArray).run P w = .ok v' w ∧ V f v v' := by
  unfold buildE at h
  cases hz : ((P.info? t).bind (·.zero)).bind zCells with
  | none => simp [hz] at h
  | some zc =>
    simp only [hz, Option.map_eq_some_iff] at h
    obtain ⟨cs, hb, rfl⟩ := h
    cases hi : P.info? t with
    | none => simp [hi] at hz
    | some it =>
      cases hzz : it.zero with
      | none => simp [hi, hzz] at hz
      | some z =>
        simp only [hi, hzz, Option.bind_some] at hz
        obtain ⟨e1, hvl, hcell⟩ := zCells_VL f hz
        have key : ∃ cs', P.built t ps' = some cs' ∧ VL f cs.toList cs'.toList ∧ ∀ u ∈ cs.toList, isCell u = true := by
          unfold Program.built at hb ⊢
          rw [hi] at hb ⊢
          split at hb
          · rename_i it' n e h1 h2
            cases h1
            simp only [hzz] at hb ⊢
            cases hie : P.info? e with
            | none => simp [hie] at hb
            | some ie =>
              simp only [hie] at hb ⊢
              exact fill_VL ps ps' z.cells z.cells cs hp (by rw [e1]; exact hvl) (by rw [e1]; exact hcell) hb
          · rename_i it' fs h1 h2
            cases h1
            simp only [hzz] at hb ⊢
            cases hpl : fs.toList.mapM (fun f => (P.info? f.type).map fun i => (f.offset, i.size)) with
            | none => simp [hpl] at hb
            | some places =>
              simp only [hpl] at hb ⊢
              exact fill_VL ps ps' z.cells z.cells cs hp (by rw [e1]; exact hvl) (by rw [e1]; exact hcell) hb
          · cases hb
        obtain ⟨cs', hb', hvl', hc'⟩ := key
        exact ⟨.agg cs', run_build w t ps'.toArray cs' (by simpa using hb'), by
          have := V.of_list hvl' hc'
          simpa using this⟩

/-- A new block whose cells are told one by one. -/
theorem R.push_list (hR : R f H w) (hfree : f H.size = none) (cs : List Value) (cs' : Array Value) (e : TypeId) (hv : VL f cs cs'.toList) (hc : ∀ u ∈ cs, isCell u = true) :
    ∃ f', f' H.size = some ⟨w.heap.size, 0, 0⟩ ∧ Stp f H w f' (pushV H cs) (w.alloc (.cells cs' e)) ∧ R f' (pushV H cs) (w.alloc (.cells cs' e)) :=
  hR.push hfree 0 cs cs' e hc (fun i v hi => by
    obtain ⟨v', h1, h2⟩ := hv.get hi
    exact ⟨v', by simpa using h1, h2⟩) (Nat.zero_le _)

theorem alloc_eq (w : World) (o : Obj) : ({ w with heap := w.heap.push o } : World) = w.alloc o := rfl

theorem box_sound (hR : R f H w) (hfree : f H.size = none) (e : TypeId) {x x' : Value} {cs : List Value} (hx : V f x x') (h : valCells x = some cs) :
    ∃ f' w', (Instr.box e x').run P w = .ok (.pointer (some ⟨w.heap.size, 0, none⟩)) w' ∧ V f' (ptr H.size 0) (.pointer (some ⟨w.heap.size, 0, none⟩)) ∧
      Stp f H w f' (pushV H cs) w' ∧ R f' (pushV H cs) w' := by
  obtain ⟨hvl, hc⟩ := hx.valCells h
  obtain ⟨f', h1, h2, h3⟩ := hR.push_list hfree cs x'.cells e hvl hc
  refine ⟨f', _, ?_, by simpa [ptr] using V.ptr (f := f') H.size 0 _ h1, h2, h3⟩
  simp [Instr.box, newVar, newRow]

theorem alloc_sound (hR : R f H w) (hfree : f H.size = none) (e : TypeId) {z : Value} {cs : List Value} (hz : (P.info? e).bind (·.zero) = some z) (h : zCells z = some cs) :
    ∃ f' w', (Instr.alloc e true (.tuple #[])).run P w = .ok (.pointer (some ⟨w.heap.size, 0, none⟩)) w' ∧ V f' (ptr H.size 0) (.pointer (some ⟨w.heap.size, 0, none⟩)) ∧
      Stp f H w f' (pushV H cs) w' ∧ R f' (pushV H cs) w' := by
  obtain ⟨e1, hvl, hc⟩ := zCells_VL f h
  obtain ⟨f', h1, h2, h3⟩ := hR.push_list hfree cs z.cells e (by rw [e1]; exact hvl) hc
  refine ⟨f', _, ?_, by simpa [ptr] using V.ptr (f := f') H.size 0 _ h1, h2, h3⟩
  cases hi : P.info? e with
  | none => simp [hi] at hz
  | some i =>
    simp [hi] at hz
    simp [Instr.alloc, zeroValue, typeInfo, hi, hz, newVar, newRow]

theorem flatten_replicate_get (zc : List Value) (n i : Nat) (h : i < n * zc.length) : ((List.replicate n zc).flatten)[i]? = zc[i % zc.length]? := by
  induction n generalizing i with
  | zero => omega
  | succ n ih =>
    rw [List.replicate_succ, List.flatten_cons, List.getElem?_append]
    split
    · rename_i hl; rw [Nat.mod_eq_of_lt hl]
    · rename_i hl
      rw [ih (i - zc.length) (by rw [Nat.succ_mul] at h; omega)]
      congr 1
      rw [← Nat.mod_eq_sub_mod (by omega)]

theorem madeCells_list (z : Array Value) (n : Nat) (hz : 0 < z.size ∨ n = 0) : madeCells z (n * z.size) = (List.replicate n z.toList).flatten.toArray := by
  apply Array.ext
  · simp [madeCells, List.length_flatten]
  · intro i h1 h2
    have hi : i < n * z.size := by simpa [madeCells] using h1
    have h0 : 0 < z.size := by
      rcases hz with h | h
      · exact h
      · subst h; omega
    have h3 := flatten_replicate_get z.toList n i (by simpa using hi)
    have hm : i % z.size < z.size := Nat.mod_lt _ h0
    simp only [madeCells, Array.getElem_map, Array.getElem_range]
    have h4 : ((List.replicate n z.toList).flatten.toArray)[i]? = some (z[i % z.size]'hm) := by
      rw [List.getElem?_toArray, h3]
      simp [hm]
    rw [Array.getElem?_eq_getElem h2] at h4
    have := Option.some.inj h4
    rw [this]
    simp [hm]

theorem VL.flatten_replicate {zc : List Value} (h : VL f zc zc) (n : Nat) : VL f (List.replicate n zc).flatten (List.replicate n zc).flatten := by
  induction n with
  | zero => exact .nil f
  | succ n ih => rw [List.replicate_succ, List.flatten_cons]; exact h.append ih
theorem cell_flatten_replicate {zc : List Value} (h : ∀ u ∈ zc, isCell u = true) (n : Nat) : ∀ u ∈ (List.replicate n zc).flatten, isCell u = true := by
  intro u hu
  rw [List.mem_flatten] at hu
  obtain ⟨l, hl, hul⟩ := hu
  rw [List.mem_replicate] at hl
  exact h u (by rw [← hl.2]; exact hul)

theorem makeE_sound (hR : R f H w) (hfree : f H.size = none) {t : TypeId} {l l' c c' v : Value} {H' : Heap} (hl : V f l l') (hc : V f c c') (h : makeE P H t l c = some (v, H')) :
    ∃ f' w' v', (Instr.makeSlice t l' c').run P w = .ok v' w' ∧ V f' v v' ∧ Stp f H w f' H' w' ∧ R f' H' w' := by
  unfold makeE at h
  split at h
  · rename_i elem k n k' m hu
    cases hl; cases hc
    cases hi : P.info? elem with
    | none => simp [hi] at h
    | some i =>
      cases hz : i.zero with
      | none => simp [hi, hz] at h
      | some z =>
        simp only [hi, hz] at h
        split at h
        · rename_i hcond
          obtain ⟨h0, h1, h2, h3⟩ := hcond
          cases hzc : zCells z with
          | none => simp [hzc] at h
          | some zc =>
            simp only [hzc] at h
            split at h
            · rename_i hlen
              cases h
              obtain ⟨e1, hvl, hcell⟩ := zCells_VL f hzc
              have hsz : z.cells.size = i.size := by rw [← hlen, ← e1]; simp
              have hr := run_make (P := P) w t elem i z hu hi hz k k' n m h0 h1 (by omega) h3
              have hm : madeCells z.cells (m.toNat * i.size) = (List.replicate m.toNat zc).flatten.toArray := by
                by_cases hs : 0 < z.cells.size
                · rw [← hsz, madeCells_list _ _ (.inl hs), e1]
                · have : zc = [] := by rw [← e1]; simp; simpa using hs
                  have h00 : i.size = 0 := by omega
                  rw [h00, this]
                  simp [madeCells, Array.range_zero']
              rw [hm] at hr
              obtain ⟨f', g1, g2, g3⟩ := hR.push_list hfree _ (List.replicate m.toNat zc).flatten.toArray elem (by simpa using hvl.flatten_replicate m.toNat) (cell_flatten_replicate hcell m.toNat)
              exact ⟨f', _, _, hr, by simpa using V.slX (f := f') H.size 0 n.toNat m.toNat _ _ g1 (.inl rfl), g2, g3⟩
            · cases h
        · cases h
  · cases h

theorem buildSliceE_sound (hR : R f H w) (hfree : f H.size = none) {t : TypeId} {n : Nat} {ps ps' : List (Nat × Value)} {v : Value} {H' : Heap} (hp : PV f ps ps') (h : buildSliceE P H t n ps = some (v, H')) :
    ∃ f' w' v', (Instr.buildSlice t n ps'.toArray).run P w = .ok v' w' ∧ V f' v v' ∧ Stp f H w f' H' w' ∧ R f' H' w' := by
  unfold buildSliceE at h
  split at h
  · rename_i elem hu
    cases hi : P.info? elem with
    | none => simp [hi] at h
    | some i =>
      cases hz : i.zero with
      | none => simp [hi, hz] at h
      | some z =>
        simp only [hi, hz] at h
        cases hzc : zCells z with
        | none => simp [hzc] at h
        | some zc =>
          simp only [hzc] at h
          split at h
          · rename_i hcond
            obtain ⟨hle, hlen⟩ := hcond
            split at h
            · rename_i cs hfill
              cases h
              obtain ⟨e1, hvl, hcell⟩ := zCells_VL f hzc
              have hsz : z.cells.size = i.size := by rw [← hlen, ← e1]; simp
              have hm : (Array.range (n * i.size)).map (fun j => z.cells[j % z.cells.size]!) = (List.replicate n zc).flatten.toArray := by
                by_cases hs : 0 < z.cells.size
                · have := madeCells_list z.cells n (.inl hs)
                  rw [← hsz, ← e1, ← this]; rfl
                · have : zc = [] := by rw [← e1]; simp; simpa using hs
                  have h00 : i.size = 0 := by omega
                  rw [h00, this]
                  simp [Array.range_zero']
              obtain ⟨cs', hf', hvl', hc'⟩ := fill_VL ps ps' _ (List.replicate n zc).flatten.toArray cs hp (by simpa using hvl.flatten_replicate n) (by simpa using cell_flatten_replicate hcell n) hfill
              obtain ⟨f', g1, g2, g3⟩ := hR.push_list hfree cs.toList cs' elem hvl' hc'
              refine ⟨f', _, _, ?_, by simpa using V.slX (f := f') H.size 0 n n _ _ g1 (.inl rfl), g2, g3⟩
              have hle' : ¬ (16777216 < n * i.size) := by omega
              by_cases h00 : n * i.size = 0
              · have hn0 : (List.replicate n zc).flatten = [] := by
                  have : (List.replicate n zc).flatten.length = 0 := by simp [List.length_flatten, hlen, h00]
                  exact List.eq_nil_of_length_eq_zero this
                rw [hn0] at hf'
                simp [Instr.buildSlice, run_underlying hu, run_sizeOf hi, h00, Array.range_zero', hf', newRow]
              · simp [Instr.buildSlice, run_underlying hu, run_sizeOf hi, h00, hle', zeroValue, typeInfo, hi, hz, hm, hf', newRow]
            · cases h
          · cases h
  · cases h
end
end Go.Proofs.Ytoiijpphfckdjaa.Ev
