/-
  Regions that draw their order, over partly unknown values: the run.
-/
import Derived.Test.YtoiijpphfckdjaaF9
namespace Go.Proofs.Ytoiijpphfckdjaa.Ev
noncomputable section
open Go
set_option linter.unusedVariables false
set_option linter.unusedSimpArgs false

section
variable {R : Type} {P : Program} {L : List FuncId} {O : Known} {T : TabS} {A : Array Nat} {base : Nat} {φ : Phi} {S : SHeap} {H : Heap} {rsS : List SRec} {rsE : List Rec}

theorem loadE_block {H H' : Heap} {t : TypeId} {x0 o : Nat} (h : H'.get x0 = H.get x0) : loadE P H' t (.pointer (some ⟨x0, o, none⟩)) = loadE P H t (.pointer (some ⟨x0, o, none⟩)) := by
  unfold loadE getCells
  simp only [h]

theorem SR.ext {j id : Nat} {a : SRec} (h : SR rsS j id) : SR (rsS ++ [a]) j id := by
  obtain ⟨r, h1, h2, h3⟩ := h
  exact ⟨r, by rw [List.getElem?_append_left (List.getElem?_eq_some_iff.1 h1).1]; exact h1, h2, h3⟩
theorem ER.ext {j x : Nat} {b : Rec} (h : ER rsE j x) : ER (rsE ++ [b]) j x := by
  obtain ⟨r, h1, h2, h3⟩ := h
  exact ⟨r, by rw [List.getElem?_append_left (List.getElem?_eq_some_iff.1 h1).1]; exact h1, h2, h3⟩
theorem snoc_get {α : Type} {l : List α} {a x : α} {j : Nat} (h : (l ++ [a])[j]? = some x) : (j < l.length ∧ l[j]? = some x) ∨ (j = l.length ∧ x = a) := by
  rw [List.getElem?_append] at h
  split at h
  · rename_i hj; exact .inl ⟨hj, h⟩
  · rename_i hj
    have hlt := (List.getElem?_eq_some_iff.1 h).1
    have : j = l.length := by simp at hlt; omega
    subst this
    simp at h
    exact .inr ⟨rfl, h.symm⟩

theorem RI.add (I : RI P A base φ S H rsS rsE) {φ' : Phi} {S' : SHeap} {H' : Heap} {a : SRec} {b : Rec} (hst : Step φ S H φ' S' H') (hb0 : b.h0 = H) (hb1 : b.h1 = H') (ha0 : a.n0 = S.size) (ha1 : a.n1 = S'.size) (hk : kindOk a.kind b.kind)
    (hcorr : ∀ id B x, S'.get id = some B → φ' id = some (some x) → (id < S.size ∧ (∃ B, S.get id = some B) ∧ φ id = some (some x)) ∨
      (S.size ≤ id ∧ id < S'.size ∧ ((H.size ≤ x ∧ x < H'.size) ∨ x < base ∨ ∃ m, ER rsE m x ∧ getB A rsS.length m = true)))
    (hld : a.kind = .load → ∃ t p, b.ld = some (t, p) ∧ (selfS a.v = true → eqv b.v b.v = true) ∧ ∀ y, a.ld = some y → ∃ x0 o, p = .pointer (some ⟨x0, o, none⟩) ∧ φ' y = some (some x0) ∧ (∃ B, S'.get y = some B) ∧ loadE P H' t p = some b.v)
    (hstill : ∀ y B x0, S.get y = some B → φ y = some (some x0) → (a.kind = .loud → farB a y = true) → (∃ B', S'.get y = some B') ∧ H'.get x0 = H.get x0)
    (hre : ∀ t p, a.re = some (t, p) → ∃ pv, b.ld = some (t, pv) ∧ DV φ' H' (Own φ' S') p pv ∧ DV φ' H' (Own φ' S') a.v b.v) (hok : ∀ i ∈ a.ok, ∃ b' t pv v, rsE[i]? = some b' ∧ b'.ld = some (t, pv) ∧ loadE P b.h1 t pv = some v ∧ eqv b'.v v = true)
    (hlate : a.kind = .load → ∀ y, a.ld = some y → ∀ (j : Nat) (c : SRec) (d : Rec), rsS[j]? = some c → rsE[j]? = some d → y < c.n0 → calm rsS j rsS.length y → ∃ t p, b.ld = some (t, p) ∧ loadE P (Ev.veil d.h0 (getB A rsS.length) (rsE.take j)) t p = some b.v) :
    RI P A base φ' S' H' (rsS ++ [a]) (rsE ++ [b]) := by
  have hl := I.len
  have hext' := hst.ext I.sim
  have hres : ∀ (i : Nat) (x : SRec) (y : Rec) (t : TypeId) (p : SV), (rsS ++ [a])[i]? = some x → (rsE ++ [b])[i]? = some y → x.re = some (t, p) → ∃ pv, y.ld = some (t, pv) ∧ DV φ' H' (Own φ' S') p pv ∧ DV φ' H' (Own φ' S') x.v y.v := by
    intro i x y t p h1 h2 h3
    rcases snoc_get h1 with ⟨g1, h1⟩ | ⟨g1, rfl⟩
    · rcases snoc_get h2 with ⟨_, h2⟩ | ⟨g2, _⟩
      · obtain ⟨pv, q1, q2, q3⟩ := I.res i x y t p h1 h2 h3
        exact ⟨pv, q1, q2.mono hext', q3.mono hext'⟩
      · omega
    · rcases snoc_get h2 with ⟨g2, _⟩ | ⟨_, rfl⟩
      · omega
      · exact hre t p h3
  have hoks : ∀ (j : Nat) (c : SRec) (d : Rec), (rsS ++ [a])[j]? = some c → (rsE ++ [b])[j]? = some d → ∀ i ∈ c.ok, i < j ∧ ∃ b' t pv v, (rsE ++ [b])[i]? = some b' ∧ b'.ld = some (t, pv) ∧ loadE P d.h1 t pv = some v ∧ eqv b'.v v = true := by
    intro j c d h1 h2 i hi
    have up : ∀ b', rsE[i]? = some b' → i < rsE.length ∧ (rsE ++ [b])[i]? = some b' := fun b' h => by
      have hlt := (List.getElem?_eq_some_iff.1 h).1
      exact ⟨hlt, by rw [List.getElem?_append_left hlt]; exact h⟩
    rcases snoc_get h1 with ⟨g1, h1⟩ | ⟨g1, rfl⟩
    · rcases snoc_get h2 with ⟨_, h2⟩ | ⟨g2, _⟩
      · obtain ⟨q0, b', t, pv, v, q1, q2⟩ := I.oks j c d h1 h2 i hi
        exact ⟨q0, b', t, pv, v, (up b' q1).2, q2⟩
      · omega
    · rcases snoc_get h2 with ⟨g2, _⟩ | ⟨_, rfl⟩
      · omega
      · obtain ⟨b', t, pv, v, q1, q2⟩ := hok i hi
        exact ⟨by have := (up b' q1).1; omega, b', t, pv, v, (up b' q1).2, q2⟩
  have hback : ∀ (j : Nat) (c : SRec) (d : Rec), (rsS ++ [a])[j]? = some c → (rsE ++ [b])[j]? = some d → ∀ y B x0, S'.get y = some B → φ' y = some (some x0) → y < c.n0 → calm (rsS ++ [a]) j (rsS ++ [a]).length y → d.h0.get x0 = H'.get x0 := by
    intro j c d h1 h2 y B x0 hB hx hy hc
    have hj : j ≤ rsS.length := by
      have := (List.getElem?_eq_some_iff.1 h1).1
      simp at this; omega
    have hold : y < S.size → (∃ B0, S.get y = some B0) ∧ φ y = some (some x0) := by
      intro hlt
      rcases hcorr y B x0 hB hx with ⟨_, g2, g3⟩ | ⟨g1, _⟩
      · exact ⟨g2, g3⟩
      · omega
    have hnow : y < S.size → H'.get x0 = H.get x0 := by
      intro hlt
      obtain ⟨⟨B0, g1⟩, g2⟩ := hold hlt
      exact (hstill y B0 x0 g1 g2 (fun hl2 => hc rsS.length a hj (by simp) (by simp) hl2)).2
    rcases snoc_get h1 with ⟨g1, h1⟩ | ⟨g1, rfl⟩
    · rcases snoc_get h2 with ⟨_, h2⟩ | ⟨g2, _⟩
      · have hs := I.ssz j c h1
        have hlt : y < S.size := by omega
        obtain ⟨⟨B0, g3⟩, g4⟩ := hold hlt
        rw [hnow hlt]
        exact I.back j c d h1 h2 y B0 x0 g3 g4 hy (fun m q e1 e2 e3 e4 => hc m q e1 (by simp; omega) (by rw [List.getElem?_append_left (List.getElem?_eq_some_iff.1 e3).1]; exact e3) e4)
      · omega
    · rcases snoc_get h2 with ⟨g2, _⟩ | ⟨_, rfl⟩
      · omega
      · rw [hb0]
        exact (hnow (by rw [← ha0]; exact hy)).symm
  have hlates : ∀ (i : Nat) (x : SRec) (y : Rec), (rsS ++ [a])[i]? = some x → (rsE ++ [b])[i]? = some y → x.kind = .load → ∀ z, x.ld = some z → ∀ (j : Nat) (c : SRec) (d : Rec), j < i → (rsS ++ [a])[j]? = some c → (rsE ++ [b])[j]? = some d → z < c.n0 → calm (rsS ++ [a]) j i z →
      ∃ t p, y.ld = some (t, p) ∧ loadE P (Ev.veil d.h0 (getB A i) ((rsE ++ [b]).take j)) t p = some y.v := by
    intro i x y h1 h2 hk2 z hz j c d hji h3 h4 hlt hc
    have hi : i ≤ rsS.length := by
      have := (List.getElem?_eq_some_iff.1 h1).1
      simp at this; omega
    have tk : (rsE ++ [b]).take j = rsE.take j := List.take_append_of_le_length (by omega)
    rw [tk]
    have h5 : rsS[j]? = some c := by
      rcases snoc_get h3 with ⟨_, h⟩ | ⟨h, _⟩
      · exact h
      · omega
    have h6 : rsE[j]? = some d := by
      rcases snoc_get h4 with ⟨_, h⟩ | ⟨h, _⟩
      · exact h
      · omega
    have hc' : ∀ k, k ≤ i → calm rsS j k z := fun k hk m q e1 e2 e3 e4 => hc m q e1 (by omega) (by rw [List.getElem?_append_left (List.getElem?_eq_some_iff.1 e3).1]; exact e3) e4
    rcases snoc_get h1 with ⟨g1, h1⟩ | ⟨g1, rfl⟩
    · rcases snoc_get h2 with ⟨_, h2⟩ | ⟨g2, _⟩
      · exact I.lates i x y h1 h2 hk2 z hz j c d hji h5 h6 hlt (hc' i (Nat.le_refl _))
      · omega
    · rcases snoc_get h2 with ⟨g2, _⟩ | ⟨_, rfl⟩
      · omega
      · subst g1
        exact hlate hk2 z hz j c d h5 h6 hlt (hc' _ (Nat.le_refl _))
  refine ⟨hst.sim, by simp [hl], fun x hx => by rw [hst.ban]; exact I.ban x hx, ?_, ?_, ?_, ?_, Nat.le_trans I.hbase hst.esize, ?_, ?_, hres, hback, hlates, hoks⟩
  · intro id B x h1 h2
    rcases hcorr id B x h1 h2 with ⟨_, ⟨B0, g2⟩, g3⟩ | ⟨g1, g2, g3⟩
    · rcases I.corr id B0 x g2 g3 with h | ⟨j, m, h3, h4, h5⟩
      · exact .inl h
      · exact .inr ⟨j, m, h3.ext, h4.ext, h5⟩
    · have hnew : SR (rsS ++ [a]) rsS.length id := ⟨a, by simp, by rw [ha0]; exact g1, by rw [ha1]; exact g2⟩
      rcases g3 with g3 | g3 | ⟨m, g3, g4⟩
      · exact .inr ⟨rsS.length, rsS.length, hnew, ⟨b, by rw [hl]; simp, by rw [hb0]; exact g3.1, by rw [hb1]; exact g3.2⟩, .inl rfl⟩
      · exact .inl g3
      · exact .inr ⟨rsS.length, m, hnew, g3.ext, .inr g4⟩
  · intro j r h
    rcases snoc_get h with ⟨_, h⟩ | ⟨_, rfl⟩
    · obtain ⟨h1, h2, h3⟩ := I.esz j r h
      exact ⟨h1, h2, Nat.le_trans h3 hst.esize⟩
    · rw [hb0, hb1]; exact ⟨I.hbase, hst.esize, Nat.le_refl _⟩
  · intro j j' r r' hjj h h'
    rcases snoc_get h' with ⟨hlt, h'⟩ | ⟨_, rfl⟩
    · rcases snoc_get h with ⟨_, h⟩ | ⟨h0, _⟩
      · exact I.emono j j' r r' hjj h h'
      · omega
    · rcases snoc_get h with ⟨_, h⟩ | ⟨h0, _⟩
      · rw [hb0]; exact (I.esz j r h).2.2
      · omega
  · intro j r h
    rcases snoc_get h with ⟨_, h⟩ | ⟨_, rfl⟩
    · exact ⟨Nat.le_trans (I.ssz j r h).1 hst.ssize, Nat.le_trans (I.ssz j r h).2 hst.ssize⟩
    · exact ⟨by rw [ha0]; exact hst.ssize, by rw [ha1]; exact Nat.le_refl _⟩
  · intro j x y h1 h2
    rcases snoc_get h1 with ⟨g1, h1⟩ | ⟨g1, rfl⟩
    · rcases snoc_get h2 with ⟨_, h2⟩ | ⟨g2, _⟩
      · exact I.kinds j x y h1 h2
      · omega
    · rcases snoc_get h2 with ⟨g2, _⟩ | ⟨_, rfl⟩
      · omega
      · exact hk
  · intro i x y h1 h2 hkl
    rcases snoc_get h1 with ⟨g1, h1⟩ | ⟨g1, rfl⟩
    · rcases snoc_get h2 with ⟨_, h2⟩ | ⟨g2, _⟩
      · obtain ⟨t, p, e1, e2, e3⟩ := I.loads i x y h1 h2 hkl
        refine ⟨t, p, e1, e2, fun z hz => ?_⟩
        obtain ⟨x0, o, rfl, e4, e5, e6⟩ := e3 z hz
        -- as long as all was calm
        have key : calm (rsS ++ [a]) i rsS.length z → (∃ B, S'.get z = some B) ∧ loadE P H' t (.pointer (some ⟨x0, o, none⟩)) = some y.v := by
          intro hc
          have hc' : calm rsS i rsS.length z := fun j c h1 h2 h3 h4 => hc j c h1 h2 (by rw [List.getElem?_append_left (List.getElem?_eq_some_iff.1 h3).1]; exact h3) h4
          obtain ⟨⟨B, f1⟩, f2⟩ := e5 hc'
          obtain ⟨f3, f4⟩ := hstill z B x0 f1 e4 (fun hl => hc rsS.length a (by omega) (Nat.le_refl _) (by simp) hl)
          exact ⟨f3, by rw [loadE_block f4]; exact f2⟩
        refine ⟨x0, o, rfl, hst.le _ _ e4, fun hc => key (fun j c h1 h2 h3 h4 => hc j c h1 (by simp; omega) h3 h4), fun k d hik hd hc => ?_⟩
        rcases snoc_get hd with ⟨f1, hd⟩ | ⟨f1, rfl⟩
        · exact e6 k d hik hd (fun j c h1 h2 h3 h4 => hc j c h1 h2 (by rw [List.getElem?_append_left (List.getElem?_eq_some_iff.1 h3).1]; exact h3) h4)
        · rw [hb1]
          exact (key (fun j c h1 h2 h3 h4 => hc j c h1 (by omega) h3 h4)).2
      · omega
    · rcases snoc_get h2 with ⟨g2, _⟩ | ⟨_, rfl⟩
      · omega
      · obtain ⟨t, p, e1, e2, e3⟩ := hld hkl
        refine ⟨t, p, e1, e2, fun z hz => ?_⟩
        obtain ⟨x0, o, e4, e5, e6, e7⟩ := e3 z hz
        refine ⟨x0, o, e4, e5, fun _ => ⟨e6, e7⟩, fun k d hik hd _ => ?_⟩
        have := (List.getElem?_eq_some_iff.1 hd).1
        simp at this
        omega

theorem RI.same (I : RI P A base φ S H rsS rsE) {a : SRec} {b : Rec} (hb0 : b.h0 = H) (hb1 : b.h1 = H) (ha0 : a.n0 = S.size) (ha1 : a.n1 = S.size) (hk : kindOk a.kind b.kind) (hnl : a.kind ≠ .loud)
    (hld : a.kind = .load → ∃ t p, b.ld = some (t, p) ∧ (selfS a.v = true → eqv b.v b.v = true) ∧ ∀ y, a.ld = some y → ∃ x0 o, p = .pointer (some ⟨x0, o, none⟩) ∧ φ y = some (some x0) ∧ (∃ B, S.get y = some B) ∧ loadE P H t p = some b.v)
    (hre : ∀ t p, a.re = some (t, p) → ∃ pv, b.ld = some (t, pv) ∧ DV φ H (Own φ S) p pv ∧ DV φ H (Own φ S) a.v b.v) (hok : a.ok = [])
    (hlate : a.kind = .load → ∀ y, a.ld = some y → ∀ (j : Nat) (c : SRec) (d : Rec), rsS[j]? = some c → rsE[j]? = some d → y < c.n0 → calm rsS j rsS.length y → ∃ t p, b.ld = some (t, p) ∧ loadE P (Ev.veil d.h0 (getB A rsS.length) (rsE.take j)) t p = some b.v) :
    RI P A base φ S H (rsS ++ [a]) (rsE ++ [b]) :=
  I.add (Step.refl I.sim) hb0 hb1 ha0 ha1 hk (fun id B x h1 h2 => .inl ⟨SHeap.get_lt h1, ⟨B, h1⟩, h2⟩) hld (fun y B x0 h1 _ _ => ⟨⟨B, h1⟩, rfl⟩) hre (fun i hi => by rw [hok] at hi; cases hi) hlate

theorem eqc_self {own : Nat → Prop} {s : SV} {v : Value} (hv : DV φ H own s v) (h : selfC s = true) : eqc v v = true := by
  cases hv <;> simp_all [selfC, eqc]
theorem eqcs_self : ∀ {vs : List Value}, (∀ v ∈ vs, eqc v v = true) → eqcs vs vs = true
  | [], _ => rfl
  | v :: vs, h => by
    simp only [eqcs, Bool.and_eq_true]
    exact ⟨h v (by simp), eqcs_self (fun u hu => h u (by simp [hu]))⟩
theorem eqv_self {own : Nat → Prop} {s : SV} {v : Value} (hv : DV φ H own s v) (h : selfS s = true) : eqv v v = true := by
  cases hv with
  | agg l x' hx vx =>
    simp only [selfS, List.all_eq_true] at h
    simp only [eqv]
    refine eqcs_self fun u hu => ?_
    obtain ⟨i, hi⟩ := List.getElem?_of_mem hu
    have hlt : i < l.length := by
      have := (List.getElem?_eq_some_iff.1 hi).1
      simp at this; omega
    have h1 := List.getElem?_eq_getElem hlt
    exact eqc_self (vx i _ u h1 (by simpa using hi)) (h _ (List.mem_of_getElem? h1))
  | _ => simp_all [selfS, selfC, eqv, eqc]

theorem kind_quiet {o : Oper} (h : opKind L o = .load) : ∃ t a, o.op = .load t a := by
  unfold opKind at h
  split at h <;> first | (rename_i t a hop; exact ⟨_, _, hop⟩) | (cases h; done) | skip
  all_goals (repeat' split at h)
  all_goals cases h

theorem tgtOf_DV {own : Nat → Prop} {p : SV} {v : Value} {y : Nat} (hp : DV φ H own p v) (h : tgtOf p = some y) : ∃ x0 o, v = .pointer (some ⟨x0, o, none⟩) ∧ φ y = some (some x0) := by
  unfold tgtOf at h
  split at h
  · cases h
    cases hp with
    | ptr _ _ _ _ x hx => exact ⟨x, _, rfl, hx⟩
  · cases h

theorem loadS_live {t : TypeId} {p : SV} {k : SV → Option R} {r : R} {y : Nat} (h : loadS P S t p k = some r) (hy : tgtOf p = some y) : ∃ B, S.get y = some B := by
  unfold tgtOf at hy
  split at hy
  · cases hy
    unfold loadS at h
    split at h
    · unfold readS at h
      simp only at h
      split at h
      · exact ⟨_, by assumption⟩
      · exact ⟨_, by assumption⟩
      · exact ⟨_, by assumption⟩
      · cases h
    · cases h
  · cases hy

theorem append_unveil {p : Nat → Bool} {t u : TypeId} {s x v : Value} {H2 : Heap} (h : appendE P (veil H p rsE) t u s x = some (v, H2)) : appendE P H t u s x = some (v, unveil H H2) := by
  have hc : ∀ b off n cs, getCells (veil H p rsE) b off n = some cs → getCells H b off n = some cs := by
    intro b off n cs hg
    unfold getCells at hg ⊢
    cases hb : (veil H p rsE).get b with
    | none => simp [hb] at hg
    | some q => rw [(veil_get_inv hb).1]; simpa [hb] using hg
  have hs : ∀ size n x cs, sliceCells (veil H p rsE) size n x = some cs → sliceCells H size n x = some cs := by
    intro size n x cs h
    unfold sliceCells at h ⊢
    split at h
    · exact h
    · exact hc _ _ _ _ h
    · cases h
  have hset : ∀ b off vs H', setCells (veil H p rsE) b off vs = some H' → False := by
    intro b off vs H' h
    unfold setCells at h
    split at h
    · rename_i k hk
      have hlt : b < H.size := Heap.get_lt (H := veil H p rsE) hk
      split at h
      · rename_i hm
        simp only [Bool.and_eq_true, mine_iff] at hm
        have : H.size ≤ b := hm.1.1
        omega
      · cases h
    · cases h
  unfold appendE at h ⊢
  split at h
  · rename_i htu
    rw [if_pos htu]
    split at h
    · rename_i elem base sLen sCap a n c hu
      try simp only [hu]
      split at h
      · rename_i i hi
        try simp only [hi]
        split at h
        · rename_i z hz
          try simp only [hz]
          split at h
          · rename_i zc new hzc hnew
            try simp only [hzc, hs _ _ _ _ hnew]
            split at h
            · rename_i hcond
              rw [if_pos hcond]
              split at h
              · cases h; rfl
              · split at h
                · cases h; rfl
                · rename_i b off sp
                  split at h
                  · rename_i hd
                    simp only [Option.map_eq_some_iff] at h
                    obtain ⟨H', h1, _⟩ := h
                    exact (hset _ _ _ _ h1).elim
                  · rename_i hd
                    try simp only [hd]
                    split at h
                    · rename_i old hold
                      try simp only [hs _ _ _ _ hold]
                      split at h
                      · split at h
                        · rename_i k hk
                          have hlt : b < H.size := Heap.get_lt (H := veil H p rsE) hk
                          split at h
                          · rename_i hm
                            simp only [Bool.and_eq_true, mine_iff] at hm
                            have : H.size ≤ b := hm.1.1.1.1
                            omega
                          · cases h
                        · cases h
                      · cases h; rfl
                    · cases h
            · cases h
          · cases h
        · cases h
      · cases h
    · cases h
  · cases h

theorem opE_append_unveil {p : Nat → Bool} {cl : Cl} {ρ : Operand → Option Value} {o : Oper} (ha : isAppend o = true) {v : Value} {H2 : Heap} (h : opE P cl ρ o (veil H p rsE) = some (v, H2)) : opE P cl ρ o H = some (v, unveil H H2) := by
  unfold isAppend at ha
  split at ha
  · rename_i c hc
    unfold opE at h ⊢
    rw [hc] at h ⊢
    split at ha
    · rename_i hb
      try simp only [hb] at h ⊢
      split at h
      · rename_i args hargs
        try simp only [builtinE] at h ⊢
        split at h
        · exact append_unveil h
        · cases h
      · cases h
    · cases ha
  · cases ha

theorem sameC_sound {own : Nat → Prop} {a b : SV} {u v : Value} {x : Option R} {r : R} (ha : DV φ H own a u) (hb : DV φ H own b v) (h : sameC a b x = some r) : x = some r ∧ eqc u v = true := by
  unfold sameC at h
  split at h
  · split at h
    · rename_i n k' m bb hk
      cases ha; cases hb
      by_cases e : n = m
      · subst e
        rw [decide_eq_true rfl, cond_true] at h
        exact ⟨h, by simp only [eqc, hk, Bool.true_and, beq_self_eq_true]⟩
      · rw [decide_eq_false e, cond_false] at h; cases h
    · cases h
  · cases ha; cases hb
    rename_i x y
    cases x <;> cases y <;> simp at h <;> exact ⟨h, rfl⟩
  · cases h
theorem sameL_sound {own : Nat → Prop} : ∀ {l m : List SV} {us vs : List Value} {x : Option R} {r : R}, us.length = l.length → (∀ (i : Nat) s u, l[i]? = some s → us[i]? = some u → DV φ H own s u) → vs.length = m.length → (∀ (i : Nat) s v, m[i]? = some s → vs[i]? = some v → DV φ H own s v) → sameL l m x = some r → x = some r ∧ eqcs us vs = true
  | [], [], us, vs, x, r, h1, _, h2, _, h => by
    rw [List.eq_nil_of_length_eq_zero h1, List.eq_nil_of_length_eq_zero h2]
    exact ⟨h, rfl⟩
  | a :: l, b :: m, u :: us, v :: vs, x, r, h1, g1, h2, g2, h => by
    unfold sameL at h
    obtain ⟨h3, h4⟩ := sameC_sound (g1 0 a u rfl rfl) (g2 0 b v rfl rfl) h
    obtain ⟨h5, h6⟩ := sameL_sound (by simpa using h1) (fun i s w e1 e2 => g1 (i + 1) s w e1 e2) (by simpa using h2) (fun i s w e1 e2 => g2 (i + 1) s w e1 e2) h3
    exact ⟨h5, by simp only [eqcs, h4, h6, Bool.and_self]⟩
  | [], _ :: _, _, _, _, _, _, _, _, _, h => by simp [sameL] at h
  | _ :: _, [], _, _, _, _, _, _, _, _, h => by simp [sameL] at h
  | _ :: _, _ :: _, [], _, _, _, h1, _, _, _, _ => by simp at h1
  | _ :: _, _ :: _, _ :: _, [], _, _, _, _, h2, _, _ => by simp at h2
theorem eqv_of_c {u v : Value} (h : eqc u v = true) : eqv u v = true := by
  unfold eqv
  split
  · simp [eqc] at h
  · exact h
theorem sameV_sound {own : Nat → Prop} {a b : SV} {u v : Value} {x : Option R} {r : R} (ha : DV φ H own a u) (hb : DV φ H own b v) (h : sameV a b x = some r) : x = some r ∧ eqv u v = true := by
  unfold sameV at h
  split at h
  · split at h
    · cases ha with
      | agg l x1 hx vx =>
      cases hb with
      | agg m x2 hy vy =>
      exact sameL_sound (by simpa using hx.symm) (fun i s u e1 e2 => vx i s u e1 (by simpa using e2)) (by simpa using hy.symm) (fun i s u e1 e2 => vy i s u e1 (by simpa using e2)) h
    · cases h
  · obtain ⟨h1, h2⟩ := sameC_sound ha hb h
    exact ⟨h1, eqv_of_c h2⟩
theorem reS_sound {φ' : Phi} {S' : SHeap} {H' : Heap} (I : RI P A base φ S H rsS rsE) (he : Ext φ H (Own φ S) φ' H' (Own φ' S')) (hS : Sim φ' S' H') {j : Nat} : ∀ {l : List SRec} {i : Nat} {k : List Nat → Option R} {r : R}, l = rsS.drop i → reS P S' A j l i k = some r →
    ∃ oks, k oks = some r ∧ ∀ m ∈ oks, ∃ b t pv v, rsE[m]? = some b ∧ b.ld = some (t, pv) ∧ loadE P H' t pv = some v ∧ eqv b.v v = true
  | [], i, k, r, _, h => ⟨[], h, fun m hm => by cases hm⟩
  | a :: l, i, k, r, hl, h => by
    have ha : rsS[i]? = some a := by
      have : (rsS.drop i)[0]? = some a := by rw [← hl]; rfl
      rwa [List.getElem?_drop, Nat.add_zero] at this
    have hl' : l = rsS.drop (i + 1) := by rw [← List.drop_drop, ← hl]; rfl
    unfold reS at h
    split at h
    · rename_i t p hre
      split at h
      · exact reS_sound I he hS hl' h
      · have hi : i < rsE.length := by rw [← I.len]; exact (List.getElem?_eq_some_iff.1 ha).1
        obtain ⟨pv, q1, q2, q3⟩ := I.res i a _ t p ha (List.getElem?_eq_getElem hi) hre
        obtain ⟨s, u, g1, g2, g3⟩ := loadS_sound hS (q2.mono he) h
        obtain ⟨h5, h6⟩ := sameV_sound (q3.mono he) g2 g3
        obtain ⟨oks, h7, h8⟩ := reS_sound I he hS hl' h5
        refine ⟨i :: oks, h7, fun m hm => ?_⟩
        rcases List.mem_cons.1 hm with rfl | hm
        · exact ⟨_, t, pv, u, List.getElem?_eq_getElem hi, q1, g1, h6⟩
        · exact h8 m hm
    · exact reS_sound I he hS hl' h
theorem reL_sound {φ' : Phi} {S' : SHeap} {H' : Heap} (I : RI P A base φ S H rsS rsE) (he : Ext φ H (Own φ S) φ' H' (Own φ' S')) (hS : Sim φ' S' H') {j : Nat} {o : Oper} {k : List Nat → Option R} {r : R} (h : reL P S' A j o rsS k = some r) :
    ∃ oks, k oks = some r ∧ ∀ m ∈ oks, ∃ b t pv v, rsE[m]? = some b ∧ b.ld = some (t, pv) ∧ loadE P H' t pv = some v ∧ eqv b.v v = true := by
  unfold reL at h
  split at h
  · exact ⟨[], h, fun m hm => by cases hm⟩
  · exact reS_sound I he hS (by simp) h

theorem drawS_sound {cx : CallS R} (hT : TabRight P L O T) (hcx : CxRight P L O cx) {ops : Array Oper} (htr : TransOk A ops.size) : ∀ {l : List Oper} {i : Nat} {fr : List SV} {S : SHeap} {rsS : List SRec} {k : SSt → Option R} {r : R} {φ : Phi} {H : Heap} {rsE : List Rec} {fv : List Value},
    drawS P L T cx ops A l i ⟨fr, S⟩ rsS k = some r → RI P A base φ S H rsS rsE → DVL φ H (Own φ S) fr fv → rsS.length = i → i + l.length = ops.size →
    ∃ φ' fr' S' fv' H' rsS' rsE', k ⟨fr', S'⟩ = some r ∧ RI P A base φ' S' H' rsS' rsE' ∧ Step φ S H φ' S' H' ∧ DVL φ' H' (Own φ' S') fr' fv' ∧ looseS A rsS' = true ∧
      ∃ N, drawRun P L (callE P L O N) ops A l i ⟨fv, H⟩ rsE = some (⟨fv', H'⟩, rsE')
  | [], i, fr, S, rsS, k, r, φ, H, rsE, fv, h, I, hf, hi, hn => by
    unfold drawS at h
    split at h
    · rename_i hl
      exact ⟨φ, fr, S, fv, H, rsS, rsE, h, I, Step.refl I.sim, hf, hl, 0, rfl⟩
    · cases h
  | o :: l, i, fr, S, rsS, k, r, φ, H, rsE, fv, h, I, hf, hi, hn => by
    unfold drawS at h
    have hilt : i < ops.size := by simp at hn; omega
    have hlen : rsS.length ≤ ops.size := by omega
    -- one record more
    have step : ∀ {φ1 : Phi} {fr1 : List SV} {S1 : SHeap} {H1 : Heap} {fv1 : List Value} {a : SRec} {b : Rec}, RI P A base φ1 S1 H1 (rsS ++ [a]) (rsE ++ [b]) → Step φ S H φ1 S1 H1 → DVL φ1 H1 (Own φ1 S1) fr1 fv1 →
        (∃ N, recOf P L (callE P L O N) ops A i o ⟨fv, H⟩ rsE = some b) → b.h1 = H1 → fv1 = putE fv o.dst b.v → drawS P L T cx ops A l (i + 1) ⟨fr1, S1⟩ (rsS ++ [a]) k = some r →
        ∃ φ' fr' S' fv' H' rsS' rsE', k ⟨fr', S'⟩ = some r ∧ RI P A base φ' S' H' rsS' rsE' ∧ Step φ S H φ' S' H' ∧ DVL φ' H' (Own φ' S') fr' fv' ∧ looseS A rsS' = true ∧
          ∃ N, drawRun P L (callE P L O N) ops A (o :: l) i ⟨fv, H⟩ rsE = some (⟨fv', H'⟩, rsE') := by
      rintro φ1 fr1 S1 H1 fv1 a b I1 hst hf1 ⟨N, hrec⟩ rfl rfl hd
      obtain ⟨φ', fr', S', fv', H', rsS', rsE', g1, g2, g3, g4, g5, M, g6⟩ := drawS_sound hT hcx htr hd I1 hf1 (by simp [hi]) (by simp at hn ⊢; omega)
      refine ⟨φ', fr', S', fv', H', rsS', rsE', g1, g2, hst.trans g3, g4, g5, max N M, ?_⟩
      rw [drawRun, recOf_mono (callE_mono (Nat.le_max_left N M)) hrec]
      exact drawRun_mono (callE_mono (Nat.le_max_right N M)) g6
    obtain ⟨fr1, hf1, ⟨hw, h⟩ | ⟨hw, h⟩⟩ := askS_sound hf h
    · have hρ : ∀ x s, opndS fr1 x = some s → ∃ v, opnd fv x = some v ∧ DV φ H (Own φ S) s v := fun x s hs => opndS_sound hf1 hs
      split at h
      · -- memory is left alone
        rename_i hk
        obtain ⟨s, S1, v, H1, ⟨N, ho⟩, _, hpure, hd, _⟩ := opS_sound (L := L) hT hcx I.sim hρ (fun hp => absurd hk hp) h
        obtain ⟨rfl, hv⟩ := hpure hk
        exact step (a := ⟨.pure, S1.size, S1.size, none, none, .any, none, [], []⟩) (b := ⟨.pure, v, H, H, none⟩) (I.same rfl rfl rfl rfl trivial (by simp) (fun h => by cases h) (fun _ _ h => by cases h) rfl (fun h => by cases h)) (Step.refl I.sim) (putS_DVL hf1 o.dst hv) ⟨N, by unfold recOf; simp only [hw, hk, ho]⟩ rfl rfl hd
      · -- a load
        rename_i hk
        split at h
        · rename_i t a hop
          split at h
          · rename_i p hp
            obtain ⟨pv, hpv, hdp⟩ := hρ a p hp
            obtain ⟨he, hs⟩ := I.veil htr hilt hlen
            obtain ⟨s, u, g1, g2, g3⟩ := loadS_sound hs (hdp.mono he) h
            -- in full view it is the same
            have hfull : loadE P H t pv = some u ∧ DV φ H (Own φ S) s u := by
              have hmono : loadE P H t pv = some u := by
                unfold loadE at g1 ⊢
                split at g1
                · split at g1
                  · rename_i hu hinf
                    have hc : ∀ b off n cs, getCells (Ev.veil H (getB A i) rsE) b off n = some cs → getCells H b off n = some cs := by
                      intro b off n cs hg
                      unfold getCells at hg ⊢
                      cases hb : (Ev.veil H (getB A i) rsE).get b with
                      | none => simp [hb] at hg
                      | some q => rw [(veil_get_inv hb).1]; simpa [hb] using hg
                    split at g1
                    · rename_i ha
                      try simp only [ha]
                      simp only [Option.map_eq_some_iff] at g1 ⊢
                      obtain ⟨cs, c1, c2⟩ := g1
                      exact ⟨cs, hc _ _ _ _ c1, c2⟩
                    · rename_i ha
                      try simp only [ha]
                      split at g1
                      · rename_i hcs
                        rw [hc _ _ _ _ hcs]; exact g1
                      · cases g1
                  · cases g1
                · cases g1
              refine ⟨hmono, DV.mono (φ := φ.shut S) (φ' := φ) (H' := H) (own' := Own φ S) ⟨fun _ _ h => h, fun x c h1 h2 => ⟨(veil_get_inv h1).1, fun h3 => h2 (.inl h3)⟩, fun id x c' _ h => ⟨c', h, rfl⟩⟩ g2⟩
            have hlate : ∀ y, tgtOf p = some y → ∀ (j : Nat) (c : SRec) (d : Rec), rsS[j]? = some c → rsE[j]? = some d → y < c.n0 → calm rsS j rsS.length y → ∃ t' p', some (t, pv) = some (t', p') ∧ loadE P (Ev.veil d.h0 (getB A rsS.length) (rsE.take j)) t' p' = some u := by
              intro y hy j c d hc hd hlt hcalm
              obtain ⟨x0, o', e1, e2⟩ := tgtOf_DV hdp hy
              obtain ⟨B, hB⟩ := loadS_live h hy
              obtain ⟨hB1, hB2⟩ := veilS_get_inv hB
              have hv := I.seen htr hilt hlen hB1 hB2 e2
              have hbk := I.back j c d hc hd y B x0 hB1 e2 hlt hcalm
              refine ⟨t, pv, rfl, ?_⟩
              subst e1
              rw [loadE_block (H := Ev.veil H (getB A i) rsE) ?_]
              · exact g1
              · rcases I.sim.blk y B hB1 with ⟨q1, _⟩ | ⟨x1, cc, q1, q2, _⟩
                · rw [e2] at q1; cases q1
                · rw [e2] at q1; cases q1
                  rw [veil_get_of q2 hv, hi]
                  exact veil_get_of (by rw [hbk]; exact q2) (maskOf_take hv)
            exact step (a := ⟨.load, S.size, S.size, tgtOf p, none, s, some (t, p), [], []⟩) (b := ⟨.load, u, H, H, some (t, pv)⟩) (I.same rfl rfl rfl rfl trivial (by simp) (fun _ => ⟨t, pv, rfl, fun hself => eqv_self hfull.2 hself, fun y hy => by
                obtain ⟨x0, o, e1, e2⟩ := tgtOf_DV hdp hy
                refine ⟨x0, o, e1, e2, ?_, hfull.1⟩
                obtain ⟨B, hB⟩ := loadS_live h hy
                exact ⟨B, (veilS_get_inv hB).1⟩⟩) (fun t' p' h => by cases h; exact ⟨pv, rfl, hdp, hfull.2⟩) rfl (fun _ y hy j c d hc hd hlt hcalm => hlate y hy j c d hc hd hlt hcalm)) (Step.refl I.sim) (putS_DVL hf1 o.dst hfull.2) ⟨0, by unfold recOf; simp only [hw, hk, hop, hpv, g1]⟩ rfl rfl g3
          · cases h
        · cases h
      · -- a quiet one
        rename_i hk
        split at h
        · obtain ⟨he, hs⟩ := I.veil htr hilt hlen
          obtain ⟨s, S1, v, H1, ⟨N, ho⟩, ⟨φ1, hst, hv⟩, _, hd, _⟩ := opS_sound (L := L) hT hcx hs (fun x s hs => by
            obtain ⟨v, h1, h2⟩ := hρ x s hs
            exact ⟨v, h1, h2.mono he⟩) (fun _ e => absurd e (maskS_ne _ _ _ _)) h
          have hfr := opE_fr (callE_fr N) ho
          obtain ⟨u1, u2, u3, u4, u5⟩ := I.unveil hst hfr
          have hext := u1.ext I.sim
          refine step (φ1 := ⟨φ1.m, φ.ban⟩) (S1 := unveilS S S1) (H1 := Ev.unveil H H1) (a := ⟨.quiet, S.size, S1.size, none, none, .any, none, [], []⟩) (b := ⟨.quiet, v, H, Ev.unveil H H1, none⟩) ?_ u1 (putS_DVL (hf1.mono hext) o.dst (u2 s v hv)) ⟨N, by unfold recOf; simp only [hw, hk, ho]⟩ rfl rfl hd
          refine I.add u1 rfl rfl rfl rfl trivial (fun id B x h1 h2 => ?_) (fun h => by cases h) (fun y B x0 h1 h2 _ => ⟨⟨B, by rw [u5 y (SHeap.get_lt h1)]; exact h1⟩, u3 x0 (I.sim.lt y x0 h2)⟩) (fun _ _ h => by cases h) (fun _ h => by cases h) (fun h => by cases h)
          rcases u4 id B x h1 h2 with ⟨g1, g2, g3⟩ | ⟨g1, g2, g3, g4⟩
          · exact .inl ⟨g1, ⟨B, g2⟩, g3⟩
          · exact .inr ⟨g1, g2, .inl ⟨g3, g4⟩⟩
        · -- an append that may go on in place
          rename_i hq
          obtain ⟨he, hs⟩ := I.hide (maskS (getB A i) rsS 0)
          obtain ⟨s, S1, v, H1, ⟨N, ho⟩, ⟨φ1, hst, hv⟩, _, hd, _⟩ := opS_sound (L := L) hT hcx hs (fun x s hs => by
            obtain ⟨v, h1, h2⟩ := hρ x s hs
            exact ⟨v, h1, h2.mono he⟩) (fun _ e => absurd e (maskS_ne _ _ _ _)) h
          obtain ⟨u1, u2, u3⟩ := I.unhide (fun id h => I.hidS _ h) hst
          have hext := u1.ext I.sim
          have happ : isAppend o = true := by
            unfold quietS at hq
            split at hq
            · rename_i c hc
              split at hq
              · rename_i hb _
                unfold isAppend; rw [hc]; simp only [hb]
              · cases hq
            · cases hq
          have hrec : ∃ b : Rec, (∃ N, recOf P L (callE P L O N) ops A i o ⟨fv, H⟩ rsE = some b) ∧ b.h0 = H ∧ b.h1 = H1 ∧ b.v = v ∧ kindOk .loud b.kind := by
            cases hv2 : opE P (callE P L O N) (opnd fv) o (Ev.veil H (getB A i) rsE) with
            | none => exact ⟨⟨.loud, v, H, H1, none⟩, ⟨N, by unfold recOf; simp only [hw, hk, hv2, happ, if_true, ho]⟩, rfl, rfl, rfl, trivial⟩
            | some q =>
              obtain ⟨v2, H2⟩ := q
              have := opE_append_unveil happ hv2
              rw [ho] at this
              cases this
              exact ⟨⟨.quiet, v, H, Ev.unveil H H2, none⟩, ⟨N, by unfold recOf; simp only [hw, hk, hv2]⟩, rfl, rfl, rfl, trivial⟩
          obtain ⟨b, hrec, hb0, hb1, hbv, hbk⟩ := hrec
          refine step (φ1 := ⟨φ1.m, φ.ban⟩) (S1 := unveilS S S1) (H1 := H1) (a := ⟨.loud, S.size, S1.size, none, none, .any, none, [], []⟩) (b := b) ?_ u1 (putS_DVL (hf1.mono hext) o.dst (u2 s v hv)) hrec hb1 (by rw [hbv]) hd
          refine I.add u1 hb0 hb1 rfl rfl hbk (fun id B x h1 h2 => ?_) (fun h => by cases h) (fun y B x0 h1 h2 h3 => by have h4 := h3 rfl; simp [farB, hidden] at h4) (fun _ _ h => by cases h) (fun _ h => by cases h) (fun h => by cases h)
          rcases u3 id B x h1 h2 with h | ⟨g1, g2, g3 | ⟨id0, B0, g3, g4, g5⟩⟩
          · exact .inl h
          · exact .inr ⟨g1, g2, .inl g3⟩
          · refine .inr ⟨g1, g2, .inr ?_⟩
            rcases I.corr id0 B0 x g3 g5 with g6 | ⟨j, m, ⟨r0, q1, q2, q3⟩, g7, g8⟩
            · exact .inl g6
            · refine .inr ⟨m, g7, ?_⟩
              have hij : getB A i j = true := by
                cases hp : getB A i j with
                | true => rfl
                | false =>
                  have := (hidden_maskS (getB A i) rsS 0 id0).2 ⟨j, r0, q1, by rw [Nat.zero_add]; exact hp, q2, q3⟩
                  rw [this] at g4; cases g4
              have hjn : j < ops.size := by
                have := (List.getElem?_eq_some_iff.1 q1).1
                omega
              rw [hi]
              rcases g8 with rfl | g8
              · exact hij
              · exact htr i j m hilt hjn hij g8
      · -- a loud one
        rename_i hk
        obtain ⟨he, hs⟩ := I.hide (farO S fr1 o ++ maskS (getB A i) rsS 0)
        obtain ⟨s, S1, v, H1, ⟨N, ho⟩, ⟨φ1, hst, hv⟩, _, hd, hstore⟩ := opS_sound (L := L) hT hcx hs (fun x s hs => by
          obtain ⟨v, h1, h2⟩ := hρ x s hs
          exact ⟨v, h1, h2.mono he⟩) (fun _ e => by
          have e : (farO S fr1 o ++ maskS (getB A i) rsS 0) ++ S.hid = [] := e
          simp only [List.append_eq_nil_iff] at e
          exact (maskS_ne _ _ _ [] (by rw [List.append_nil]; exact e.1.2)).elim) h
        obtain ⟨u1, u2, u3⟩ := I.unhide (fun id h => hidden_app (farO_hid h) (I.hidS _ h)) hst
        have hext := u1.ext I.sim
        obtain ⟨oks, hd, hoks⟩ := reL_sound I hext u1.sim hd
        refine step (φ1 := ⟨φ1.m, φ.ban⟩) (S1 := unveilS S S1) (H1 := H1) (b := ⟨.loud, v, H, H1, none⟩) ?_ u1 (putS_DVL (hf1.mono hext) o.dst (u2 s v hv)) ⟨N, by unfold recOf; simp only [hw, hk, ho]⟩ rfl rfl hd
        refine I.add u1 rfl rfl rfl rfl trivial (fun id B x h1 h2 => ?_) (fun h => by cases h) (fun y B x0 h1 h2 h3 => ?_) (fun _ _ h => by cases h) hoks (fun h => by cases h)
        · rcases u3 id B x h1 h2 with h | ⟨g1, g2, g3 | ⟨id0, B0, g3, g4, g5⟩⟩
          · exact .inl h
          · exact .inr ⟨g1, g2, .inl g3⟩
          · refine .inr ⟨g1, g2, .inr ?_⟩
            rcases I.corr id0 B0 x g3 g5 with g6 | ⟨j, m, ⟨r0, q1, q2, q3⟩, g7, g8⟩
            · exact .inl g6
            · refine .inr ⟨m, g7, ?_⟩
              have hij : getB A i j = true := by
                cases hp : getB A i j with
                | true => rfl
                | false =>
                  have := (hidden_maskS (getB A i) rsS 0 id0).2 ⟨j, r0, q1, by rw [Nat.zero_add]; exact hp, q2, q3⟩
                  rw [(hidden_app' g4).2] at this; cases this
              have hjn : j < ops.size := by
                have := (List.getElem?_eq_some_iff.1 q1).1
                omega
              rw [hi]
              rcases g8 with rfl | g8
              · exact hij
              · exact htr i j m hilt hjn hij g8
        · have hfar := h3 rfl
          unfold farB at hfar
          rw [Bool.or_eq_true] at hfar
          rcases hfar with hfar | hfar
          case inr =>
            have hnone : (hideM S (farO S fr1 o ++ maskS (getB A i) rsS 0)).get y = none := by
              cases hg : (hideM S (farO S fr1 o ++ maskS (getB A i) rsS 0)).get y with
              | none => rfl
              | some C =>
                have := (hidden_app' (hide_get_inv hg).2).1
                have hfar : hidden (farO S fr1 o) y = true := hfar
                rw [hfar] at this; cases this
            have hno : ¬ OwnW (φ.shut S) (hideM S (farO S fr1 o ++ maskS (getB A i) rsS 0)) x0 := by
              rintro ⟨id', B', _, q2, q3⟩
              have := I.sim.inj id' y B' B x0 (hide_get_inv q2).1 h1 q3 h2
              subst this
              rw [q2] at hnone; cases hnone
            have hroot := hst.sroot y (show y < S.size from SHeap.get_lt h1) (.inr hnone)
            refine ⟨⟨B, ?_⟩, hst.keep x0 (I.sim.lt y x0 h2) hno⟩
            obtain ⟨r1, r2⟩ := SHeap.get_root h1
            exact (SHeap.get_of (S := unveilS S S1) (show y < S1.size from Nat.lt_of_lt_of_le (SHeap.get_lt h1) hst.ssize) r2).trans (hroot.trans r1)
          obtain ⟨z, hz, hzy⟩ : ∃ z, (match o.op with | .store _ a _ => (match opndS fr1 a with | some p => tgtOf p | none => none) | _ => none) = some z ∧ z ≠ y := by
            split at hfar
            · rename_i z hz; exact ⟨z, hz, by simpa using hfar⟩
            · cases hfar
          have hz2 : (match o.op with | .store _ a _ => (match opndS fr1 a with | some p => tgtOf p | none => none) | _ => none) = some z := hz
          clear hz
          split at hz2
          · rename_i t a x hop
            split at hz2
            · rename_i p hp
              obtain ⟨id, row, w, col, B', xz, rfl, rfl, g3, ⟨B0, g4⟩, g5⟩ := hstore t a x p hop hp
              have hz3 : id = z := Option.some.inj hz2
              subst hz3
              have g6 := (hide_get_inv g4).1
              have hne : x0 ≠ xz := by
                rintro rfl
                exact hzy (I.sim.inj id y B0 B x0 g6 h1 g3 h2)
              refine ⟨⟨B, ?_⟩, g5 x0 hne⟩
              obtain ⟨r1, r2⟩ := SHeap.get_root h1
              refine (SHeap.get_of (S := unveilS S ((hideM S (farO S fr1 o ++ maskS (getB A i) rsS 0)).put id (some B'))) (show y < S.size from SHeap.get_lt h1) r2).trans ?_
              show ((hideM S (farO S fr1 o ++ maskS (getB A i) rsS 0)).put id (some B')).root.get y = some B
              rw [SHeap.root_put, if_neg (Ne.symm hzy)]
              exact r1
            · cases hz2
          · cases hz2
    · exact step (a := ⟨.pure, S.size, S.size, none, none, .any, none, [], []⟩) (b := ⟨.pure, undef, H, H, none⟩) (I.same rfl rfl rfl rfl trivial (by simp) (fun h => by cases h) (fun _ _ h => by cases h) rfl (fun h => by cases h)) (Step.refl I.sim) (putS_DVL hf1 o.dst DV.undef) ⟨0, by unfold recOf; simp only [hw]⟩ rfl rfl h
end
end
end Go.Proofs.Ytoiijpphfckdjaa.Ev
