/-
  Operations over partly unknown values are the evaluator's: parts, comparisons, slices, places.
-/
import Derived.Test.YtoiijpphfckdjaaF3
namespace Go.Proofs.Ytoiijpphfckdjaa.Ev
noncomputable section
open Go
set_option linter.unusedVariables false
set_option linter.unusedSimpArgs false

section
variable {R : Type} {P : Program} {φ : Phi} {H : Heap} {own : Nat → Prop} {S : SHeap}

theorem partS_sound {t : TypeId} {l : List SV} {off : Nat} {s : SV} {x' : Array Value} (hd : DV φ H own (.agg l) (.agg x')) (h : partS P t l off = some s) : ∃ v, partE P t x' off = some v ∧ DV φ H own s v := by
  cases hd with
  | agg _ _ hx vx =>
    unfold partS at h
    unfold partE
    split at h
    · rename_i d i hu hi
      simp only [hu, hi]
      split at h
      · rename_i ha
        simp only [ha]
        split at h
        · rename_i hl
          have hl := of_decide_eq_true hl
          cases h
          rw [if_pos (by rw [← hx]; exact hl)]
          refine ⟨_, rfl, .agg _ _ (by simp; omega) (fun j s v h1 h2 => ?_)⟩
          rw [List.getElem?_take] at h1
          split at h1
          · rename_i hj
            rw [List.getElem?_drop] at h1
            rw [Array.getElem?_extract, if_pos (by omega)] at h2
            exact vx _ s v h1 h2
          · cases h1
        · cases h
      · rename_i ha
        simp only [ha]
        have hlt := (List.getElem?_eq_some_iff.1 h).1
        have hv : x'[off]? = some x'[off] := Array.getElem?_eq_getElem (by rw [← hx]; exact hlt)
        exact ⟨_, hv, vx off s _ h hv⟩
    · cases h

theorem eqS_sound : ∀ (d : Nat) (t : TypeId) (x y : SV) (v w : Value) (b : Bool), DV φ H own x v → DV φ H own y w → eqS P d t x y = some b → eqT P d t v w = some b
  | 0, _, _, _, _, _, _, _, _, h => by cases h
  | d + 1, t, x, y, v, w, b, hx, hy, h => by
    unfold eqS at h
    unfold eqT
    split at h
    · rename_i hu; cases hx; cases hy; simp only [hu]; exact h
    · rename_i hu; cases hx; cases hy; simp only [hu]; exact h
    · rename_i fs xs ys hu
      cases hx with
      | agg _ x' hx vx =>
        cases hy with
        | agg _ y' hy vy =>
          simp only [hu]
          split at h
          · cases h
          · rename_i hs
            rw [if_neg hs]
            generalize fs.toList = l at h ⊢
            induction l generalizing b with
            | nil => exact h
            | cons f l ih =>
              simp only [List.foldr] at h ⊢
              split at h
              · rename_i hf
                rw [if_pos hf]
                split at h
                · rename_i a c h1 h2
                  obtain ⟨v1, g1, g2⟩ := partS_sound (.agg _ _ hx vx) h1
                  obtain ⟨v2, g3, g4⟩ := partS_sound (.agg _ _ hy vy) h2
                  simp only [g1, g3]
                  split at h
                  · rename_i u w h3 h4
                    cases h
                    rw [eqS_sound d _ _ _ _ _ _ g2 g4 h3, ih _ h4]
                  · cases h
                · cases h
              · rename_i hf
                rw [if_neg hf]
                exact ih _ h
    · rename_i len elem xs ys hu
      cases hx with
      | agg _ x' hx vx =>
        cases hy with
        | agg _ y' hy vy =>
          simp only [hu]
          split at h
          · rename_i i hi
            simp only [hi]
            generalize List.range len = l at h ⊢
            induction l generalizing b with
            | nil => exact h
            | cons j l ih =>
              simp only [List.foldr] at h ⊢
              split at h
              · rename_i a c h1 h2
                obtain ⟨v1, g1, g2⟩ := partS_sound (.agg _ _ hx vx) h1
                obtain ⟨v2, g3, g4⟩ := partS_sound (.agg _ _ hy vy) h2
                simp only [g1, g3]
                split at h
                · rename_i u w h3 h4
                  cases h
                  rw [eqS_sound d _ _ _ _ _ _ g2 g4 h3, ih _ h4]
                · cases h
              · cases h
          · cases h
    · cases h

theorem ofVal_sound {v : Value} {s : SV} (h : ofVal v = some s) : DV φ H own s v := by
  unfold ofVal at h
  split at h <;> first | (cases h; done) | (cases h; constructor)

theorem nilS_sound {s : SV} {v : Value} {b : Bool} (hv : DV φ H own s v) (h : nilS s = some b) : isNil v = some b := by
  unfold nilS at h
  split at h <;> first | (cases h; done) | (cases h; cases hv <;> simp_all [isNil] <;> omega)
theorem refS_sound {d : TypeDesc} {x y : SV} {v w : Value} (hx : DV φ H own x v) (hy : DV φ H own y w) (h : refS d x y = true) : refD d v w = true := by
  unfold refS at h
  split at h <;> first | (cases h; done) | (cases hx <;> cases hy <;> rfl)

theorem both_s {R : Type} {x y : Option R} {r : R} (h : both x y = some r) : x = some r ∧ y = some r := by
  unfold both at h
  split at h
  · rename_i e; exact ⟨h, e ▸ h⟩
  · cases h
theorem both_same {R : Type} (x : Option R) : both x x = x := by simp [both]
theorem nil_bin {t : TypeId} {d : TypeDesc} {v w : Value} {a c : Bool} (hu : P.underlying t = some d) (g1 : isNil v = some a) (g2 : isNil w = some c) (g3 : refD d v w = true) :
    binE P .eql t v w = some (.bool (a && c)) ∧ binE P .neq t v w = some (.bool (!(a && c))) := by
  have he : equalE P t v w = some (a && c) := by
    unfold equalE
    split
    · simp [isNil] at g1
    · simp [isNil] at g1
    · simp only [hu, g1, g2, g3, if_true]
  constructor
  · unfold binE
    split
    · simp [isNil] at g1
    · simp [he]
  · unfold binE
    split
    · simp [isNil] at g1
    · simp [he]
theorem binS_sound {op : BinOp} {t : TypeId} {x y : SV} {v w : Value} {k : SV → Option R} {r : R} (hx : DV φ H own x v) (hy : DV φ H own y w) (h : binS P op t x y k = some r) :
    ∃ s u, binE P op t v w = some u ∧ DV φ H own s u ∧ k s = some r := by
  unfold binS at h
  split at h
  · rename_i k1 a k2 c
    cases hx; cases hy
    split at h
    · split at h
      · rename_i hk
        split at h
        · cases h
        · rename_i hc
          have hc := of_decide_eq_false hc
          exact ⟨_, _, by simp [binE, hk, arithE, hc], .i _ _, h⟩
      · cases h
    · split at h
      · rename_i hk
        split at h
        · cases h
        · rename_i hc
          have hc := of_decide_eq_false hc
          exact ⟨_, _, by simp [binE, hk, arithE, hc], .i _ _, h⟩
      · cases h
    · split at h
      · cases h
      · rename_i hc
        have hc := of_decide_eq_false hc
        exact ⟨_, _, by simp [binE, shiftE, hc], .i _ _, h⟩
    · split at h
      · cases h
      · rename_i hc
        have hc := of_decide_eq_false hc
        exact ⟨_, _, by simp [binE, shiftE, hc], .i _ _, h⟩
    · rename_i h1 h2 h3 h4
      split at h
      · rename_i hk
        split at h
        · rename_i u hu
          split at h
          · rename_i s hs
            refine ⟨s, u, ?_, ofVal_sound hs, h⟩
            unfold binE
            simp only
            cases op <;> first | (exact absurd rfl h3) | (exact absurd rfl h4) | (simp only [if_pos hk]; exact hu)
          · cases h
        · cases h
      · cases h
  · rename_i xs ys
    have ho : ∀ c, eqS P 10000 t (.agg xs) (.agg ys) = some c → P.eqGuardType P.depth t = false → equalE P t v w = some c := by
      intro c hc hg
      have he := eqT_E (eqS_sound _ _ _ _ _ _ _ hx hy hc)
      cases hx; cases hy
      unfold equalE
      simp only [hg]
      exact he
    have hb : ∀ o c, equalE P t v w = some c → o = BinOp.eql ∨ o = BinOp.neq → binE P o t v w = some (.bool (if o = BinOp.eql then c else !c)) := by
      intro o c hc hq
      clear ho
      cases hx; cases hy
      rcases hq with rfl | rfl
      · simp [binE, hc]
      · simp [binE, hc]
    split at h
    · cases h
    · rename_i hg
      split at h
      · split at h
        · rename_i c hc
          exact ⟨_, _, hb _ _ (ho c hc hg) (.inl rfl), .b _, by simpa using h⟩
        · cases h
      · split at h
        · rename_i c hc
          exact ⟨_, _, hb _ _ (ho c hc hg) (.inr rfl), .b _, by simpa using h⟩
        · cases h
      · cases h
  · rename_i a c
    cases hx; cases hy
    split at h
    · rename_i hu
      split at h
      · exact ⟨_, _, by simp [binE, equalE, hu], .b _, h⟩
      · exact ⟨_, _, by simp [binE, equalE, hu], .b _, h⟩
      · cases h
    · cases h
  · rename_i c
    split at h
    · rename_i e hu
      cases hy
      have key : ∃ b : Bool, isNil v = some b ∧ refD (.slice e) v (.slice none 0 0) = true ∧ (c.len ≠ 0 → b = false) := by
        cases hx
        · rename_i hc; exact ⟨true, rfl, rfl, fun h => absurd hc h⟩
        · exact ⟨false, rfl, rfl, fun _ => rfl⟩
      obtain ⟨b, h1, h2, h3⟩ := key
      obtain ⟨e1, e2⟩ := nil_bin (P := P) hu h1 rfl h2
      rw [Bool.and_true] at e1 e2
      split at h
      · split at h
        · obtain ⟨g1, g2⟩ := both_s h
          exact ⟨_, _, e1, .b _, by cases b <;> assumption⟩
        · rename_i hc
          rw [h3 (of_decide_eq_false hc)] at e1
          exact ⟨_, _, e1, .b _, h⟩
      · split at h
        · obtain ⟨g1, g2⟩ := both_s h
          exact ⟨_, _, e2, .b _, by cases b <;> assumption⟩
        · rename_i hc
          rw [h3 (of_decide_eq_false hc)] at e2
          exact ⟨_, _, e2, .b _, h⟩
      · cases h
    · cases h
  · split at h
    · rename_i d a c hu ha hc
      split at h
      · rename_i hr
        have g1 := nilS_sound hx ha
        have g2 := nilS_sound hy hc
        have g3 := refS_sound hx hy hr
        have he : equalE P t v w = some (a && c) := by
          unfold equalE
          split
          · simp [isNil] at g1
          · simp [isNil] at g1
          · simp only [hu, g1, g2, g3, if_true]
        have hb : ∀ o, o = BinOp.eql ∨ o = BinOp.neq → binE P o t v w = some (.bool (if o = BinOp.eql then (a && c) else !(a && c))) := by
          intro o ho
          unfold binE
          split
          · simp [isNil] at g1
          · rcases ho with rfl | rfl
            · simp [he]
            · simp [he]
        split at h
        · exact ⟨_, _, hb _ (.inl rfl), .b _, by simpa using h⟩
        · exact ⟨_, _, hb _ (.inr rfl), .b _, by simpa using h⟩
        · cases h
      · cases h
    · cases h

theorem unS_sound {op : UnOp} {x s : SV} {v : Value} (hx : DV φ H own x v) (h : unS op x = some s) : ∃ u, unE op v = some u ∧ DV φ H own s u := by
  unfold unS at h
  split at h
  · cases h; cases hx; exact ⟨_, rfl, .i _ _⟩
  · cases hx
    split at h
    · rename_i u hu; exact ⟨u, hu, ofVal_sound h⟩
    · cases h
  · cases h; cases hx; exact ⟨_, rfl, .b _⟩
  · cases h

theorem convS_sound {src dst : TypeId} {x s : SV} {v : Value} (hx : DV φ H own x v) (h : convS P src dst x = some s) : ∃ u, convE P src dst v = some u ∧ DV φ H own s u := by
  unfold convS at h
  split at h
  · rename_i h1 h2
    cases h; cases hx
    exact ⟨_, by simp only [convE, h1, h2], .i _ _⟩
  · cases h

/-! ### Slices -/
theorem DV.deep_inv {c : Cont} {v : Value} (h : DV φ H own (.deep c) v) : (c.len = 0 ∧ v = .slice none 0 0) ∨ ∃ x o sp cap blk, v = .slice (some ⟨x, o, sp⟩) c.len cap ∧ (sp = none ∨ sp = some c.w) ∧ c.len ≤ cap ∧ H.get x = some blk ∧ ¬ own x ∧ Rgn φ H own c blk.cells o := by
  cases h with
  | deep _ x o sp cap blk hs hc hb ho hl hcells => exact .inr ⟨x, o, sp, cap, blk, rfl, hs, hc, hb, ho, hl, hcells⟩
  | deepNil _ hc => exact .inl ⟨hc, rfl⟩
theorem lenS_sound (hS : Sim φ S H) {x : SV} {v : Value} {n : Nat} (hv : DV φ H (Own φ S) x v) (h : lenS S x = some n) : ∃ a cap, v = .slice a n cap ∧ n ≤ cap ∧ (a = none → n = 0 ∧ cap = 0) := by
  unfold lenS at h
  split at h
  · cases h; cases hv; exact ⟨none, 0, rfl, Nat.le_refl _, fun _ => ⟨rfl, rfl⟩⟩
  · rename_i id w ex
    split at h
    · rename_i c hB
      split at h
      · rename_i hw
        simp only [Bool.and_eq_true, beq_iff_eq, decide_eq_true_eq] at hw
        cases h
        cases hv with
        | buf _ _ _ x n sp hx hn hs =>
          rcases hS.blk _ _ hB with ⟨h0, _⟩ | ⟨y, d, h1, h2, _, h4⟩
          · rw [hx] at h0; cases h0
          · rw [hx] at h1; cases h1
            have e1 := hn d (Heap.get_root h2).1
            have e2 := h4.1
            have : n = c.len := by
              rw [e1, hw.1] at e2
              exact Nat.eq_of_mul_eq_mul_right (by omega) e2
            subst this
            exact ⟨_, _, rfl, Nat.le_refl _, fun h => by cases h⟩
        | bufNil _ _ hx =>
          rcases hS.blk _ _ hB with ⟨_, h0⟩ | ⟨y, d, h1, _⟩
          · have : c.len = 0 := h0
            rw [this]; exact ⟨none, 0, rfl, Nat.le_refl _, fun _ => ⟨rfl, rfl⟩⟩
          · rw [hx] at h1; cases h1
      · cases h
    · rename_i l hB
      split at h
      · rename_i hw
        simp only [Bool.and_eq_true, beq_iff_eq, decide_eq_true_eq] at hw
        cases h
        cases hv with
        | buf _ _ _ x n sp hx hn hs =>
          rcases hS.blk _ _ hB with ⟨h0, _⟩ | ⟨y, d, h1, h2, _, h4⟩
          · rw [hx] at h0; cases h0
          · rw [hx] at h1; cases h1
            have e1 := hn d (Heap.get_root h2).1
            have e2 : l.length = d.cells.length := h4.1
            have : n = l.length / w := by
              rw [e2, e1, Nat.mul_div_cancel _ hw.2.1]
            subst this
            exact ⟨_, _, rfl, Nat.le_refl _, fun h => by cases h⟩
        | bufNil _ _ hx => simp at hw
      · cases h
    · rename_i j v e rows hB
      split at h
      · rename_i hw
        rw [beq_iff_eq] at hw; subst hw
        cases h
        cases hv with
        | buf _ _ _ x n sp hx hn hs =>
          rcases hS.blk _ _ hB with ⟨h0, _⟩ | ⟨y, d, h1, h2, _, h4⟩
          · rw [hx] at h0; cases h0
          · rw [hx] at h1; cases h1
            have e1 := hn d (Heap.get_root h2).1
            have e2 : d.cells.length = rows.length := h4.1
            have : n = rows.length := by omega
            subst this
            exact ⟨_, _, rfl, Nat.le_refl _, fun h => by cases h⟩
        | bufNil _ _ hx =>
          rcases hS.blk _ _ hB with ⟨_, h0⟩ | ⟨y, d, h1, _⟩
          · have : rows.length = 0 := h0
            rw [this]; exact ⟨none, 0, rfl, Nat.le_refl _, fun _ => ⟨rfl, rfl⟩⟩
          · rw [hx] at h1; cases h1
      · cases h
    · cases h
  · cases h
    cases hv with
    | sl _ _ _ _ x o sp cap _ _ _ hc => exact ⟨_, _, rfl, hc, fun h => by cases h⟩
    | slNil => exact ⟨none, 0, rfl, Nat.le_refl _, fun _ => ⟨rfl, rfl⟩⟩
  · cases h
    cases hv with
    | deep c x o sp cap blk _ hc => exact ⟨_, _, rfl, hc, fun h => by cases h⟩
    | deepNil c hc => rw [hc]; exact ⟨none, 0, rfl, Nat.le_refl _, fun _ => ⟨rfl, rfl⟩⟩
  · cases h

theorem Cont.cut_w (c : Cont) (l n : Nat) : (c.cut l n).w = c.w := by cases c <;> rfl
theorem Cont.cut_len (c : Cont) {l n : Nat} (h : l + n ≤ c.len) : (c.cut l n).len = n := by
  cases c with
  | ints k xs => simp only [Cont.len] at h; simp only [Cont.cut, Cont.len, List.length_take, List.length_drop]; omega
  | recs s xs => simp only [Cont.len] at h; simp only [Cont.cut, Cont.len, List.length_take, List.length_drop]; omega
theorem Cont.cut_row (c : Cont) {l n r : Nat} (h : r < n) : (c.cut l n).row r = c.row (l + r) := by
  cases c with
  | ints k xs => simp only [Cont.cut, Cont.row, List.getD_eq_getElem?_getD, List.getElem?_take, if_pos h, List.getElem?_drop]
  | recs s xs => simp only [Cont.cut, Cont.row, List.getD_eq_getElem?_getD, List.getElem?_take, if_pos h, List.getElem?_drop]

theorem Rgn.cut {c : Cont} {cells : List Value} {o : Nat} (h : Rgn φ H own c cells o) {l n : Nat} (hl : l + n ≤ c.len) : Rgn φ H own (c.cut l n) cells (o + l * c.w) := by
  refine ⟨?_, fun r hr j s hs v hv => ?_⟩
  · rw [c.cut_len hl, c.cut_w, Nat.add_assoc, ← Nat.add_mul]
    exact Nat.le_trans (Nat.add_le_add_left (Nat.mul_le_mul_right _ hl) _) h.1
  · rw [c.cut_len hl] at hr
    rw [c.cut_row hr] at hs
    rw [c.cut_w] at hv
    exact h.2 (l + r) (by omega) j s hs v (by rw [Nat.add_mul, ← Nat.add_assoc]; exact hv)

def OV (φ : Phi) (H : Heap) (own : Nat → Prop) : Option SV → Option Value → Prop
  | none, none => True
  | some s, some v => DV φ H own s v
  | _, _ => False

theorem boundS_sound {x : Option SV} {x' : Option Value} {d n : Nat} {b : Bool} (hx : OV φ H own x x') (h : boundS x d = some (b, n)) (hp : bposS x = true) (hi : Nat) (hn : n ≤ hi) (hd : x = none → d ≤ hi) : boundE x' d hi = some n := by
  unfold boundS at h
  split at h
  · cases h
    cases x' with
    | none => rfl
    | some _ => exact hx.elim
  · rename_i k i
    cases h
    cases x' with
    | none => exact hx.elim
    | some v =>
      cases hx
      simp only [bposS, decide_eq_true_eq] at hp
      simp only [boundE]
      rw [if_pos ⟨hp, by omega⟩]
  · cases h

theorem sliceS_sound (hS : Sim φ S H) {t : TypeId} {x : SV} {v : Value} {lo hi : Option SV} {lo' hi' : Option Value} {k : SV → Option R} {r : R} (hv : DV φ H (Own φ S) x v) (hlo : OV φ H (Own φ S) lo lo') (hhi : OV φ H (Own φ S) hi hi')
    (h : sliceS P S t x lo hi k = some r) : ∃ s u, sliceE P t v lo' hi' = some u ∧ DV φ H (Own φ S) s u ∧ k s = some r := by
  unfold sliceS at h
  split at h
  · rename_i e hu
    split at h
    · rename_i i len hie hlen
      split at h
      · rename_i b1 hh b2 ll h1 h2
        split at h
        · rename_i hc
          simp only [Bool.and_eq_true, decide_eq_true_eq] at hc
          obtain ⟨p1, p2, hle, hhl⟩ := hc
          obtain ⟨a, cap, rfl, hcap, hnil⟩ := lenS_sound hS hv hlen
          have e1 := boundS_sound hhi h1 p1 cap (Nat.le_trans hhl hcap) (fun _ => hcap)
          have e2 := boundS_sound hlo h2 p2 hh hle (fun _ => Nat.zero_le _)
          have hE : ∀ u, (match a with
              | none => some (Value.slice none (hh - ll) (cap - ll))
              | some ⟨b, off, none⟩ => some (.slice (some ⟨b, if cap = ll then off else off + ll * i.size, none⟩) (hh - ll) (cap - ll))
              | some ⟨b, off, some e⟩ => if e = i.size then some (.slice (some ⟨b, if cap = ll then off else off + ll * i.size, some e⟩) (hh - ll) (cap - ll)) else none) = some u →
              sliceE P t (.slice a len cap) lo' hi' = some u := by
            intro u hu'
            unfold sliceE
            simp only [hu, hie, e1, e2]
            exact hu'
          split at h
          · cases hv
            refine ⟨.nils, .slice none 0 0, hE _ ?_, .nils, h⟩
            have : hh - ll = 0 := by omega
            simp only [this, Nat.zero_sub]
          · rename_i id w ex
            split at h
            · rename_i hw
              rw [beq_iff_eq] at hw; subst hw
              cases hv with
              | buf _ _ _ x n sp hx hn hs =>
                have hDV : ∀ sp', (sp' = none ∨ sp' = some i.size) → DV φ H (Own φ S) (.sl id ll (hh - ll) i.size) (.slice (some ⟨x, if len = ll then 0 else 0 + ll * i.size, sp'⟩) (hh - ll) (len - ll)) := by
                  intro sp' hs'
                  refine .sl id ll (hh - ll) i.size x _ sp' _ hx ?_ hs' (by omega) (fun c hc => ?_)
                  · split
                    · left; omega
                    · right; omega
                  · have := hn c hc
                    have h5 : ll * i.size + (hh - ll) * i.size ≤ len * i.size := by
                      rw [← Nat.add_mul]; exact Nat.mul_le_mul_right _ (by omega)
                    split
                    · rename_i hl
                      have : hh - ll = 0 := by omega
                      rw [this] at h5 ⊢
                      omega
                    · omega
                rcases hs with rfl | ⟨_, rfl, _⟩
                · exact ⟨_, _, hE _ rfl, hDV _ (.inl rfl), h⟩
                · exact ⟨_, _, hE _ (by exact if_pos rfl), hDV _ (.inr rfl), h⟩
              | bufNil _ _ hx =>
                refine ⟨_, _, hE _ rfl, ?_, h⟩
                have e3 : ll = 0 := by omega
                have e4 : hh - ll = 0 := by omega
                rw [e4, e3]; exact .slNil id _ hx
            · cases h
          · rename_i id off len' w
            simp only [lenS, Option.some.injEq] at hlen
            subst hlen
            split at h
            · rename_i hw
              rw [beq_iff_eq] at hw; subst hw
              cases hv with
              | sl _ _ _ _ x o sp _ hx ho hs hc hin =>
                have hDV : ∀ sp', (sp' = none ∨ sp' = some i.size) → DV φ H (Own φ S) (.sl id (off + ll) (hh - ll) i.size) (.slice (some ⟨x, if cap = ll then o else o + ll * i.size, sp'⟩) (hh - ll) (cap - ll)) := by
                  intro sp' hs'
                  refine .sl id (off + ll) (hh - ll) i.size x _ sp' _ hx ?_ hs' (by omega) (fun c hc' => ?_)
                  · split
                    · left; omega
                    · rcases ho with ho | ho
                      · left; omega
                      · right; rw [ho, Nat.add_mul]
                  · obtain ⟨h5, h6⟩ := hin c hc'
                    have h7 : ll * i.size + (hh - ll) * i.size ≤ len' * i.size := by
                      rw [← Nat.add_mul]; exact Nat.mul_le_mul_right _ (by omega)
                    rw [Nat.add_mul]
                    split
                    · rename_i hl
                      have : hh - ll = 0 := by omega
                      rw [this] at h7 ⊢
                      omega
                    · omega
                rcases hs with rfl | rfl
                · exact ⟨_, _, hE _ rfl, hDV _ (.inl rfl), h⟩
                · exact ⟨_, _, hE _ (by exact if_pos rfl), hDV _ (.inr rfl), h⟩
              | slNil _ _ hx =>
                refine ⟨_, _, hE _ rfl, ?_, h⟩
                have e3 : ll = 0 := by omega
                have e4 : hh - ll = 0 := by omega
                rw [e4, e3]; exact .slNil id _ hx
            · cases h
          · rename_i c
            simp only [lenS, Option.some.injEq] at hlen
            subst hlen
            split at h
            · rename_i hw
              rw [beq_iff_eq] at hw
              rcases hv.deep_inv with ⟨hc, hv0⟩ | ⟨x, o, sp, cap', blk, hv0, hs, hc, hb, ho, hr⟩
              rotate_left
              · cases hv0
                have hl := hr.1
                have hcut := hr.cut (l := ll) (n := hh - ll) (by omega)
                have hcl := c.cut_len (l := ll) (n := hh - ll) (by omega)
                have hDV : ∀ sp', (sp' = none ∨ sp' = some i.size) → DV φ H (Own φ S) (.deep (c.cut ll (hh - ll))) (.slice (some ⟨x, if cap = ll then o else o + ll * i.size, sp'⟩) (hh - ll) (cap - ll)) := by
                  intro sp' hs'
                  have hs2 : sp' = none ∨ sp' = some (c.cut ll (hh - ll)).w := by rw [c.cut_w, hw]; exact hs'
                  split
                  · rename_i hl'
                    have h0 : hh - ll = 0 := by omega
                    have := DV.deep (φ := φ) (H := H) (own := Own φ S) (c.cut ll (hh - ll)) x o sp' (cap - ll) blk hs2 (by rw [hcl]; omega) hb ho (by rw [hcl, h0]; omega) (fun r hr' => by rw [hcl, h0] at hr'; omega)
                    rwa [hcl] at this
                  · have := DV.deep (φ := φ) (H := H) (own := Own φ S) (c.cut ll (hh - ll)) x (o + ll * c.w) sp' (cap - ll) blk hs2 (by rw [hcl]; omega) hb ho hcut.1 hcut.2
                    rw [hcl, hw] at this
                    exact this
                rcases hs with rfl | rfl
                · exact ⟨_, _, hE _ rfl, hDV _ (.inl rfl), h⟩
                · refine ⟨_, _, hE _ (by exact if_pos hw), ?_, h⟩
                  rw [hw]
                  exact hDV _ (.inr rfl)
              · injection hv0 with g1 g2 g3
                subst g1
                refine ⟨.deep (c.cut ll (hh - ll)), .slice none 0 0, hE _ ?_, ?_, h⟩
                · have e4 : hh - ll = 0 := by omega
                  have e5 : cap - ll = 0 := by omega
                  simp only [e4, e5]
                · refine .deepNil _ ?_
                  rw [c.cut_len (by omega)]; omega
            · cases h
          · cases h
        · cases h
      · cases h
    · cases h
  · rename_i n e hu
    split at h
    · rename_i id row w col i hi
      cases lo' with
      | some _ => exact hlo.elim
      | none =>
        cases hi' with
        | some _ => exact hhi.elim
        | none =>
          split at h
          · rename_i c hB
            split at h
            · rename_i hc
              simp only [Bool.and_eq_true, beq_iff_eq] at hc
              obtain ⟨⟨⟨hw, hn⟩, rfl⟩, rfl⟩ := hc
              cases hv with
              | ptr _ _ _ _ x hx =>
                rcases hS.blk _ _ hB with ⟨h0, _⟩ | ⟨y, d, h1, h2, _, h4⟩
                · rw [hx] at h0; cases h0
                · rw [hx] at h1; cases h1
                  have h5 := h4.1
                  refine ⟨_, .slice (some ⟨x, 0, none⟩) n n, ?_, .buf id c.w true x n none hx (fun d' hd' => ?_) (.inl rfl), h⟩
                  · unfold sliceE
                    simp only [hu, hi, boundE, Nat.zero_mul, Nat.add_zero, Nat.sub_zero]
                    split <;> rfl
                  · rw [(Heap.get_root h2).1] at hd'; cases hd'
                    rw [h5, hn]
            · cases h
          · cases h
    · cases h
  · cases h

/-! ### Places -/
theorem fieldAddrS_sound {s : TypeId} {x u : SV} {v : Value} {f : Nat} (hx : DV φ H own x v) (h : fieldAddrS P s x f = some u) : ∃ w, fieldAddrE P s v f = some w ∧ DV φ H own u w := by
  unfold fieldAddrS at h
  split at h
  · rename_i fs hu
    split at h
    · rename_i fd hf
      split at h
      · rename_i i hi
        split at h
        · cases h
        · rename_i hz
          have hz : ¬ i.size = 0 := by simpa using hz
          split at h
          · cases h; cases hx with
            | ptr id row w col x hx =>
              refine ⟨_, by simp only [fieldAddrE, hu, hf, hi, if_neg hz, Addr.add_eq]; rfl, ?_⟩
              rw [Nat.add_assoc]; exact .ptr _ _ _ _ _ hx
          · cases h; cases hx with
            | dp c row col x o blk hb ho hl hc =>
              refine ⟨_, by simp only [fieldAddrE, hu, hf, hi, if_neg hz, Addr.add_eq]; rfl, ?_⟩
              rw [Nat.add_assoc]; exact .dp _ _ _ _ _ _ hb ho hl hc
          · cases h
      · cases h
    · cases h
  · cases h

theorem fieldS_sound {s : TypeId} {x u : SV} {v : Value} {f : Nat} (hx : DV φ H own x v) (h : fieldS P s x f = some u) : ∃ w, fieldE P s v f = some w ∧ DV φ H own u w := by
  unfold fieldS at h
  split at h
  · rename_i fs hu
    split at h
    · rename_i fd cs hf
      cases hx with
      | agg _ x' hx vx =>
        obtain ⟨w, h1, h2⟩ := partS_sound (.agg _ _ hx vx) h
        exact ⟨w, by simp only [fieldE, hu, hf]; exact h1, h2⟩
    · cases h
  · cases h

theorem caseN_sound {n : Nat} {i : Int} {k : Nat → Option R} {r : R} : ∀ (m : Nat), m ≤ n → caseN n i k m = some r → ∃ j : Nat, j < n ∧ i = (j : Int) ∧ k j = some r
  | 0, _, h => by cases h
  | m + 1, hm, h => by
    unfold caseN at h
    split at h
    · rename_i hc
      have hc := of_decide_eq_true hc
      exact ⟨n - (m + 1), by omega, hc, h⟩
    · exact caseN_sound m (by omega) h

theorem indexAddrS_sound (hS : Sim φ S H) {t : TypeId} {x ix : SV} {v iv : Value} {k : SV → Option R} {r : R} (hx : DV φ H (Own φ S) x v) (hi : DV φ H (Own φ S) ix iv) (h : indexAddrS P S t x ix k = some r) :
    ∃ s u, indexAddrE P t v iv = some u ∧ DV φ H (Own φ S) s u ∧ k s = some r := by
  unfold indexAddrS at h
  split at h
  · rename_i kk i
    cases hi
    split at h
    · rename_i len e id row w col hu
      cases hx with
      | ptr _ _ _ _ x hx =>
        split at h
        · rename_i ie l hie hB
          split at h
          · split at h
            · rename_i hc
              have hc := of_decide_eq_true hc
              refine ⟨_, _, ?_, .ptr id i.toNat ie.size (row * w + col) x hx, h⟩
              simp only [indexAddrE, hu, hie]
              rw [if_pos hc, Addr.add_eq, Nat.add_comm]
            · cases h
          · obtain ⟨j, hj, rfl, hk⟩ := caseN_sound len (Nat.le_refl _) h
            refine ⟨_, _, ?_, .ptr id row w (col + j * ie.size) x hx, hk⟩
            simp only [indexAddrE, hu, hie]
            rw [if_pos ⟨by omega, by omega⟩, Addr.add_eq, Int.toNat_natCast, Nat.add_assoc]
        · rename_i ie c hie hB
          split at h
          · rename_i hc
            simp only [Bool.and_eq_true, beq_iff_eq] at hc
            obtain ⟨⟨⟨hw, hn⟩, rfl⟩, rfl⟩ := hc
            split at h
            · rename_i hc
              have hc := of_decide_eq_true hc
              refine ⟨_, _, ?_, .ptr id i.toNat c.w 0 x hx, h⟩
              simp only [indexAddrE, hu, hie]
              rw [if_pos hc, Addr.add_eq, hw]
              simp
            · cases h
          · cases h
        · cases h
    · rename_i len e c row col hu
      cases hx with
      | dp _ _ _ x o blk hb ho hl hc =>
        split at h
        · rename_i ie hie
          obtain ⟨j, hj, rfl, hk⟩ := caseN_sound len (Nat.le_refl _) h
          refine ⟨_, _, ?_, .dp c row (col + j * ie.size) x o blk hb ho hl hc, hk⟩
          simp only [indexAddrE, hu, hie]
          rw [if_pos ⟨by omega, by omega⟩, Addr.add_eq, Int.toNat_natCast, Nat.add_assoc (o + row * c.w)]
        · cases h
    · rename_i e hu
      split at h
      · rename_i ie len hie hlen
        split at h
        · rename_i hc
          have hc := of_decide_eq_true hc
          have hE : ∀ (b off : Nat) (sp : Option Nat) (cap : Nat), indexAddrE P t (.slice (some ⟨b, off, sp⟩) len cap) (.int kk i) = some (.pointer (some ⟨b, off + i.toNat * ie.size, none⟩)) := by
            intro b off sp cap
            simp only [indexAddrE, hu, hie]
            rw [if_pos hc]
          obtain ⟨a, cap, hvs, _, hnil⟩ := lenS_sound hS hx hlen
          split at h
          · rename_i id w ex
            split at h
            · rename_i hw
              rw [beq_iff_eq] at hw; subst hw
              cases hx with
              | buf _ _ _ x n sp hx hn hs =>
                cases hvs
                refine ⟨_, _, hE _ _ _ _, ?_, h⟩
                have := DV.ptr (φ := φ) (H := H) (own := Own φ S) id i.toNat ie.size 0 x hx
                rwa [Nat.add_zero, ← Nat.zero_add (i.toNat * ie.size)] at this
              | bufNil =>
                cases hvs
                exfalso; have := hnil rfl; omega
            · cases h
          · rename_i id off len' w
            split at h
            · rename_i hw
              rw [beq_iff_eq] at hw; subst hw
              cases hx with
              | sl _ _ _ _ x o sp cap hx ho hs hc' hin =>
                cases hvs
                refine ⟨_, _, hE _ _ _ _, ?_, h⟩
                have := DV.ptr (φ := φ) (H := H) (own := Own φ S) id (off + i.toNat) ie.size 0 x hx
                rcases ho with ho | ho
                · omega
                · rwa [Nat.add_zero, Nat.add_mul, ← ho] at this
              | slNil =>
                cases hvs
                exfalso; have := hnil rfl; omega
            · cases h
          · rename_i c
            split at h
            · rename_i hw
              rw [beq_iff_eq] at hw
              cases hx with
              | deep _ x o sp cap blk hs hc' hb ho hl hcells =>
                cases hvs
                refine ⟨_, _, hE _ _ _ _, ?_, h⟩
                have := DV.dp (φ := φ) (H := H) (own := Own φ S) c i.toNat 0 x o blk hb ho hl hcells
                rwa [Nat.add_zero, hw] at this
              | deepNil _ hc' =>
                cases hvs
                exfalso; have := hnil rfl; omega
            · cases h
          · cases h
        · cases h
      · cases h
    · cases h
  · cases h

theorem partS_cut {t : TypeId} {i : TypeInfo} {cs : List SV} {o : Nat} {s : SV} (hi : P.info? t = some i) (hl : o + i.size ≤ cs.length) (h : partS P t ((cs.drop o).take i.size) 0 = some s) : partS P t cs o = some s := by
  unfold partS at h ⊢
  rw [hi] at h ⊢
  cases hd : P.underlying t with
  | none => rw [hd] at h; cases h
  | some d =>
    rw [hd] at h
    dsimp only at h ⊢
    cases ha : aggD d with
    | true =>
      rw [ha] at h
      dsimp only at h ⊢
      rw [decide_eq_true hl]
      split at h
      · simpa [List.take_take] using h
      · cases h
    | false =>
      rw [ha] at h
      dsimp only at h ⊢
      rw [List.getElem?_take] at h
      split at h
      · simpa using h
      · cases h
theorem indexS_sound {t : TypeId} {x ix : SV} {v iv : Value} {k : SV → Option R} {r : R} (hx : DV φ H own x v) (hi : DV φ H own ix iv) (h : indexS P t x ix k = some r) :
    ∃ s u, indexE P t v iv = some u ∧ DV φ H own s u ∧ k s = some r := by
  unfold indexS at h
  split at h
  · rename_i kk i
    cases hi
    split at h
    · rename_i len e cs hu
      split at h
      · rename_i ie hie
        split at h
        · split at h
          · rename_i hc
            have hc := of_decide_eq_true hc
            obtain ⟨hl, h⟩ := readL_sound h
            split at h
            · rename_i s hs
              cases hx with
              | agg _ x' hx vx =>
                obtain ⟨u, h1, h2⟩ := partS_sound (.agg _ _ hx vx) (partS_cut hie (by omega) hs)
                refine ⟨s, u, ?_, h2, h⟩
                simp only [indexE, hu, hie]
                rw [if_pos hc]
                exact h1
            · cases h
          · cases h
        obtain ⟨j, hj, rfl, hk⟩ := caseN_sound len (Nat.le_refl _) h
        cases hx with
        | agg _ x' hx vx =>
          split at hk
          · rename_i s hs
            obtain ⟨u, h1, h2⟩ := partS_sound (.agg _ _ hx vx) hs
            refine ⟨s, u, ?_, h2, hk⟩
            simp only [indexE, hu, hie]
            rw [if_pos ⟨by omega, by omega⟩, Int.toNat_natCast]
            exact h1
          · cases hk
      · cases h
    · rename_i s hu
      split at h
      · rename_i hb
        have hb := of_decide_eq_true hb
        cases hx
        refine ⟨_, _, ?_, .i _ _, h⟩
        have hg : s.data[i.toNat]? = some (s.data.getD i.toNat 0) := by
          rw [Array.getD_eq_getD_getElem?, Array.getElem?_eq_getElem hb.2]; rfl
        simp only [indexE, hu, hb.1, if_true, hg]
      · cases h
    · cases h
  · cases h
end
end
end Go.Proofs.Ytoiijpphfckdjaa.Ev
