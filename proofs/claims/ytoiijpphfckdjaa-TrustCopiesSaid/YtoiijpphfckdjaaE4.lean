/-
  The evaluator's single operations are the machine's, second part.
-/
import Derived.Test.YtoiijpphfckdjaaE3
namespace Go.Proofs.Ytoiijpphfckdjaa.Ev
open Go
set_option linter.unusedSimpArgs false

section
variable {P : Program} {f : Fm} {H : Heap} {w : World}

theorem unE_sound {op : UnOp} {x x' v : Value} (hx : V f x x') (h : unE op x = some v) : (Op.unary op x').run P w = .ok v w ∧ V f v v := by
  unfold unE at h
  split at h
  · cases hx; cases h; exact ⟨by simp [Op.unary, Op.intArith], .int _ _⟩
  · cases hx; simp [arithE] at h; subst h; exact ⟨by simp [Op.unary, Op.intBits], .int _ _⟩
  · cases hx; cases h; exact ⟨by simp [Op.unary], .bool _⟩
  · cases h

theorem convE_sound {s d : TypeId} {x x' v : Value} (hx : V f x x') (h : convE P s d x = some v) : (convert s d x').run P w = .ok v w ∧ V f v v := by
  unfold convE at h
  split at h
  · rename_i D k k' n hs hd
    cases hx; cases h
    exact ⟨by simp [convert, run_underlying hs, run_underlying hd, Conv.intToInt], .int _ _⟩
  · cases h

theorem fieldAddrE_sound {s : TypeId} {x x' v : Value} {n : Nat} (hx : V f x x') (h : fieldAddrE P s x n = some v) :
    ∃ v', (Instr.fieldAt s x' n).run P w = .ok v' w ∧ V f v v' := by
  unfold fieldAddrE at h
  split at h
  · rename_i fs hs
    split at h
    · rename_i fd a hf
      cases hi : P.info? fd.type with
      | none => simp [hi] at h
      | some i =>
        simp only [hi] at h
        split at h
        · cases h
        · rename_i h0
          cases h
          cases hx with
          | ptr b off l hl =>
            refine ⟨.pointer (some ⟨l.blk, l.off + (off + fd.offset), none⟩), ?_, ?_⟩
            · simp [Instr.fieldAt, run_underlying hs, hf, Instr.sureAddr, fieldPlace, run_sizeOf hi, h0, Addr.add_eq, Nat.add_assoc]
            · rw [Addr.add_eq]; exact .ptr b _ l hl
    · cases h
  · cases h

theorem fieldE_sound {s : TypeId} {x x' v : Value} {n : Nat} (hx : V f x x') (h : fieldE P s x n = some v) :
    ∃ v', (Instr.field s x' n).run P w = .ok v' w ∧ V f v v' := by
  unfold fieldE at h
  split at h
  · rename_i fs hs
    split at h
    · rename_i fd cs hf
      cases hx with
      | agg _ x2 h1 h2 h3 =>
        obtain ⟨v', h4, h5⟩ := partE_sound (w := w) (V.agg _ x2 h1 h2 h3) h
        exact ⟨v', by simp [Instr.field, run_underlying hs, hf, asAgg, h4], h5⟩
    · cases h
  · cases h

theorem indexAddrE_sound {t : TypeId} {x ix x' ix' v : Value} (hx : V f x x') (hi : V f ix ix') (h : indexAddrE P t x ix = some v) :
    ∃ v', (Instr.indexAt t x' ix').run P w = .ok v' w ∧ V f v v' := by
  unfold indexAddrE at h
  split at h
  · rename_i k i
    cases hi
    split at h
    · rename_i len elem a hu
      cases hie : P.info? elem with
      | none => simp [hie] at h
      | some ie =>
        simp only [hie] at h
        split at h
        · rename_i hb
          cases h
          cases hx with
          | ptr b off l hl =>
            refine ⟨.pointer (some ⟨l.blk, l.off + (off + i.toNat * ie.size), none⟩), ?_, ?_⟩
            · simp [Instr.indexAt, asIntOf, run_underlying hu, Instr.sureAddr, hb, run_sizeOf hie, Addr.add_eq, Nat.add_assoc]
            · rw [Addr.add_eq]; exact .ptr b _ l hl
        · cases h
    · rename_i elem bb oo sp len cap hu
      cases hie : P.info? elem with
      | none => simp [hie] at h
      | some ie =>
        simp only [hie] at h
        split at h
        · rename_i hb
          cases h
          cases hx with
          | slX b off _ _ l a hl ha =>
            have ha : a = ⟨l.blk, l.off + oo, none⟩ := by rcases ha with h | h; exact h; omega
            subst ha
            refine ⟨.pointer (some ⟨l.blk, l.off + (oo + i.toNat * ie.size), none⟩), ?_, .ptr bb _ l hl⟩
            simp [Instr.indexAt, asIntOf, run_underlying hu, hb, run_sizeOf hie, Addr.add_eq, Nat.add_assoc]
          | slL b off e _ _ off' c' l hl hn hc hr ho =>
            have : off' = l.off + oo := ho (by omega)
            subst this
            refine ⟨.pointer (some ⟨l.blk, l.off + (oo + i.toNat * ie.size), none⟩), ?_, .ptr bb _ l hl⟩
            simp [Instr.indexAt, asIntOf, run_underlying hu, hb, run_sizeOf hie, Addr.add_eq, Nat.add_assoc]
        · cases h
    · cases h
  · cases h

theorem indexE_sound {t : TypeId} {x ix x' ix' v : Value} (hx : V f x x') (hi : V f ix ix') (h : indexE P t x ix = some v) :
    ∃ v', (Instr.index t x' ix').run P w = .ok v' w ∧ V f v v' := by
  unfold indexE at h
  split at h
  · rename_i k i
    cases hi
    split at h
    · rename_i len elem cs hu
      cases hie : P.info? elem with
      | none => simp [hie] at h
      | some ie =>
        simp only [hie] at h
        split at h
        · rename_i hb
          cases hx with
          | agg _ x2 h1 h2 h3 =>
            obtain ⟨v', h4, h5⟩ := partE_sound (w := w) (V.agg _ x2 h1 h2 h3) h
            exact ⟨v', by simp [Instr.index, asIntOf, run_underlying hu, hb, run_sizeOf hie, h4], h5⟩
        · cases h
    · rename_i s hu
      cases hx
      split at h
      · rename_i h0
        split at h
        · rename_i b hb
          cases h
          have hb' : s[i.toNat]? = some b := hb
          exact ⟨_, by simp [Instr.index, asIntOf, run_underlying hu, h0, hb'], .int _ _⟩
        · cases h
      · cases h
    · cases h
  · cases h

theorem extractE_sound {x x' v : Value} {n : Nat} (hx : V f x x') (h : extractE x n = some v) :
    ∃ v', (Instr.extract x' n).run P w = .ok v' w ∧ V f v v' := by
  unfold extractE at h
  split at h
  · rename_i vs
    cases hx with
    | tuple _ x2 h1 h3 =>
      have hlt : n < x2.size := by rw [← h1]; exact (Array.getElem?_eq_some_iff.1 h).1
      exact ⟨x2[n], by simp [Instr.extract, hlt], h3 n _ _ h (Array.getElem?_eq_getElem hlt)⟩
  · cases h

/-- x[lo:hi]. -/
def VO (f : Fm) : Option Value → Option Value → Prop
  | none, none => True
  | some a, some b => V f a b
  | _, _ => False

theorem boundE_run {x x' : Option Value} {d hi n : Nat} (hx : VO f x x') (h : boundE x d hi = some n) :
    (x' = none ∧ n = d) ∨ (∃ k i, x' = some (.int k i) ∧ 0 ≤ i ∧ i ≤ (hi : Int) ∧ n = i.toNat) := by
  unfold boundE at h
  split at h
  · cases x' with
    | none => cases h; exact .inl ⟨rfl, rfl⟩
    | some v => exact hx.elim
  · rename_i k i
    cases x' with
    | none => exact hx.elim
    | some v =>
      cases hx
      split at h
      · rename_i hb; cases h; exact .inr ⟨k, i, rfl, hb.1, hb.2, rfl⟩
      · cases h
  · cases h

theorem run_bounds {b : Bool} {len cap hi lo : Nat} {lo' hi' : Option Value}
    (h1 : (hi' = none ∧ hi = len) ∨ (∃ k i, hi' = some (.int k i) ∧ 0 ≤ i ∧ i ≤ (cap : Int) ∧ hi = i.toNat))
    (h2 : (lo' = none ∧ lo = 0) ∨ (∃ k i, lo' = some (.int k i) ∧ 0 ≤ i ∧ i ≤ (hi : Int) ∧ lo = i.toNat)) :
    (Instr.sliceBounds b len cap lo' hi' none).run P w = .ok (lo, hi, cap) w := by
  rcases h1 with ⟨rfl, rfl⟩ | ⟨k, i, rfl, h3, h4, rfl⟩ <;> rcases h2 with ⟨rfl, rfl⟩ | ⟨k', i', rfl, h5, h6, rfl⟩
  · simp [Instr.sliceBounds]
  · simp [Instr.sliceBounds, run_sliceBound w k' i' _ _ h5 h6]
  · simp [Instr.sliceBounds, run_sliceBound w k i _ _ h3 h4]
  · simp [Instr.sliceBounds, run_sliceBound w k i _ _ h3 h4, run_sliceBound w k' i' _ _ h5 h6]

theorem bound_le {x' : Option Value} {d hi n : Nat} (h : (x' = none ∧ n = d) ∨ (∃ k i, x' = some (.int k i) ∧ 0 ≤ i ∧ i ≤ (hi : Int) ∧ n = i.toNat)) (hd : d ≤ hi) : n ≤ hi := by
  rcases h with ⟨_, rfl⟩ | ⟨k, i, _, h1, h2, rfl⟩
  · exact hd
  · omega
theorem bound_mono {x' : Option Value} {d hi hi' n : Nat} (h : (x' = none ∧ n = d) ∨ (∃ k i, x' = some (.int k i) ∧ 0 ≤ i ∧ i ≤ (hi : Int) ∧ n = i.toNat)) (hh : hi ≤ hi') :
    (x' = none ∧ n = d) ∨ (∃ k i, x' = some (.int k i) ∧ 0 ≤ i ∧ i ≤ (hi' : Int) ∧ n = i.toNat) := by
  rcases h with h | ⟨k, i, h0, h1, h2, h3⟩
  · exact .inl h
  · exact .inr ⟨k, i, h0, h1, by omega, h3⟩

theorem run_sliceAt {t elem : TypeId} {i : TypeInfo} (hu : P.underlying t = some (.slice elem)) (hi : P.info? elem = some i) {a : Option Addr} {len cap l h : Nat} {lo' hi' : Option Value}
    (hb : (Instr.sliceBounds true len cap lo' hi' none).run P w = .ok (l, h, cap) w) :
    (Instr.sliceAt t (.slice a len cap) lo' hi' none).run P w = .ok (.slice (if cap = l then a else a.map (·.add (l * i.size))) (h - l) (cap - l)) w := by
  simp [Instr.sliceAt, Instr.slice, run_underlying hu, hb, run_sizeOf hi]

theorem sliceE_sound {t : TypeId} {x x' v : Value} {lo lo' hi hi' : Option Value} (hx : V f x x') (hlo : VO f lo lo') (hhi : VO f hi hi') (h : sliceE P t x lo hi = some v) :
    ∃ v', (Instr.sliceAt t x' lo' hi' none).run P w = .ok v' w ∧ V f v v' := by
  unfold sliceE at h
  split at h
  · rename_i elem hu
    split at h
    · rename_i a len cap i hie
      split at h
      · rename_i hh hhe
        split at h
        · rename_i ll hle
          have b1 := boundE_run hhi hhe
          have b2 := boundE_run hlo hle
          have hlh : ll ≤ hh := bound_le b2 (Nat.zero_le _)
          split at h
          · cases h
            cases hx
            have : hh ≤ 0 := bound_le b1 (Nat.le_refl _)
            have e1 : hh = 0 := by omega
            have e2 : ll = 0 := by omega
            subst e1; subst e2
            exact ⟨_, run_sliceAt hu hie (run_bounds b1 b2), by simpa using V.slNil⟩
          · cases h
            cases hx with
            | slX b off _ _ l a hl ha =>
              refine ⟨_, run_sliceAt hu hie (run_bounds b1 b2), ?_⟩
              by_cases e : cap = ll
              · rw [if_pos e, if_pos e]
                refine .slX _ _ _ _ l a hl (ha.imp id fun h => ?_)
                have hhc := bound_le b1 (show _ ≤ cap by omega)
                exact ⟨by omega, by omega⟩
              · rw [if_neg e, if_neg e]
                rcases ha with rfl | h
                rotate_left
                · have hhc := bound_le b1 (show _ ≤ cap by omega)
                  omega
                simp only [Option.map_some, Addr.add_eq, Nat.add_assoc]
                exact .slX _ _ _ _ l _ hl (.inl rfl)
          · rename_i b off e
            split at h
            · rename_i hes
              cases h
              cases hx with
              | slL _ _ _ _ _ off' c' l hl hn hc hr ho =>
                have hhc : hh ≤ cap := bound_le b1 hn
                refine ⟨_, run_sliceAt hu hie (run_bounds (bound_mono b1 hc) b2), ?_⟩
                by_cases e1 : c' = ll
                · have e2 : cap = ll := by omega
                  rw [if_pos e1, if_pos e2]
                  refine .slL b off e _ _ off' _ l hl (by omega) (by omega) ?_ (by omega)
                  have : c' - ll = 0 := by omega
                  rw [this]
                  have := Nat.zero_le (c' * e)
                  omega
                · rw [if_neg e1]
                  have hm : (c' - ll) * e + ll * i.size = c' * e := by
                    rw [← hes, ← Nat.add_mul]; congr 1; omega
                  by_cases e2 : cap = ll
                  · rw [if_pos e2]
                    simp only [Option.map_some, Addr.add_eq]
                    exact .slL b off e _ _ (off' + ll * i.size) _ l hl (by omega) (by omega) (by omega) (by omega)
                  · rw [if_neg e2]
                    simp only [Option.map_some, Addr.add_eq]
                    refine .slL b _ e _ _ (off' + ll * i.size) _ l hl (by omega) (by omega) (by omega) (fun h0 => ?_)
                    have := ho (by omega)
                    omega
            · cases h
        · cases h
      · cases h
    · cases h
  · rename_i n elem hu
    split at h
    · rename_i bb oo i hie
      split at h
      · rename_i hh hhe
        split at h
        · rename_i ll hle
          have b1 := boundE_run hhi hhe
          have b2 := boundE_run hlo hle
          cases h
          cases hx with
          | ptr _ _ l hl =>
            refine ⟨.slice (some (if n = ll then ⟨l.blk, l.off + oo, none⟩ else (⟨l.blk, l.off + oo, none⟩ : Addr).add (ll * i.size))) (hh - ll) (n - ll), ?_, ?_⟩
            · have := run_bounds (P := P) (w := w) (b := false) b1 b2
              simp [Instr.sliceAt, run_underlying hu, Instr.sureAddr, this, run_sizeOf hie]
            · by_cases e1 : n = ll
              · rw [if_pos e1, if_pos e1]
                exact .slX _ _ _ _ l _ hl (.inl rfl)
              · rw [if_neg e1, if_neg e1, Addr.add_eq, Nat.add_assoc]
                exact .slX _ _ _ _ l _ hl (.inl rfl)
        · cases h
      · cases h
    · cases h
  · cases h
end
end Go.Proofs.Ytoiijpphfckdjaa.Ev
