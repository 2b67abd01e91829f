/-
  Operations over partly unknown values are the evaluator's: the whole.
-/
import Derived.Test.YtoiijpphfckdjaaF6
namespace Go.Proofs.Ytoiijpphfckdjaa.Ev
noncomputable section
open Go
set_option linter.unusedVariables false
set_option linter.unusedSimpArgs false

section
variable {R : Type} {P : Program} {L : List FuncId} {O : Known} {φ : Phi} {H : Heap} {own : Nat → Prop} {S : SHeap}

theorem min2_noneS : ∀ l : List SV, l.foldl min2S none = none
  | [] => rfl
  | _ :: l => min2_noneS l
theorem max2_noneS : ∀ l : List SV, l.foldl max2S none = none
  | [] => rfl
  | _ :: l => max2_noneS l
theorem minS_key : ∀ (l : List SV) (vs : List Value) (k : IntKind) (x : Int) (s : SV), DVL φ H own l vs → l.foldl min2S (some (.i k x)) = some s → ∃ v, vs.foldl min2E (some (.int k x)) = some v ∧ DV φ H own s v
  | [], vs, k, x, s, hd, h => by
    have : vs = [] := by have := hd.1; simpa using this.symm
    subst this
    simp at h; subst h
    exact ⟨_, rfl, .i k x⟩
  | a :: l, vs, k, x, s, hd, h => by
    obtain ⟨v, vs', rfl, h1, h2⟩ := hd.uncons
    rw [List.foldl_cons] at h ⊢
    cases h1 <;> first | (rename_i k' n; exact minS_key l vs' k _ s h2 h) | (simp only [min2S, min2_noneS] at h; cases h)
theorem maxS_key : ∀ (l : List SV) (vs : List Value) (k : IntKind) (x : Int) (s : SV), DVL φ H own l vs → l.foldl max2S (some (.i k x)) = some s → ∃ v, vs.foldl max2E (some (.int k x)) = some v ∧ DV φ H own s v
  | [], vs, k, x, s, hd, h => by
    have : vs = [] := by have := hd.1; simpa using this.symm
    subst this
    simp at h; subst h
    exact ⟨_, rfl, .i k x⟩
  | a :: l, vs, k, x, s, hd, h => by
    obtain ⟨v, vs', rfl, h1, h2⟩ := hd.uncons
    rw [List.foldl_cons] at h ⊢
    cases h1 <;> first | (rename_i k' n; exact maxS_key l vs' k _ s h2 h) | (simp only [max2S, max2_noneS] at h; cases h)
theorem minS_sound {l : List SV} {vs : List Value} {s : SV} (hd : DVL φ H own l vs) (h : minS l = some s) : ∃ v, minE vs = some v ∧ DV φ H own s v := by
  unfold minS at h
  split at h
  · obtain ⟨v, vs', rfl, h1, h2⟩ := hd.uncons
    cases h1
    exact minS_key _ _ _ _ _ h2 h
  · cases h
theorem maxS_sound {l : List SV} {vs : List Value} {s : SV} (hd : DVL φ H own l vs) (h : maxS l = some s) : ∃ v, maxE vs = some v ∧ DV φ H own s v := by
  unfold maxS at h
  split at h
  · obtain ⟨v, vs', rfl, h1, h2⟩ := hd.uncons
    cases h1
    exact maxS_key _ _ _ _ _ h2 h
  · cases h

theorem DVL.nil_inv {vs : List Value} (h : DVL φ H own [] vs) : vs = [] := by have := h.1; simpa using this.symm
theorem DVL.one {s : SV} {vs : List Value} (h : DVL φ H own [s] vs) : ∃ v, vs = [v] ∧ DV φ H own s v := by
  obtain ⟨v, vs', rfl, h1, h2⟩ := h.uncons
  rw [h2.nil_inv]
  exact ⟨v, rfl, h1⟩
theorem DVL.two {s t : SV} {vs : List Value} (h : DVL φ H own [s, t] vs) : ∃ v w, vs = [v, w] ∧ DV φ H own s v ∧ DV φ H own t w := by
  obtain ⟨v, vs', rfl, h1, h2⟩ := h.uncons
  obtain ⟨w, rfl, h3⟩ := h2.one
  exact ⟨v, w, rfl, h1, h3⟩

theorem Got.same (hS : Sim φ S H) {s : SV} {v : Value} (h : DV φ H (Own φ S) s v) : Got φ S H S s H v := ⟨φ, Step.refl hS, h⟩

theorem DV.deref {id w col x : Nat} {n : Int} (h : φ id = some (some x)) : DV φ H own (.ptr id (match w with | 0 => 0 | _ + 1 => n.toNat) w col) (.pointer (some ⟨x, n.toNat * w + col, none⟩)) := by
  cases w with
  | zero => exact .ptr id 0 0 col x h
  | succ w => exact .ptr id n.toNat (w + 1) col x h

/-- Where memory is left alone. -/
def Still (φ : Phi) (S : SHeap) (H : Heap) (S' : SHeap) (s : SV) (v : Value) : Prop := S' = S ∧ DV φ H (Own φ S) s v

theorem builtinS_sound (hS : Sim φ S H) {b : Builtin} {ts : Array TypeId} {args : List SV} {vs : List Value} {k : SV → SHeap → Option R} {r : R} (ha : DVL φ H (Own φ S) args vs) (h : builtinS P S b ts.toList args k = some r) :
    ∃ s S' v H', builtinE P H b ts vs = some (v, H') ∧ Got φ S H S' s H' v ∧ (b ≠ .append → b ≠ .copy → Still φ S H S' s v) ∧ k s S' = some r := by
  unfold builtinS at h
  unfold builtinE
  split at h
  · split at h
    · rename_i t u s x hts
      obtain ⟨v, w, rfl, h1, h2⟩ := ha.two
      obtain ⟨z, S', y, H', g1, g2, g3⟩ := appendS_sound hS h1 h2 h
      exact ⟨z, S', y, H', by simp only [hts]; exact g1, g2, (fun h _ => absurd rfl h), g3⟩
    · cases h
  · split at h
    · rename_i t u d s hts
      obtain ⟨v, w, rfl, h1, h2⟩ := ha.two
      obtain ⟨z, S', y, H', g1, g2, g3⟩ := copyS_sound (u := u) hS h1 h2 h
      exact ⟨z, S', y, H', by simp only [hts]; exact g1, g2, (fun _ h => absurd rfl h), g3⟩
    · cases h
  · split at h
    · rename_i t x hts
      obtain ⟨v, rfl, h1⟩ := ha.one
      split at h
      · rename_i s hs
        simp only [hts]
        unfold lenB at hs
        split at hs
        · rename_i e hu
          split at hs
          · rename_i n hn
            cases hs
            obtain ⟨a, cap, rfl, _⟩ := lenS_sound hS h1 hn
            exact ⟨_, S, _, H, by simp only [hu], .same hS (.i _ _), (fun _ _ => ⟨rfl, .i _ _⟩), h⟩
          · cases hs
        · rename_i n e hu
          cases hs
          refine ⟨_, S, _, H, by simp only [hu], .same hS (.i _ _), (fun _ _ => ⟨rfl, .i _ _⟩), h⟩
        · rename_i hu
          split at hs
          · cases hs; cases h1
            exact ⟨_, S, _, H, by simp only [hu], .same hS (.i _ _), (fun _ _ => ⟨rfl, .i _ _⟩), h⟩
          · cases hs
        · cases hs
      · cases h
    · cases h
  · split at h
    · rename_i s hs
      obtain ⟨v, h1, h2⟩ := minS_sound ha hs
      exact ⟨_, S, v, H, by simp only [h1, Option.map_some], .same hS h2, (fun _ _ => ⟨rfl, h2⟩), h⟩
    · cases h
  · split at h
    · rename_i s hs
      obtain ⟨v, h1, h2⟩ := maxS_sound ha hs
      exact ⟨_, S, v, H, by simp only [h1, Option.map_some], .same hS h2, (fun _ _ => ⟨rfl, h2⟩), h⟩
    · cases h
  · cases h

/-! ### Calls -/

/-- What may not be looked at is old, and not one's own: outside of drawn regions. -/
def NB (φ : Phi) (S : SHeap) (H : Heap) : Prop := ∀ x, φ.ban x → x < H.size ∧ ¬ OwnI φ S x
def NBh (φ : Phi) (S : SHeap) (H : Heap) : Prop := S.hid = [] → NB φ S H
theorem NB.step {φ' : Phi} {S' : SHeap} {H' : Heap} (hn : NB φ S H) (h : Step φ S H φ' S' H') : NB φ' S' H' := fun x hx => by
  rw [h.ban] at hx
  obtain ⟨a, b⟩ := hn x hx
  exact ⟨Nat.lt_of_lt_of_le a h.esize, fun ho => b (h.own x a ho)⟩
theorem NBh.step {φ' : Phi} {S' : SHeap} {H' : Heap} (hn : NBh φ S H) (h : Step φ S H φ' S' H') : NBh φ' S' H' := fun e => (hn (by rw [← h.shid]; exact e)).step h

def TabRight (P : Program) (L : List FuncId) (O : Known) (T : TabS) : Prop :=
  ∀ g args S v S', T g args S = some (true, v, S') → ∀ φ H vs, NBh φ S H → Sim φ S H → DVL φ H (Own φ S) args vs → ∃ N y H', callE P L O N g vs H = some (y, H') ∧ Got φ S H S' v H' y
def CxRight (P : Program) (L : List FuncId) (O : Known) (cx : CallS R) : Prop :=
  ∀ g args S k r, cx g args S k = some r → ∀ φ H vs, NBh φ S H → Sim φ S H → DVL φ H (Own φ S) args vs → ∃ v S' N y H', callE P L O N g vs H = some (y, H') ∧ Got φ S H S' v H' y ∧ k v S' = some r

theorem sameOp_eq {a b : Operand} (h : sameOp a b = true) : a = b := by
  unfold sameOp at h
  split at h
  · rw [beq_iff_eq] at h; rw [h]
  · simp only [Bool.and_eq_true, beq_iff_eq] at h; rw [h.1, h.2]
  · cases h

theorem opS_sound {T : TabS} {cx : CallS R} (hT : TabRight P L O T) (hcx : CxRight P L O cx) (hS : Sim φ S H) {ρ : Operand → Option SV} {ρ' : Operand → Option Value} (hρ : ∀ x s, ρ x = some s → ∃ v, ρ' x = some v ∧ DV φ H (Own φ S) s v)
    {o : Oper} {k : SV → SHeap → Option R} {r : R} (hnb : opKind L o ≠ .pure → NBh φ S H) (h : opS P T cx ρ o S k = some r) : ∃ s S' v H', (∃ N, opE P (callE P L O N) ρ' o H = some (v, H')) ∧ Got φ S H S' s H' v ∧ (opKind L o = .pure → Still φ S H S' s v) ∧ k s S' = some r ∧ (∀ t a x p, o.op = .store t a x → ρ a = some p → ∃ id row w col B' x0, p = .ptr id row w col ∧ S' = S.put id (some B') ∧ φ id = some (some x0) ∧ (∃ B0, S.get id = some B0) ∧ ∀ z, z ≠ x0 → H'.get z = H.get z) := by
  obtain ⟨dst, op, type, pos, after, guard⟩ := o
  unfold opS at h
  cases op <;> simp only at h <;> try (cases h; done)
  case move x =>
    split at h
    · rename_i s hs
      obtain ⟨v, h1, h2⟩ := hρ x s hs
      exact ⟨s, S, v, H, ⟨0, by simp [opE, h1]⟩, .same hS h2, (fun _ => ⟨rfl, h2⟩), h, (fun _ _ _ _ h => by cases h)⟩
    · cases h
  case assign x =>
    split at h
    · rename_i s hs
      obtain ⟨v, h1, h2⟩ := hρ x s hs
      exact ⟨s, S, v, H, ⟨0, by simp [opE, h1]⟩, .same hS h2, (fun _ => ⟨rfl, h2⟩), h, (fun _ _ _ _ h => by cases h)⟩
    · cases h
  case pick c a b =>
    split at h
    · rename_i t hc
      obtain ⟨vc, h1, h2⟩ := hρ c _ hc
      cases h2
      split at h
      · split at h
        · rename_i s hs
          obtain ⟨v, g1, g2⟩ := hρ a s hs
          exact ⟨s, S, v, H, ⟨0, by simp [opE, h1, g1]⟩, .same hS g2, (fun _ => ⟨rfl, g2⟩), h, (fun _ _ _ _ h => by cases h)⟩
        · cases h
      · split at h
        · rename_i s hs
          obtain ⟨v, g1, g2⟩ := hρ b s hs
          exact ⟨s, S, v, H, ⟨0, by simp [opE, h1, g1]⟩, .same hS g2, (fun _ => ⟨rfl, g2⟩), h, (fun _ _ _ _ h => by cases h)⟩
        · cases h
    · cases h
  case alloc e =>
    split at h
    · rename_i z hz
      obtain ⟨i, z0, zc, h1, h2, h3, h4, h5⟩ := zeroS_sound hz
      refine ⟨_, _, _, _, ⟨0, ?_⟩, got_ptr hS (allocB_sound (h5 φ H (Own φ S))), (fun h => by simp [opKind] at h), h, (fun _ _ _ _ h => by cases h)⟩
      simp [opE, h1, h2, h3]
    · cases h
  case box e x =>
    split at h
    · rename_i cs hcs
      rw [Option.bind_eq_some_iff] at hcs
      obtain ⟨s, hs, hc⟩ := hcs
      obtain ⟨v, h1, h2⟩ := hρ x s hs
      obtain ⟨vs, g1, g2⟩ := cellsS_sound h2 hc
      refine ⟨_, _, _, _, ⟨0, ?_⟩, got_ptr hS (B := .cells cs) g2, (fun h => by simp [opKind] at h), h, (fun _ _ _ _ h => by cases h)⟩
      simp [opE, h1, g1]
    · cases h
  case build t ps =>
    split at h
    · rename_i l hl
      obtain ⟨vs, h1, h2⟩ := partsS_sound hρ hl
      split at h
      · rename_i s hs
        obtain ⟨v, g1, g2⟩ := buildS_sound h2 hs
        exact ⟨s, S, v, H, ⟨0, by simp [opE, h1, g1]⟩, .same hS g2, (fun _ => ⟨rfl, g2⟩), h, (fun _ _ _ _ h => by cases h)⟩
      · cases h
    · cases h
  case buildSlice t n ps =>
    split at h
    · rename_i l hl
      obtain ⟨vs, h1, h2⟩ := partsS_sound hρ hl
      obtain ⟨s, S', v, H', g1, g2, g3⟩ := buildSliceS_sound hS h2 h
      exact ⟨s, S', v, H', ⟨0, by simp [opE, h1, g1]⟩, g2, (fun h => by simp [opKind] at h), g3, (fun _ _ _ _ h => by cases h)⟩
    · cases h
  case load t a =>
    split at h
    · rename_i p hp
      obtain ⟨v, h1, h2⟩ := hρ a p hp
      obtain ⟨s, u, g1, g2, g3⟩ := loadS_sound hS h2 h
      exact ⟨s, S, u, H, ⟨0, by simp [opE, h1, g1]⟩, .same hS g2, (fun _ => ⟨rfl, g2⟩), g3, (fun _ _ _ _ h => by cases h)⟩
    · cases h
  case store t a x =>
    split at h
    · rename_i p s hp hs
      obtain ⟨v, h1, h2⟩ := hρ a p hp
      obtain ⟨w, h3, h4⟩ := hρ x s hs
      obtain ⟨S', H', g1, g2, g3, g4⟩ := storeS_sound hS h2 h4 h
      exact ⟨_, S', undef, H', ⟨0, by simp [opE, h1, h3, g1]⟩, ⟨φ, g2, .tup [] #[] rfl (fun i s v h => by simp at h)⟩, (fun h => by simp [opKind] at h), g3, fun t' a' x' p' e1 e2 => by
        cases e1
        rw [hp] at e2; cases e2
        exact g4⟩
    · cases h
  case nilCheck x =>
    split at h
    · rename_i hs
      obtain ⟨v, h1, h2⟩ := hρ x _ hs
      cases h2 with
      | ptr _ _ _ _ y hy => exact ⟨_, S, _, H, ⟨0, by simp only [opE, h1]⟩, .same hS (.ptr _ _ _ _ y hy), (fun _ => ⟨rfl, .ptr _ _ _ _ y hy⟩), h, (fun _ _ _ _ h => by cases h)⟩
    · rename_i hs
      obtain ⟨v, h1, h2⟩ := hρ x _ hs
      cases h2 with
      | dp _ _ _ y o blk a1 a2 a3 a4 => exact ⟨_, S, _, H, ⟨0, by simp only [opE, h1]⟩, .same hS (.dp _ _ _ y o blk a1 a2 a3 a4), (fun _ => ⟨rfl, .dp _ _ _ y o blk a1 a2 a3 a4⟩), h, (fun _ _ _ _ h => by cases h)⟩
    · rename_i hs
      obtain ⟨v, h1, h2⟩ := hρ x _ hs
      split at h
      · rename_i hn
        have hn := of_decide_eq_true hn
        cases h2 with
        | npNil _ _ _ _ h0 => omega
        | np _ _ _ y _ _ hy => exact ⟨_, S, _, H, ⟨0, by simp only [opE, h1]⟩, .same hS (DV.deref hy), (fun _ => ⟨rfl, DV.deref hy⟩), h, (fun _ _ _ _ h => by cases h)⟩
      · cases h
    · rename_i hs
      obtain ⟨v, h1, h2⟩ := hρ x _ hs
      cases h2 with
      | fn _ _ _ x' y' a1 a2 a3 a4 => exact ⟨_, S, _, H, ⟨0, by simp only [opE, h1]⟩, .same hS (.fn _ _ _ x' y' a1 a2 a3 a4), (fun _ => ⟨rfl, .fn _ _ _ x' y' a1 a2 a3 a4⟩), h, (fun _ _ _ _ h => by cases h)⟩
    · cases h
  case binOp op t x y z =>
    split at h
    · rename_i a b ha hb
      obtain ⟨v, h1, h2⟩ := hρ x a ha
      obtain ⟨w, h3, h4⟩ := hρ y b hb
      obtain ⟨s, u, g1, g2, g3⟩ := binS_sound h2 h4 h
      exact ⟨s, S, u, H, ⟨0, by simp [opE, h1, h3, g1]⟩, .same hS g2, (fun _ => ⟨rfl, g2⟩), g3, (fun _ _ _ _ h => by cases h)⟩
    · cases h
  case unOp op t x =>
    split at h
    · rename_i s hs
      rw [Option.bind_eq_some_iff] at hs
      obtain ⟨a, ha, hu⟩ := hs
      obtain ⟨v, h1, h2⟩ := hρ x a ha
      obtain ⟨u, g1, g2⟩ := unS_sound h2 hu
      exact ⟨s, S, u, H, ⟨0, by simp [opE, h1, g1]⟩, .same hS g2, (fun _ => ⟨rfl, g2⟩), h, (fun _ _ _ _ h => by cases h)⟩
    · cases h
  case convert s d x =>
    split at h
    · rename_i s hs
      rw [Option.bind_eq_some_iff] at hs
      obtain ⟨a, ha, hu⟩ := hs
      obtain ⟨v, h1, h2⟩ := hρ x a ha
      obtain ⟨u, g1, g2⟩ := convS_sound h2 hu
      exact ⟨s, S, u, H, ⟨0, by simp [opE, h1, g1]⟩, .same hS g2, (fun _ => ⟨rfl, g2⟩), h, (fun _ _ _ _ h => by cases h)⟩
    · cases h
  case makeFunc fn a b =>
    split at h
    · rename_i f x y hx hy
      obtain ⟨vs, h1, h2⟩ := argsS_sound hρ hx
      obtain ⟨ws, h3, h4⟩ := argsS_sound hρ hy
      refine ⟨_, S, .func (.func f) vs.toArray ws.toArray, H, ⟨0, by simp [opE, h1, h3]⟩, .same hS ?_, (fun _ => ⟨rfl, ?_⟩), h, (fun _ _ _ _ h => by cases h)⟩
      all_goals exact .fn f x y _ _ (by simpa using h2.1) (by simpa using h4.1) (fun i s v g1 g2 => h2.2 i s v g1 (by simpa using g2)) (fun i s v g1 g2 => h4.2 i s v g1 (by simpa using g2))
    · cases h
  case makeSlice t l c =>
    split at h
    · rename_i a hlc ha
      have := sameOp_eq hlc
      subst this
      obtain ⟨v, h1, h2⟩ := hρ l a ha
      obtain ⟨s, S', u, H', g1, g2, g3⟩ := makeS_sound hS h2 h
      exact ⟨s, S', u, H', ⟨0, by simp [opE, h1, g1]⟩, g2, (fun h => by simp [opKind] at h), g3, (fun _ _ _ _ h => by cases h)⟩
    · cases h
  case slice t x lo hi mx =>
    cases mx with
    | some m => cases h
    | none =>
      simp only at h
      split at h
      · rename_i a l u ha hl hu
        obtain ⟨v, h1, h2⟩ := hρ x a ha
        obtain ⟨l', h3, h4⟩ := optS_sound hρ hl
        obtain ⟨u', h5, h6⟩ := optS_sound hρ hu
        obtain ⟨s, w, g1, g2, g3⟩ := sliceS_sound hS h2 h4 h6 h
        exact ⟨s, S, w, H, ⟨0, by simp [opE, h1, h3, h5, g1]⟩, .same hS g2, (fun _ => ⟨rfl, g2⟩), g3, (fun _ _ _ _ h => by cases h)⟩
      · cases h
  case fieldAddr s x f =>
    split at h
    · rename_i u hu
      rw [Option.bind_eq_some_iff] at hu
      obtain ⟨a, ha, hf⟩ := hu
      obtain ⟨v, h1, h2⟩ := hρ x a ha
      obtain ⟨w, g1, g2⟩ := fieldAddrS_sound h2 hf
      exact ⟨u, S, w, H, ⟨0, by simp [opE, h1, g1]⟩, .same hS g2, (fun _ => ⟨rfl, g2⟩), h, (fun _ _ _ _ h => by cases h)⟩
    · cases h
  case field s x f =>
    split at h
    · rename_i u hu
      rw [Option.bind_eq_some_iff] at hu
      obtain ⟨a, ha, hf⟩ := hu
      obtain ⟨v, h1, h2⟩ := hρ x a ha
      obtain ⟨w, g1, g2⟩ := fieldS_sound h2 hf
      exact ⟨u, S, w, H, ⟨0, by simp [opE, h1, g1]⟩, .same hS g2, (fun _ => ⟨rfl, g2⟩), h, (fun _ _ _ _ h => by cases h)⟩
    · cases h
  case indexAddr t x i =>
    split at h
    · rename_i a b ha hb
      obtain ⟨v, h1, h2⟩ := hρ x a ha
      obtain ⟨w, h3, h4⟩ := hρ i b hb
      obtain ⟨s, u, g1, g2, g3⟩ := indexAddrS_sound hS h2 h4 h
      exact ⟨s, S, u, H, ⟨0, by simp [opE, h1, h3, g1]⟩, .same hS g2, (fun _ => ⟨rfl, g2⟩), g3, (fun _ _ _ _ h => by cases h)⟩
    · cases h
  case index t x i =>
    split at h
    · rename_i a b ha hb
      obtain ⟨v, h1, h2⟩ := hρ x a ha
      obtain ⟨w, h3, h4⟩ := hρ i b hb
      obtain ⟨s, u, g1, g2, g3⟩ := indexS_sound h2 h4 h
      exact ⟨s, S, u, H, ⟨0, by simp [opE, h1, h3, g1]⟩, .same hS g2, (fun _ => ⟨rfl, g2⟩), g3, (fun _ _ _ _ h => by cases h)⟩
    · cases h
  case extract x i =>
    split at h
    · rename_i l hl
      obtain ⟨v, h1, h2⟩ := hρ x _ hl
      split at h
      · rename_i s hs
        cases h2 with
        | tup _ x' hx vx =>
          have hlt := (List.getElem?_eq_some_iff.1 hs).1
          have hv : x'[i]? = some x'[i] := Array.getElem?_eq_getElem (by rw [← hx]; exact hlt)
          refine ⟨s, S, x'[i], H, ⟨0, ?_⟩, .same hS (vx i s _ hs hv), (fun _ => ⟨rfl, vx i s _ hs hv⟩), h, (fun _ _ _ _ h => by cases h)⟩
          simp [opE, h1, extractE, hv]
      · cases h
    · cases h
  case call c =>
    split at h
    · rename_i args hargs
      obtain ⟨vs, h1, h2⟩ := argsS_sound hρ hargs
      split at h
      · rename_i b hb
        obtain ⟨s, S', v, H', g1, g2, g3, g4⟩ := builtinS_sound hS h2 h
        refine ⟨s, S', v, H', ⟨0, by simp only [opE, h1, hb]; exact g1⟩, g2, fun hk => g3 ?_ ?_, g4, (fun _ _ _ _ h => by cases h)⟩
        · rintro rfl; simp [opKind, hb] at hk
        · rintro rfl; simp [opKind, hb] at hk
      · rename_i f hf
        split at h
        · rename_i g x y hg
          obtain ⟨vf, h3, h4⟩ := hρ f _ hg
          cases h4 with
          | fn _ _ _ x' y' hx hy vx vy =>
            have hall : DVL φ H (Own φ S) (x ++ args ++ y) (x'.toList ++ vs ++ y'.toList) := by
              refine (DVL.append ⟨by simpa using hx, fun i s v a b => vx i s v a (by simpa using b)⟩ h2).append ⟨by simpa using hy, fun i s v a b => vy i s v a (by simpa using b)⟩
            have hnp : ¬ opKind L ⟨dst, .call c, type, pos, after, guard⟩ = .pure := by
              intro hk
              simp only [opKind, hf] at hk
              repeat' split at hk
              all_goals first | (cases hk; done) | (rename_i h5; exact absurd h5 (by simp_all)) | simp_all
            have hE : ∀ N v H', callE P L O N g (x'.toList ++ vs ++ y'.toList) H = some (v, H') → opE P (callE P L O N) ρ' ⟨dst, .call c, type, pos, after, guard⟩ H = some (v, H') := by
              intro N v H' hc
              simp only [opE, h1, hf, h3]
              exact hc
            split at h
            · rename_i cnd v S' ht
              split at h
              · obtain ⟨N, y, H', g1, g2⟩ := hT _ _ _ _ _ ht φ H _ (hnb hnp) hS hall
                exact ⟨v, S', y, H', ⟨N, hE N y H' g1⟩, g2, (fun h => absurd h hnp), h, (fun _ _ _ _ h => by cases h)⟩
              · cases h
            · obtain ⟨v, S', N, y, H', g1, g2, g3⟩ := hcx _ _ _ _ _ h φ H _ (hnb hnp) hS hall
              exact ⟨v, S', y, H', ⟨N, hE N y H' g1⟩, g2, (fun h => absurd h hnp), g3, (fun _ _ _ _ h => by cases h)⟩
        · cases h
      · cases h
    · cases h
end
end
end Go.Proofs.Ytoiijpphfckdjaa.Ev
