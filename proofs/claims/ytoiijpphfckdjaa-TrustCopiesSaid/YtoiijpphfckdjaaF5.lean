/-
  Operations over partly unknown values are the evaluator's: lists put together, new memory.
-/
import Derived.Test.YtoiijpphfckdjaaF4
namespace Go.Proofs.Ytoiijpphfckdjaa.Ev
noncomputable section
open Go
set_option linter.unusedVariables false
set_option linter.unusedSimpArgs false

section
variable {R : Type} {P : Program} {φ : Phi} {H : Heap} {own : Nat → Prop} {S : SHeap}

theorem BV.of_rgn {c : Cont} {cells : List Value} {o : Nat} (h : Rgn φ H own c cells o) : BV φ H own (.cont c) ((cells.drop o).take (c.len * c.w)) := by
  refine ⟨by simp; have := h.1; omega, fun r hr j s hs v hv => ?_⟩
  rw [List.getElem?_take] at hv
  split at hv
  · rw [List.getElem?_drop] at hv
    exact h.2 r hr j s hs v (by rw [Nat.add_assoc]; exact hv)
  · cases hv

/-- The cells of a list. -/
theorem viewS_sound (hS : Sim φ S H) {x : SV} {v : Value} {c : Cont} (hv : DV φ H (Own φ S) x v) (h : viewS S x = some c) :
    ∃ a cap cs, v = .slice a c.len cap ∧ (∀ m, m ≤ c.len → sliceCells H c.w m v = some (cs.take (m * c.w))) ∧ BV φ H (Own φ S) (.cont c) cs ∧ c.len ≤ cap := by
  have nil : ∀ c : Cont, c.len = 0 → ∀ w : Value, w = .slice none 0 0 → ∃ a cap cs, w = .slice a c.len cap ∧ (∀ m, m ≤ c.len → sliceCells H c.w m w = some (cs.take (m * c.w))) ∧ BV φ H (Own φ S) (.cont c) cs ∧ c.len ≤ cap := by
    rintro c hc w rfl
    refine ⟨none, 0, [], by rw [hc], fun m hm => ?_, ⟨by rw [hc]; simp, fun r hr => by omega⟩, by omega⟩
    have : m = 0 := by omega
    subst this
    simp [sliceCells]
  have reg : ∀ (c : Cont) (x o : Nat) (sp : Option Nat) (cap : Nat) (blk : Blk), H.get x = some blk → Rgn φ H (Own φ S) c blk.cells o → c.len ≤ cap →
      ∃ a cap' cs, Value.slice (some ⟨x, o, sp⟩) c.len cap = .slice a c.len cap' ∧ (∀ m, m ≤ c.len → sliceCells H c.w m (.slice (some ⟨x, o, sp⟩) c.len cap) = some (cs.take (m * c.w))) ∧ BV φ H (Own φ S) (.cont c) cs ∧ c.len ≤ cap' := by
    intro c x o sp cap blk hb hr hc
    refine ⟨_, _, _, rfl, fun m hm => ?_, BV.of_rgn hr, hc⟩
    have h1 := hr.1
    have h2 : m * c.w ≤ c.len * c.w := Nat.mul_le_mul_right _ hm
    simp only [sliceCells]
    rw [getCells_of hb (by omega), List.take_take, Nat.min_eq_left h2]
  unfold viewS at h
  split at h
  · rename_i id w ex
    split at h
    · rename_i d hB
      split at h
      · rename_i hw
        simp only [Bool.and_eq_true, beq_iff_eq, decide_eq_true_eq] at hw
        cases h
        cases hv with
        | buf _ _ _ x n sp hx hn hs =>
          rcases hS.blk _ _ hB with ⟨h0, _⟩ | ⟨y, d, h1, h2, _, h4⟩
          · rw [hx] at h0; cases h0
          · rw [hx] at h1; cases h1
            have e1 := hn d (Heap.get_root h2).1
            have e2 := h4.1
            have : n = c.len := by
              rw [e1, hw.1] at e2
              exact Nat.eq_of_mul_eq_mul_right (by omega) e2
            subst this
            exact reg c x 0 sp _ d h2 (BV.rgn h4) (Nat.le_refl _)
        | bufNil _ _ hx =>
          rcases hS.blk _ _ hB with ⟨_, h0⟩ | ⟨y, d, h1, _⟩
          · exact nil c h0 _ rfl
          · rw [hx] at h1; cases h1
      · cases h
    · cases h
  · rename_i id off len w
    split at h
    · rename_i d hB
      split at h
      · rename_i hw
        simp only [Bool.and_eq_true, beq_iff_eq, decide_eq_true_eq] at hw
        cases h
        cases hv with
        | sl _ _ _ _ x o sp cap hx ho hs hc hin =>
          rcases hS.blk _ _ hB with ⟨h0, _⟩ | ⟨y, b, h1, h2, _, h4⟩
          · rw [hx] at h0; cases h0
          · rw [hx] at h1; cases h1
            obtain ⟨i1, i2⟩ := hin b (Heap.get_root h2).1
            have e2 := h4.1
            have hle : off + len ≤ d.len := by
              rw [e2, hw.1, ← Nat.add_mul] at i2
              exact Nat.le_of_mul_le_mul_right i2 (by omega)
            have hcut := (BV.rgn h4).cut hle
            have hl := d.cut_len hle
            rcases ho with h0 | h0
            · subst h0
              have := reg (d.cut off 0) x o sp cap b h2 ⟨by rw [hl]; omega, fun r hr => by rw [hl] at hr; omega⟩ (by rw [hl]; omega)
              simp only [hl] at this ⊢
              exact this
            · rw [Nat.zero_add, ← hw.1, ← h0] at hcut
              have := reg (d.cut off len) x o sp cap b h2 hcut (by rw [hl]; exact hc)
              simp only [hl] at this ⊢
              exact this
        | slNil _ _ hx =>
          rcases hS.blk _ _ hB with ⟨_, h0⟩ | ⟨y, b, h1, _⟩
          · have h0 : d.len = 0 := h0
            exact nil _ (d.cut_len (by omega)) _ rfl
          · rw [hx] at h1; cases h1
      · cases h
    · cases h
  · cases h
    rcases hv.deep_inv with ⟨hc, rfl⟩ | ⟨x, o, sp, cap, blk, rfl, hs, hc, hb, ho, hr⟩
    · exact nil _ hc _ rfl
    · exact reg _ x o sp cap blk hb hr hc
  · cases h

theorem Cont.app_sound {a b c : Cont} {cs ds : List Value} (h : a.app b = some c) (ha : BV φ H own (.cont a) cs) (hb : BV φ H own (.cont b) ds) : BV φ H own (.cont c) (cs ++ ds) ∧ c.len = a.len + b.len ∧ c.w = a.w ∧ b.w = a.w := by
  have key : ∀ (hl : c.len = a.len + b.len) (hw : c.w = a.w) (hw' : b.w = a.w) (h1 : ∀ r, r < a.len → c.row r = a.row r) (h2 : ∀ r, a.len ≤ r → c.row r = b.row (r - a.len)), BV φ H own (.cont c) (cs ++ ds) ∧ c.len = a.len + b.len ∧ c.w = a.w ∧ b.w = a.w := by
    intro hl hw hw' h1 h2
    refine ⟨⟨?_, fun r hr j s hs v hv => ?_⟩, hl, hw, hw'⟩
    · rw [List.length_append, ha.1, hb.1, hl, hw, hw', Nat.add_mul]
    · rw [hw] at hv
      have hj : j < a.w := by
        have := (List.getElem?_eq_some_iff.1 hs).1
        rwa [Cont.row_len, hw] at this
      rw [List.getElem?_append] at hv
      by_cases hra : r < a.len
      · have := row_in (w := a.w) hra
        rw [if_pos (by rw [ha.1]; omega)] at hv
        rw [h1 r hra] at hs
        exact ha.2 r hra j s hs v hv
      · have hge : a.len * a.w ≤ r * a.w := Nat.mul_le_mul_right _ (by omega)
        rw [if_neg (by rw [ha.1]; omega), ha.1] at hv
        rw [h2 r (by omega)] at hs
        refine hb.2 (r - a.len) (by omega) j s hs v ?_
        rw [hw', Nat.sub_mul, show r * a.w - a.len * a.w + j = r * a.w + j - a.len * a.w by omega]
        exact hv
  unfold Cont.app at h
  split at h
  · split at h
    · rename_i hk; rw [beq_iff_eq] at hk; subst hk
      cases h
      refine key (by simp [Cont.len]) rfl rfl (fun r hr => ?_) (fun r hr => ?_)
      · simp only [Cont.row, List.getD_eq_getElem?_getD]; rw [List.getElem?_append_left hr]
      · simp only [Cont.row, List.getD_eq_getElem?_getD, Cont.len]; rw [List.getElem?_append_right hr]
    · cases h
  · split at h
    · rename_i hk
      cases h
      have := schEq_eq.2 _ _ hk
      subst this
      refine key (by simp [Cont.len]) rfl rfl (fun r hr => ?_) (fun r hr => ?_)
      · simp only [Cont.row, List.getD_eq_getElem?_getD]; rw [List.getElem?_append_left hr]
      · simp only [Cont.row, List.getD_eq_getElem?_getD, Cont.len]; rw [List.getElem?_append_right hr]
    · cases h
  · cases h

theorem zeroCont_len {e : TypeId} {n : Nat} {c : Cont} (h : zeroCont P e n = some c) : c.len = n := by
  unfold zeroCont at h
  split at h
  · split at h
    · split at h
      · cases h; simp [Cont.len]
      · cases h
    · cases h
  · split at h
    · split at h
      · cases h; simp [Cont.len]
      · cases h
    · cases h

theorem BV.rows {B : SBlk} {cs : List Value} (hB : BV φ H own B cs) (hw : 0 < B.w) : cs.length = B.len * B.w := by
  cases B with
  | cells l => simp [SBlk.w] at hw
  | cont c => exact hB.1
  | ptrs j v e rows => simp [SBlk.len, SBlk.w, hB.1]
theorem SBlk.len_empty {B : SBlk} (h : B.empty) : B.len = 0 := by
  cases B with
  | cells l => rfl
  | cont c => exact h
  | ptrs j v e rows => exact h
theorem SBlk.empty_of {B : SBlk} (h : B.len = 0) : B.empty := by
  cases B with
  | cells l => trivial
  | cont c => exact h
  | ptrs j v e rows => exact h
theorem BV.none {B : SBlk} (h : B.len = 0) (hw : 0 < B.w) : BV φ H own B [] := by
  cases B with
  | cells l => simp [SBlk.w] at hw
  | cont c => exact ⟨by show 0 = c.len * c.w; rw [show c.len = 0 from h]; simp, fun r hr => by have : c.len = 0 := h; omega⟩
  | ptrs j v e rows => exact ⟨by show 0 = rows.length; exact h.symm, fun r v hr => by have : rows.length = 0 := h; omega⟩

theorem SBlk.app_sound {a b c : SBlk} {cs ds : List Value} (h : a.app b = some c) (ha : BV φ H own a cs) (hb : BV φ H own b ds) : BV φ H own c (cs ++ ds) ∧ c.len = a.len + b.len ∧ c.w = a.w ∧ b.w = a.w := by
  unfold SBlk.app at h
  split at h
  · split at h
    · rename_i c' hc; cases h; exact Cont.app_sound hc ha hb
    · cases h
  · rename_i j v e rows j' v' e' rows'
    split at h
    · rename_i hk
      simp only [Bool.and_eq_true, beq_iff_eq] at hk
      obtain ⟨rfl, rfl, rfl⟩ := hk
      cases h
      have h1 := ha.1
      have h2 := hb.1
      refine ⟨⟨by rw [List.length_append, List.length_append]; omega, fun r u hr hu => ?_⟩, by simp [SBlk.len], rfl, rfl⟩
      rw [List.getElem?_append] at hu
      rw [List.length_append] at hr
      by_cases hra : r < rows.length
      · rw [if_pos (by omega)] at hu
        have := ha.2 r u hra hu
        rwa [List.getD_eq_getElem?_getD, List.getElem?_append_left hra, ← List.getD_eq_getElem?_getD]
      · rw [if_neg (by omega)] at hu
        have := hb.2 (r - cs.length) u (by omega) hu
        rw [List.getD_eq_getElem?_getD, List.getElem?_append_right (by omega), ← List.getD_eq_getElem?_getD]
        rwa [h1] at this
    · cases h
  · cases h

theorem viewB_sound (hS : Sim φ S H) {x : SV} {v : Value} {B : SBlk} (hv : DV φ H (Own φ S) x v) (h : viewB S x = some B) :
    ∃ a cap cs, v = .slice a B.len cap ∧ (∀ m, m ≤ B.len → sliceCells H B.w m v = some (cs.take (m * B.w))) ∧ BV φ H (Own φ S) B cs ∧ B.len ≤ cap := by
  have old : ∀ (x : SV) (c : Cont), DV φ H (Own φ S) x v → viewS S x = some c → ∃ a cap cs, v = .slice a (SBlk.cont c).len cap ∧ (∀ m, m ≤ (SBlk.cont c).len → sliceCells H (SBlk.cont c).w m v = some (cs.take (m * (SBlk.cont c).w))) ∧ BV φ H (Own φ S) (.cont c) cs ∧ (SBlk.cont c).len ≤ cap := fun x c h1 h2 => viewS_sound hS h1 h2
  unfold viewB at h
  split at h
  · rename_i id w ex
    split at h
    · rename_i j v' e rows hB
      split at h
      · rename_i hw
        rw [beq_iff_eq] at hw; subst hw
        cases h
        cases hv with
        | buf _ _ _ x n sp hx hn hs =>
          rcases hS.blk _ _ hB with ⟨h0, _⟩ | ⟨y, d, h1, h2, _, h4⟩
          · rw [hx] at h0; cases h0
          · rw [hx] at h1; cases h1
            have e1 := hn d (Heap.get_root h2).1
            have e2 := h4.1
            have : n = rows.length := by omega
            subst this
            refine ⟨_, _, d.cells, rfl, fun m hm => ?_, h4, Nat.le_refl _⟩
            have hm : m ≤ rows.length := hm
            simp only [sliceCells, SBlk.w, Nat.mul_one]
            rw [getCells_of h2 (by omega), List.drop_zero]
        | bufNil _ _ hx =>
          rcases hS.blk _ _ hB with ⟨_, h0⟩ | ⟨y, d, h1, _⟩
          · have h0 : rows.length = 0 := h0
            refine ⟨none, 0, [], by simp [SBlk.len, h0], fun m hm => ?_, BV.none h0 (by simp [SBlk.w]), by simp [SBlk.len, h0]⟩
            have hm : m ≤ rows.length := hm
            have : m = 0 := by omega
            subst this
            simp [sliceCells]
          · rw [hx] at h1; cases h1
      · cases h
    · rename_i j row v' e hB
      split at h
      · rename_i hw
        simp only [Bool.and_eq_true, beq_iff_eq] at hw
        obtain ⟨rfl, rfl⟩ := hw
        cases h
        cases hv with
        | buf _ _ _ x n sp hx hn hs =>
          rcases hS.blk _ _ hB with ⟨h0, _⟩ | ⟨y, d, h1, h2, _, h4⟩
          · rw [hx] at h0; cases h0
          · rw [hx] at h1; cases h1
            have e1 := hn d (Heap.get_root h2).1
            obtain ⟨u, us, hd, hu, h5⟩ := DVL.uncons h4
            have hus : us = [] := by have := h5.1; simpa using this.symm
            subst hus
            have hn1 : n = 1 := by rw [hd] at e1; simp at e1; omega
            subst hn1
            refine ⟨_, _, d.cells, rfl, fun m hm => ?_, ⟨by rw [hd]; rfl, fun r u' hr hu' => ?_⟩, Nat.le_refl _⟩
            · have hm : m ≤ 1 := hm
              simp only [sliceCells, SBlk.w, Nat.mul_one]
              rw [getCells_of h2 (by omega), List.drop_zero]
            · have hr : r < 1 := hr
              have : r = 0 := by omega
              subst this
              rw [hd] at hu'
              simp at hu'; subst hu'
              cases hu with
              | ptr _ _ _ _ y hy =>
                have := DV.np (φ := φ) (H := H) (own := Own φ S) j v' e y (row : Int) (by omega) hy
                simpa using this
      · cases h
    · split at h
      · rename_i c hc; cases h; exact old _ c hv hc
      · cases h
  · split at h
    · rename_i c hc; cases h; exact old _ c hv hc
    · cases h

/-- A step and a value. -/
def Got (φ : Phi) (S : SHeap) (H : Heap) (S' : SHeap) (s : SV) (H' : Heap) (v : Value) : Prop := ∃ φ', Step φ S H φ' S' H' ∧ DV φ' H' (Own φ' S') s v

theorem appendS_sound (hS : Sim φ S H) {t u : TypeId} {s x : SV} {v w : Value} {k : SV → SHeap → Option R} {r : R} (hs : DV φ H (Own φ S) s v) (hx : DV φ H (Own φ S) x w) (h : appendS P S t u s x k = some r) :
    ∃ z S' y H', appendE P H t u v w = some (y, H') ∧ Got φ S H S' z H' y ∧ k z S' = some r := by
  unfold appendS at h
  split at h
  · rename_i e htu hu
    rw [beq_iff_eq] at htu; subst htu
    split at h
    · rename_i i hi
      split at h
      · rename_i hc
        simp only [Bool.and_eq_true, beq_iff_eq, decide_eq_true_eq] at hc
        obtain ⟨hpos, hzc⟩ := hc
        obtain ⟨z0, zc, hz1, hz2, hz3⟩ : ∃ z0 zc, i.zero = some z0 ∧ zCells z0 = some zc ∧ zc.length = i.size := by
          split at hzc
          · rename_i zc hh
            rw [beq_iff_eq] at hzc
            rw [Option.bind_eq_some_iff] at hh
            obtain ⟨z0, a, b⟩ := hh
            exact ⟨z0, zc, a, b, hzc⟩
          · cases hzc
        split at h
        · rename_i new hnew
          -- the new elements
          obtain ⟨a, cap, ds, rfl, hds, hBn, _⟩ : ∃ a cap ds, w = .slice a new.len cap ∧ (∀ m, m ≤ new.len → sliceCells H new.w m w = some (ds.take (m * new.w))) ∧ BV φ H (Own φ S) new ds ∧ new.len ≤ cap := by
            split at hnew
            · split at hnew
              · rename_i z hz
                have hz0 := zeroCont_len hz
                cases hnew
                cases hx
                have hl0 : (SBlk.cont z).len = 0 := hz0
                refine ⟨none, 0, [], by rw [hl0], fun m hm => ?_, ⟨by rw [hz0]; simp, fun r hr => by omega⟩, by omega⟩
                have : m = 0 := by omega
                subst this
                simp [sliceCells]
              · cases hnew
            · exact viewB_sound hS hx hnew
          have hall : new.w = i.size → sliceCells H i.size new.len (.slice a new.len cap) = some ds := by
            intro hw
            have := hds new.len (Nat.le_refl _)
            rw [hw] at this
            rw [this, List.take_of_length_le]
            rw [hBn.rows (by omega), hw]; exact Nat.le_refl _
          -- what append does, by its base
          have hE : ∀ (b : Option Addr) (n0 c0 : Nat), new.w = i.size → n0 ≤ c0 → n0 + new.len < 1099511627776 → (n0 + new.len) * i.bytes < 35184372088832 →
              appendE P H t t (.slice b n0 c0) (.slice a new.len cap) = (match new.len with
                | 0 => some (.slice b n0 c0, H)
                | _ + 1 => match b with
                  | none => some (.slice (some ⟨H.size, 0, some i.size⟩) new.len new.len, pushV H ds)
                  | some ⟨b', off, sp⟩ =>
                    match decide (n0 + new.len ≤ c0) with
                    | true => (setCells H b' (off + n0 * i.size) ds).map fun H' => (.slice b (n0 + new.len) c0, H')
                    | false =>
                      match sliceCells H i.size n0 (.slice b n0 c0) with
                      | some old =>
                        match sp with
                        | some e =>
                          match H.get b' with
                          | some k =>
                            if H.mine b' k && e == i.size && off == 0 && k.cells.length == n0 * i.size && 0 < n0 then
                              some (.slice (some ⟨H.size, 0, some i.size⟩) (n0 + new.len) (n0 + new.len), pushV (H.put b' none) (old ++ ds))
                            else none
                          | none => none
                        | none => some (.slice (some ⟨H.size, 0, some i.size⟩) (n0 + new.len) (n0 + new.len), pushV H (old ++ ds))
                      | none => none) := by
            intro b n0 c0 hw h1 h2 h3
            unfold appendE
            simp only [if_true, hu, hi, hz1, hz2, hall hw]
            rw [if_pos ⟨hz3, hpos, h1, h2, h3⟩]
            cases hl : new.len with
            | zero => rfl
            | succ m =>
              simp only [hl]
              cases b with
              | none => rfl
              | some ad => rfl
          -- a base that is nil
          have hnilcase : ∀ (S1 : SHeap) (c : SBlk), (∀ j C, S1.get j = some C → S.get j = some C) → S1.size = S.size → S1.lock = S.lock → S1.hid = S.hid → (∀ j, j < S.size → j < S.lock ∨ S.get j = none → S1.root.get j = S.root.get j) →
              BV φ H (Own φ S) c ds → c.len = new.len → new.w = i.size → c.w = i.size → new.len < 1099511627776 → new.len * i.bytes < 35184372088832 →
              ∃ y H', appendE P H t t (.slice none 0 0) (.slice a new.len cap) = some (y, H') ∧ Got φ S H (S1.push c) (.buf S.size i.size false) H' y := by
            intro S1 c g1 g2 g3 g4 g5 hB hcl hw hcw h2 h3
            have hEE := hE none 0 0 hw (Nat.le_refl _) (by omega) (by rw [Nat.zero_add]; exact h3)
            rcases Nat.eq_zero_or_pos new.len with hl | hlp
            · refine ⟨.slice none 0 0, H, by rw [hl] at hEE ⊢; exact hEE, _, Step.gen hS c none g1 g2 g3 g4 g5 (Nat.le_refl _) rfl rfl (fun _ _ _ => rfl) (fun x c' _ h => ⟨c', h, rfl⟩) (fun x hx => by cases hx) (fun _ => SBlk.empty_of (by omega)) (fun x hx => by cases hx), ?_⟩
              exact .bufNil _ _ (by simp [Phi.add])
            · obtain ⟨m, hl⟩ : ∃ m, new.len = m + 1 := ⟨new.len - 1, by omega⟩
              have hold : ∀ x, x < H.size → (pushV H ds).get x = H.get x := fun x hx => Heap.get_push_old _ _ _ hx
              have hnewget : (pushV H ds).get H.size = some ⟨ds⟩ := by
                unfold Heap.get
                rw [if_pos (by simp [pushV]), show (pushV H ds).hid = H.hid from rfl, hS.ehid _ (Nat.le_refl _)]
                simp [pushV, Heap.root_push]
              refine ⟨_, pushV H ds, by rw [hl] at hEE ⊢; exact hEE, _, Step.gen hS c (some H.size) g1 g2 g3 g4 g5 (by simp [pushV]) rfl rfl (fun x hx _ => hold x hx) (fun x c' hx h => ⟨c', by rw [pushV, Heap.root_push, if_neg (by omega)] at h; exact h, rfl⟩) ?_ (fun h => by cases h) ?_, ?_⟩
              · intro x hx
                cases hx
                refine ⟨.inl (Nat.le_refl _), ?_, by simp [pushV], hS.elock⟩
                rintro ⟨j, C, _, h⟩
                have := hS.lt j _ h
                omega
              · intro x hx
                cases hx
                exact ⟨⟨ds⟩, hnewget, fun e => hB.mono e⟩
              · refine .buf S.size i.size false H.size (m + 1) (some i.size) (by simp [Phi.add]) (fun c' hc' => ?_) (.inr ⟨rfl, rfl, by omega⟩)
                rw [(Heap.get_root hnewget).1] at hc'; cases hc'
                show ds.length = _
                rw [hB.rows (by omega), hcl, hl, hcw]
          split at h
          · -- nil
            split at h
            · rename_i hcw
              rw [beq_iff_eq] at hcw
              split at h
              · rename_i hlim
                obtain ⟨h2, h3⟩ := of_decide_eq_true hlim
                cases hs
                obtain ⟨y, H', h4, h5⟩ := hnilcase S new (fun _ _ h => h) rfl rfl rfl (fun _ _ _ => rfl) hBn rfl hcw hcw h2 h3
                exact ⟨_, _, y, H', h4, h5, h⟩
              · cases h
            · cases h
          · -- a list of one's own
            rename_i id w' ex
            split at h
            · rename_i old hB
              split at h
              · rename_i c hcapp hww
                simp only [Bool.and_eq_true, beq_iff_eq] at hww
                obtain ⟨hw1, hw2⟩ := hww
                subst hw1
                split at h
                · rename_i hlim
                  obtain ⟨h2, h3⟩ := of_decide_eq_true hlim
                  have hdrop : ∀ j C, (S.put id none).get j = some C → j ≠ id ∧ S.get j = some C := by
                    intro j C h
                    rcases SHeap.get_put _ _ _ _ h with ⟨_, h2⟩ | ⟨h1, h2⟩
                    · cases h2
                    · exact ⟨h1, h2⟩
                  have hdroot : S.lock ≤ id → ∀ j, j < S.size → j < S.lock ∨ S.get j = none → (S.put id none).root.get j = S.root.get j := by
                    intro hl j _ h2
                    have e : j ≠ id := by
                      rintro rfl
                      rcases h2 with h2 | h2
                      · omega
                      · rw [hB] at h2; cases h2
                    rw [SHeap.root_put, if_neg e]
                  cases hs with
                  | bufNil _ _ hφ =>
                    rcases hS.blk _ _ hB with ⟨_, h0⟩ | ⟨y, d, h1, _⟩
                    · have h0 : old.len = 0 := SBlk.len_empty h0
                      obtain ⟨hBc, hcl, hcw, hnw⟩ := SBlk.app_sound (cs := []) hcapp (BV.none h0 (by omega)) hBn
                      rw [h0, Nat.zero_add] at hcl h2 h3
                      split at h
                      · rename_i hl
                        have hl := of_decide_eq_true hl
                        obtain ⟨y, H', h4, h5⟩ := hnilcase (S.put id none) c (fun j C h => (hdrop j C h).2) rfl rfl rfl (hdroot hl) (by simpa using hBc) hcl (by rw [hnw, hw2]) (by rw [hcw, hw2]) h2 h3
                        exact ⟨_, _, y, H', h4, h5, h⟩
                      · cases h
                    · rw [hφ] at h1; cases h1
                  | buf _ _ _ x0 n sp hφ hn hsp =>
                    rcases hS.blk _ _ hB with ⟨h0, _⟩ | ⟨y0, d, h1, hd, hlk, hBd⟩
                    · rw [hφ] at h0; cases h0
                    rw [hφ] at h1; cases h1
                    have hlen := hn d (Heap.get_root hd).1
                    have hnl : n = old.len := by
                      have := hBd.rows (by omega)
                      rw [hlen, hw2] at this
                      exact Nat.eq_of_mul_eq_mul_right hpos this
                    subst hnl
                    obtain ⟨hBc, hcl, hcw, hnw⟩ := SBlk.app_sound hcapp hBd hBn
                    have hnw' : new.w = i.size := by rw [hnw, hw2]
                    have hEE := hE (some ⟨x0, 0, sp⟩) old.len old.len hnw' (Nat.le_refl _) h2 h3
                    have hold : sliceCells H i.size old.len (.slice (some ⟨x0, 0, sp⟩) old.len old.len) = some d.cells := by
                      simp only [sliceCells]
                      rw [getCells_of hd (by rw [hlen]; omega)]
                      congr 1
                      rw [List.drop_zero, List.take_of_length_le (by rw [hlen]; omega)]
                    have hOx : OwnI φ S x0 := ⟨id, _, hB, hφ⟩
                    have hnO : ¬ OwnI φ (S.put id none) x0 := by
                      rintro ⟨j, C, g1, g2⟩
                      obtain ⟨g3, g4⟩ := hdrop j C g1
                      exact g3 (hS.inj j id _ _ x0 g4 hB g2 hφ)
                    have hsize : H.size + 1 = (pushV H (d.cells ++ ds)).size := rfl
                    have hfreeH : ¬ OwnI φ S H.size := by
                      rintro ⟨j, C, _, h⟩
                      have := hS.lt j _ h
                      omega
                    have hsubO : ∀ z, OwnI φ (S.put id none) z → OwnI φ S z := fun z ⟨j, C, g1, g2⟩ => ⟨j, C, (hdrop j C g1).2, g2⟩
                    have getnew : ∀ (H0 : Heap), H0.size = H.size → H0.hid = H.hid → (pushV H0 (d.cells ++ ds)).get H.size = some ⟨d.cells ++ ds⟩ := by
                      intro H0 e1 e2
                      unfold Heap.get
                      rw [if_pos (by simp [pushV, e1]), show (pushV H0 (d.cells ++ ds)).hid = H0.hid from rfl, e2, hS.ehid _ (Nat.le_refl _)]
                      simp [pushV, Heap.root_push, e1]
                    have hdl : (d.cells ++ ds).length = (old.len + new.len) * i.size := by
                      rw [List.length_append, hlen, hBn.rows (by omega), hnw', Nat.add_mul]
                    have hfalse : ∀ m, new.len = m + 1 → decide (old.len + new.len ≤ old.len) = false := fun m hm => by simp; omega
                    have hsp' : sp = none ∨ (false = false ∧ sp = some i.size ∧ 0 < old.len) := by
                      rcases hsp with h | ⟨_, h1, h2⟩
                      · exact .inl h
                      · exact .inr ⟨rfl, h1, h2⟩
                    split at h
                    · -- its base is let go of
                      rename_i hl
                      have hl := of_decide_eq_true hl
                      rcases Nat.eq_zero_or_pos new.len with hm | hmp
                      · refine ⟨_, _, .slice (some ⟨x0, 0, sp⟩) old.len old.len, H, by rw [hm] at hEE ⊢; exact hEE, ⟨_, Step.gen hS c (some x0) (fun j C h => (hdrop j C h).2) rfl rfl rfl (hdroot hl) (Nat.le_refl _) rfl rfl (fun _ _ _ => rfl) (fun x c' _ h => ⟨c', h, rfl⟩) ?_ (fun h => by cases h) ?_, ?_⟩, h⟩
                        · intro x hx
                          cases hx
                          exact ⟨.inr hOx, hnO, hS.lt _ _ hφ, hlk hl⟩
                        · intro x hx
                          cases hx
                          refine ⟨d, hd, fun e => BV.mono e ?_⟩
                          have : ds = [] := by
                            apply List.eq_nil_of_length_eq_zero
                            rw [hBn.rows (by omega), hm]; simp
                          rw [this, List.append_nil] at hBc
                          exact hBc
                        · exact .buf S.size i.size false x0 old.len sp (by simp [Phi.add]) hn hsp'
                      · obtain ⟨m, hm⟩ : ∃ m, new.len = m + 1 := ⟨new.len - 1, by omega⟩
                        have hf : decide (old.len + (m + 1) ≤ old.len) = false := by simp
                        rw [hm] at hEE
                        simp only [hf, hold] at hEE
                        cases sp with
                        | none =>
                          have hE2 : appendE P H t t (.slice (some ⟨x0, 0, none⟩) old.len old.len) (.slice a new.len cap) = some (.slice (some ⟨H.size, 0, some i.size⟩) (old.len + new.len) (old.len + new.len), pushV H (d.cells ++ ds)) := by rw [hm]; exact hEE
                          have hkeep : ∀ x, x < H.size → (pushV H (d.cells ++ ds)).get x = H.get x := fun x hx => Heap.get_push_old _ _ _ hx
                          refine ⟨_, _, _, pushV H (d.cells ++ ds), hE2, ⟨_, Step.gen hS c (some H.size) (fun j C h => (hdrop j C h).2) rfl rfl rfl (hdroot hl) (by simp [pushV]) rfl rfl (fun x hx _ => hkeep x hx) (fun x c' hx h => ⟨c', by rw [pushV, Heap.root_push, if_neg (by omega)] at h; exact h, rfl⟩) ?_ (fun h => by cases h) ?_, ?_⟩, h⟩
                          · intro x hx
                            cases hx
                            exact ⟨.inl (Nat.le_refl _), fun h => hfreeH (hsubO _ h), by simp [pushV], hS.elock⟩
                          · intro x hx
                            cases hx
                            exact ⟨_, getnew H rfl rfl, fun e => hBc.mono e⟩
                          · refine .buf S.size i.size false H.size _ (some i.size) (by simp [Phi.add]) (fun c' hc' => ?_) (.inr ⟨rfl, rfl, by omega⟩)
                            rw [(Heap.get_root (getnew H rfl rfl)).1] at hc'; cases hc'
                            exact hdl
                        | some e0 =>
                          obtain ⟨_, he, hpos0⟩ : ex = false ∧ some e0 = some i.size ∧ 0 < old.len := by
                            rcases hsp with h | h
                            · cases h
                            · exact h
                          cases he
                          simp only [hd] at hEE
                          rw [if_pos (by simp [mine_iff, hlk hl, hlen, hpos0])] at hEE
                          have hE2 : appendE P H t t (.slice (some ⟨x0, 0, some i.size⟩) old.len old.len) (.slice a new.len cap) = some (.slice (some ⟨H.size, 0, some i.size⟩) (old.len + new.len) (old.len + new.len), pushV (H.put x0 none) (d.cells ++ ds)) := by rw [hm]; exact hEE
                          have hput : ∀ x, x ≠ x0 → (H.put x0 none).get x = H.get x := fun x hx => Heap.get_put_other _ _ _ _ hx
                          have hkeep : ∀ x, x < H.size → x ≠ x0 → (pushV (H.put x0 none) (d.cells ++ ds)).get x = H.get x := by
                            intro x hx hne
                            rw [pushV, Heap.get_push_old _ _ _ (by simpa using hx)]
                            exact hput x hne
                          have hgone : (pushV (H.put x0 none) (d.cells ++ ds)).get x0 = none := by
                            rw [pushV, Heap.get_push_old _ _ _ (by simpa using hS.lt _ _ hφ)]
                            exact Heap.get_put_same _ _ _ hd
                          refine ⟨_, _, _, pushV (H.put x0 none) (d.cells ++ ds), hE2, ⟨_, Step.gen hS c (some H.size) (fun j C h => (hdrop j C h).2) rfl rfl rfl (hdroot hl) (by simp [pushV]) rfl rfl ?_ ?_ ?_ (fun h => by cases h) ?_, ?_⟩, h⟩
                          · rintro x hx (ho | ho)
                            · exact hkeep x hx (fun e => hnO (e ▸ ho))
                            · exact hkeep x hx (fun e => ho (e ▸ ⟨id, _, hl, hB, hφ⟩))
                          · intro x c' hx hc'
                            rw [pushV, Heap.root_push, if_neg (by simpa using Nat.ne_of_lt hx), Heap.root_put] at hc'
                            split at hc'
                            · cases hc'
                            · exact ⟨c', hc', rfl⟩
                          · intro x hx
                            cases hx
                            exact ⟨.inl (Nat.le_refl _), fun h => hfreeH (hsubO _ h), by simp [pushV], hS.elock⟩
                          · intro x hx
                            cases hx
                            exact ⟨_, getnew (H.put x0 none) rfl rfl, fun e => hBc.mono e⟩
                          · refine .buf S.size i.size false H.size _ (some i.size) (by simp [Phi.add]) (fun c' hc' => ?_) (.inr ⟨rfl, rfl, by omega⟩)
                            rw [(Heap.get_root (getnew (H.put x0 none) rfl rfl)).1] at hc'; cases hc'
                            exact hdl
                    · -- its base stays
                      split at h
                      · rcases hsp with rfl | ⟨h0, _⟩
                        · split at h
                          · rename_i hm
                            have hm := of_decide_eq_true hm
                            rw [hm] at hEE
                            exact ⟨_, _, _, _, by rw [hm]; exact hEE, ⟨φ, Step.refl hS, .buf id i.size true x0 old.len none hφ hn (.inl rfl)⟩, h⟩
                          · rename_i hm
                            have hm := of_decide_eq_false hm
                            obtain ⟨m, hm⟩ : ∃ m, new.len = m + 1 := ⟨new.len - 1, by omega⟩
                            have hf : decide (old.len + (m + 1) ≤ old.len) = false := by simp
                            rw [hm] at hEE
                            simp only [hf, hold] at hEE
                            have hE2 : appendE P H t t (.slice (some ⟨x0, 0, none⟩) old.len old.len) (.slice a new.len cap) = some (.slice (some ⟨H.size, 0, some i.size⟩) (old.len + new.len) (old.len + new.len), pushV H (d.cells ++ ds)) := by rw [hm]; exact hEE
                            have hb : BV φ H (Own φ S) c (d.cells ++ ds) := hBc
                            refine ⟨_, _, _, pushV H (d.cells ++ ds), hE2, ⟨_, Step.push hS c _ hb, ?_⟩, h⟩
                            refine .buf S.size i.size false H.size _ (some i.size) (by simp [Phi.add]) (fun c' hc' => ?_) (.inr ⟨rfl, rfl, by omega⟩)
                            rw [(Heap.get_root (getnew H rfl rfl)).1] at hc'; cases hc'
                            exact hdl
                        · cases h0
                      · cases h
                · cases h
              · cases h
            · cases h
          · cases h
        · cases h
      · cases h
    · cases h
  · cases h
end
end
end Go.Proofs.Ytoiijpphfckdjaa.Ev
