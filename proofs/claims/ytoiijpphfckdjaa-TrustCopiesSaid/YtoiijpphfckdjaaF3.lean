/-
  Operations over partly unknown values are the evaluator's: reading, writing, arithmetic.
-/
import Derived.Test.YtoiijpphfckdjaaF2
namespace Go.Proofs.Ytoiijpphfckdjaa.Ev
noncomputable section
open Go
set_option linter.unusedVariables false
set_option linter.unusedSimpArgs false

theorem rowFrom_len : ∀ (l : List Sch) (c : Nat) (d : Dat), (rowFrom l c d).length = l.length
  | [], _, _ => rfl
  | s :: l, c, d => by simp [rowFrom, rowFrom_len l]
theorem Cont.row_len (c : Cont) (r : Nat) : (c.row r).length = c.w := by
  cases c with
  | ints k xs => rfl
  | recs l xs => exact rowFrom_len _ _ _

section
variable {R : Type} {P : Program} {φ : Phi} {H : Heap} {own : Nat → Prop} {S : SHeap}

/-- A list that lies in cells. -/
def Rgn (φ : Phi) (H : Heap) (own : Nat → Prop) (c : Cont) (cells : List Value) (o : Nat) : Prop :=
  o + c.len * c.w ≤ cells.length ∧ ∀ r, r < c.len → ∀ (j : Nat) (s : SV), (c.row r)[j]? = some s → ∀ v, cells[o + r * c.w + j]? = some v → DV φ H own s v

theorem row_in {r len w : Nat} (h : r < len) : r * w + w ≤ len * w := by
  have := Nat.mul_le_mul_right w (Nat.succ_le_of_lt h)
  rw [Nat.succ_mul] at this
  exact this

theorem Rgn.row {c : Cont} {cells : List Value} {o : Nat} (h : Rgn φ H own c cells o) {r : Nat} (hr : r < c.len) : DVL φ H own (c.row r) ((cells.drop (o + r * c.w)).take c.w) := by
  have h1 := row_in (w := c.w) hr
  have h2 := h.1
  refine ⟨by rw [c.row_len]; simp; omega, fun j s v hs hv => ?_⟩
  rw [List.getElem?_take] at hv
  split at hv
  · rw [List.getElem?_drop] at hv; exact h.2 r hr j s hs v hv
  · cases hv

theorem readC_sound {c : Cont} {w row col n : Nat} {k : List SV → Option R} {r : R} (h : readC c w row col n k = some r) {cells : List Value} {o : Nat} (hr : Rgn φ H own c cells o) :
    w = c.w ∧ 0 < n ∧ ∃ cs, k cs = some r ∧ o + row * c.w + col + n ≤ cells.length ∧ DVL φ H own cs ((cells.drop (o + row * c.w + col)).take n) := by
  unfold readC at h
  split at h
  · rename_i hc
    simp only [Bool.and_eq_true, beq_iff_eq, decide_eq_true_eq] at hc
    obtain ⟨⟨hw, hcol⟩, hn⟩ := hc
    split at h
    · rename_i hrow
      have hrow := of_decide_eq_true hrow
      refine ⟨hw, hn, _, h, ?_, ?_⟩
      · have := row_in (w := c.w) hrow
        have := hr.1
        omega
      · have := ((hr.row hrow).drop col).take n
        have e : (List.drop col ((cells.drop (o + row * c.w)).take c.w)).take n = (cells.drop (o + row * c.w + col)).take n := by
          rw [List.drop_take, List.drop_drop, List.take_take, Nat.min_eq_left (by omega)]
        rwa [e] at this
    · cases h
  · cases h

theorem BV.rgn {c : Cont} {cs : List Value} (h : BV φ H own (.cont c) cs) : Rgn φ H own c cs 0 := by
  obtain ⟨h1, h2⟩ := h
  exact ⟨by omega, fun r hr j s hs v hv => h2 r hr j s hs v (by rw [Nat.zero_add] at hv; exact hv)⟩

theorem getCells_of {x off n : Nat} {c : Blk} (h : H.get x = some c) (hl : off + n ≤ c.cells.length) : getCells H x off n = some ((c.cells.drop off).take n) := by
  unfold getCells; rw [h]; simp only; rw [if_pos hl]

theorem schEq_eq : (∀ (a b : Sch), schEq a b = true → a = b) ∧ (∀ (l m : List Sch), schsEq l m = true → l = m) := by
  have key : ∀ (a : Sch), (∀ b, schEq a b = true → a = b) := by
    intro a
    induction a using Sch.rec (motive_2 := fun l => ∀ m, schsEq l m = true → l = m) with
    | int k => intro b h; cases b <;> simp [schEq] at h; rw [h]
    | bool => intro b h; cases b <;> simp [schEq] at h; rfl
    | ints k => intro b h; cases b <;> simp [schEq] at h; rw [h]
    | recs l ih => intro b h; cases b <;> simp [schEq] at h; rw [ih _ h]
    | nil => rename_i m h; cases m <;> simp [schsEq] at h; rfl
    | cons a l iha ihl =>
      rename_i m h
      cases m with
      | nil => simp [schsEq] at h
      | cons b m => simp [schsEq] at h; rw [iha _ h.1, ihl _ h.2]
  refine ⟨key, fun l => ?_⟩
  induction l with
  | nil => intro m h; cases m <;> simp [schsEq] at h; rfl
  | cons a l ih =>
    intro m h
    cases m with
    | nil => simp [schsEq] at h
    | cons b m => simp [schsEq] at h; rw [key _ _ h.1, ih _ h.2]
theorem alike_eq {a b : SV} (h : alike a b = true) : (∃ k n m, a = .i k n ∧ b = .i k m) ∨ (∃ x y, a = .b x ∧ b = .b y) ∨ (∃ k x y, a = .deep (.ints k x) ∧ b = .deep (.ints k y)) ∨ (∃ k x y, a = .deep (.recs k x) ∧ b = .deep (.recs k y)) := by
  unfold alike at h
  split at h
  · exact .inl ⟨_, _, _, rfl, by rw [eq_of_beq h]⟩
  · exact .inr (.inl ⟨_, _, rfl, rfl⟩)
  · exact .inr (.inr (.inl ⟨_, _, _, rfl, by rw [eq_of_beq h]⟩))
  · exact .inr (.inr (.inr ⟨_, _, _, rfl, by rw [schEq_eq.2 _ _ h]⟩))
  · cases h
theorem alike_trans {a b c : SV} (h : alike a b = true) (h' : alike a c = true) : alike b c = true := by
  rcases alike_eq h with ⟨k, n, m, rfl, rfl⟩ | ⟨x, y, rfl, rfl⟩ | ⟨k, x, y, rfl, rfl⟩ | ⟨k, x, y, rfl, rfl⟩ <;> rcases alike_eq h' with ⟨_, _, _, e, rfl⟩ | ⟨_, _, e, rfl⟩ | ⟨_, _, _, e, rfl⟩ | ⟨_, _, _, e, rfl⟩ <;> cases e <;> exact h'
theorem picked_eq {a b : SV} {l : List SV} {r : Nat} (h : alike a b = true) (hr : l[r]? = some b) : picked a l r = b := by
  rcases alike_eq h with ⟨k, n, m, rfl, rfl⟩ | ⟨x, y, rfl, rfl⟩ | ⟨k, x, y, rfl, rfl⟩ | ⟨k, x, y, rfl, rfl⟩ <;> simp [picked, List.getD_eq_getElem?_getD, hr, SV.num, SV.flag, SV.nums, SV.rows]
theorem chosen_eq {a b : SV} {c : Bool} (h : alike a b = true) : chosen c b a = bif c then b else a := by
  rcases alike_eq h with ⟨k, n, m, rfl, rfl⟩ | ⟨x, y, rfl, rfl⟩ | ⟨k, x, y, rfl, rfl⟩ | ⟨k, x, y, rfl, rfl⟩ <;> cases c <;> simp [chosen, SV.num, SV.flag, SV.nums, SV.rows]
theorem rowsOk_at {l : List SV} {w col n m : Nat} (h : rowsOk l w col n m = true) : 0 < w ∧ 0 < m ∧ col + (m - 1) * w + n ≤ l.length ∧ ∀ c j, c < n → j < m → alike (l.getD (col + c) .any) (l.getD (col + c + j * w) .any) = true := by
  simp only [rowsOk, alikes, colOf, Bool.and_eq_true, decide_eq_true_eq, List.all_eq_true, List.mem_range, List.mem_map, forall_exists_index, and_imp, forall_apply_eq_imp_iff₂] at h
  exact ⟨h.1, h.2.1, h.2.2.1, fun c j hc hj => h.2.2.2 c hc j hj⟩
theorem row_le {m w row : Nat} (h : row < m) : row * w ≤ (m - 1) * w := Nat.mul_le_mul_right w (by omega)
theorem readL_sound {l : List SV} {row w col n : Nat} {k : List SV → Option R} {r : R} (h : readL l row w col n k = some r) : row * w + col + n ≤ l.length ∧ k ((l.drop (row * w + col)).take n) = some r := by
  unfold readL at h
  generalize rowsN l w col n l.length 0 = m at h
  split at h
  · rename_i ho
    obtain ⟨hw, hm, hl, ha⟩ := rowsOk_at ho
    split at h
    · rename_i hr
      have hr := of_decide_eq_true hr
      have h1 := row_le (w := w) hr
      refine ⟨by omega, ?_⟩
      rw [← h]
      congr 1
      refine List.ext_getElem? fun c => ?_
      by_cases hc : c < n
      · have h2 : row * w + col + c < l.length := by omega
        have h3 : ∀ i, i < l.length → l.getD i .any = l[i]?.getD .any := fun i _ => List.getD_eq_getElem?_getD ..
        have h4 : l[row * w + col + c]? = some (l.getD (col + c + row * w) .any) := by
          rw [List.getD_eq_getElem?_getD, show col + c + row * w = row * w + col + c by omega, List.getElem?_eq_getElem h2]; rfl
        rw [List.getElem?_take, if_pos hc, List.getElem?_drop, h4, List.getElem?_map, List.getElem?_range hc, Option.map_some]
        congr 1
        symm
        refine picked_eq (ha c row hc hr) ?_
        simp only [colOf, List.getElem?_map, List.getElem?_range hr, Option.map_some]
      · rw [List.getElem?_eq_none (by simp; omega), List.getElem?_eq_none (by simp; omega)]
    · cases h
  · split at h
    · rename_i hc
      exact ⟨of_decide_eq_true hc, h⟩
    · cases h
theorem updL_get {row w col m : Nat} {us : List SV} : ∀ (l : List SV) (s o : Nat), (updL row w col m us s l)[o]? = (l[o]?).map fun a => match decide (col ≤ s + o) && (decide ((s + o - col) % w < us.length) && decide ((s + o - col) / w < m)) with | true => chosen (decide (row = (s + o - col) / w)) (us.getD ((s + o - col) % w) .any) a | false => a
  | [], s, o => by simp [updL]
  | a :: l, s, 0 => rfl
  | a :: l, s, o + 1 => by
    simp only [updL, List.getElem?_cons_succ]
    rw [updL_get l (s + 1) o, show s + 1 + o = s + (o + 1) by omega]
theorem updL_length {row w col m : Nat} {us : List SV} : ∀ (l : List SV) (s : Nat), (updL row w col m us s l).length = l.length
  | [], s => rfl
  | a :: l, s => by simp [updL, updL_length l]
theorem writeL_sound {l : List SV} {row w col : Nat} {us : List SV} {k : List SV → Option R} {r : R} (h : writeL l row w col us k = some r) : row * w + col + us.length ≤ l.length ∧ k (l.take (row * w + col) ++ us ++ l.drop (row * w + col + us.length)) = some r := by
  unfold writeL at h
  generalize rowsN l w col us.length l.length 0 = m at h
  split at h
  · rename_i ho
    simp only [Bool.and_eq_true, newOk, decide_eq_true_eq, List.all_eq_true, List.mem_range] at ho
    obtain ⟨⟨huw, hnew⟩, ho⟩ := ho
    obtain ⟨hw, hm, hl, ha⟩ := rowsOk_at ho
    split at h
    · rename_i hr
      have hr := of_decide_eq_true hr
      have h1 := row_le (w := w) hr
      refine ⟨by omega, ?_⟩
      rw [← h]
      congr 1
      refine List.ext_getElem? fun o => ?_
      rw [updL_get, Nat.zero_add]
      by_cases ho : o < l.length
      · rw [List.getElem?_eq_getElem ho, Option.map_some]
        by_cases hc : col ≤ o
        · have hdm := Nat.div_add_mod (o - col) w
          have htw := Nat.mod_lt (o - col) hw
          generalize hq : (o - col) / w = q at *
          generalize ht : (o - col) % w = t at *
          rw [Nat.mul_comm] at hdm
          by_cases hrow : row = q
          · subst hrow
            by_cases htn : t < us.length
            · simp only [hc, htn, hr, decide_true, Bool.and_self]
              have h2 : alike l[o] (us.getD t .any) = true := by
                have h3 := ha t row htn hr
                have h4 := hnew t htn
                have h5 : l.getD (col + t + row * w) .any = l[o] := by
                  rw [List.getD_eq_getElem?_getD, show col + t + row * w = o by omega, List.getElem?_eq_getElem ho]; rfl
                rw [h5] at h3
                exact alike_trans h3 h4
              rw [chosen_eq h2, List.append_assoc, List.getElem?_append_right (by simp; omega), List.getElem?_append_left (by simp; omega), List.length_take, show o - min (row * w + col) l.length = t by omega, List.getElem?_eq_getElem htn, List.getD_eq_getElem?_getD, List.getElem?_eq_getElem htn]
              rfl
            · simp only [htn, decide_false, Bool.false_and, Bool.and_false]
              rw [List.append_assoc, List.getElem?_append_right (by simp; omega), List.getElem?_append_right (by simp; omega), List.getElem?_drop, List.length_take, show row * w + col + us.length + (o - min (row * w + col) l.length - us.length) = o by omega, List.getElem?_eq_getElem ho]
          · have h6 : q * w + w ≤ row * w ∨ row * w + w ≤ q * w := by
              rcases Nat.lt_or_gt_of_ne hrow with h | h
              · right; rw [← Nat.succ_mul]; exact Nat.mul_le_mul_right w h
              · left; rw [← Nat.succ_mul]; exact Nat.mul_le_mul_right w h
            have h7 : (l.take (row * w + col) ++ us ++ l.drop (row * w + col + us.length))[o]? = some l[o] := by
              rw [List.append_assoc]
              rcases h6 with h6 | h6
              · rw [List.getElem?_append_left (by simp; omega), List.getElem?_take, if_pos (by omega), List.getElem?_eq_getElem ho]
              · rw [List.getElem?_append_right (by simp; omega), List.getElem?_append_right (by simp; omega), List.getElem?_drop, List.length_take, show row * w + col + us.length + (o - min (row * w + col) l.length - us.length) = o by omega, List.getElem?_eq_getElem ho]
            rw [h7]
            congr 1
            split
            · rename_i hb
              simp only [Bool.and_eq_true, decide_eq_true_eq] at hb
              have h3 := ha t q hb.2.1 hb.2.2
              have h4 := hnew t hb.2.1
              have h5 : l.getD (col + t + q * w) .any = l[o] := by
                rw [List.getD_eq_getElem?_getD, show col + t + q * w = o by omega, List.getElem?_eq_getElem ho]; rfl
              rw [h5] at h3
              have h2 : alike l[o] (us.getD t .any) = true := by
                exact alike_trans h3 h4
              rw [chosen_eq h2]; simp [hrow]
            · rfl
        · simp only [hc, decide_false, Bool.false_and]
          rw [List.append_assoc, List.getElem?_append_left (by simp; omega), List.getElem?_take, if_pos (by omega), List.getElem?_eq_getElem ho]
      · rw [List.getElem?_eq_none (l := l) (by omega), List.getElem?_eq_none (by simp; omega)]; rfl
    · cases h
  · split at h
    · rename_i hc
      exact ⟨of_decide_eq_true hc, h⟩
    · cases h
theorem readS_sound (hS : Sim φ S H) {n : Nat} {p : SV} {k : List SV → Option R} {r : R} {v : Value} (hp : DV φ H (Own φ S) p v) (h : readS S n p k = some r) :
    ∃ x o cs vs, v = .pointer (some ⟨x, o, none⟩) ∧ getCells H x o n = some vs ∧ DVL φ H (Own φ S) cs vs ∧ k cs = some r := by
  unfold readS at h
  split at h
  · rename_i id row w col
    cases hp with
    | ptr _ _ _ _ x hx =>
      split at h
      · rename_i l hB
        rcases hS.blk _ _ hB with ⟨h0, _⟩ | ⟨y, c, h1, h2, _, h4⟩
        · rw [hx] at h0; cases h0
        · rw [hx] at h1; cases h1
          obtain ⟨hlen, h⟩ := readL_sound h
          have h5 := h4.1
          exact ⟨x, _, _, _, rfl, getCells_of h2 (by rw [← h5]; exact hlen), (h4.drop _).take _, h⟩
      · rename_i c hB
        rcases hS.blk _ _ hB with ⟨h0, _⟩ | ⟨y, c', h1, h2, _, h4⟩
        · rw [hx] at h0; cases h0
        · rw [hx] at h1; cases h1
          obtain ⟨hw, _, cs, hk, h5, h6⟩ := readC_sound h (BV.rgn h4)
          subst hw
          rw [Nat.zero_add] at h5 h6
          exact ⟨x, _, cs, _, rfl, getCells_of h2 h5, h6, hk⟩
      · rename_i j v e rows hB
        rcases hS.blk _ _ hB with ⟨h0, _⟩ | ⟨y, c', h1, h2, _, h4⟩
        · rw [hx] at h0; cases h0
        · rw [hx] at h1; cases h1
          split at h
          · rename_i hc
            simp only [Bool.and_eq_true, beq_iff_eq] at hc
            obtain ⟨rfl, rfl, rfl⟩ := hc
            split at h
            · rename_i hrow
              have hrow := of_decide_eq_true hrow
              have hl := h4.1
              refine ⟨x, _, _, _, rfl, getCells_of h2 (by omega), ⟨by simp; omega, fun i s u g1 g2 => ?_⟩, h⟩
              cases i with
              | zero =>
                simp at g1; subst g1
                rw [List.getElem?_take, if_pos (by omega), List.getElem?_drop] at g2
                exact h4.2 row u hrow (by simpa using g2)
              | succ i => simp at g1
            · cases h
          · cases h
      · cases h
  · rename_i c row col
    cases hp with
    | dp _ _ _ x o blk hb ho hl hc =>
      obtain ⟨_, _, cs, hk, h5, h6⟩ := readC_sound h (cells := blk.cells) (o := o) ⟨hl, hc⟩
      exact ⟨x, _, cs, _, rfl, getCells_of hb h5, h6, hk⟩
  · cases h

theorem DV.agg_of {cs : List SV} {vs : List Value} (h : DVL φ H own cs vs) : DV φ H own (.agg cs) (.agg vs.toArray) :=
  .agg cs _ (by simp [h.1]) (fun i s v h1 h2 => h.2 i s v h1 (by simpa using h2))

theorem loadS_sound (hS : Sim φ S H) {t : TypeId} {p : SV} {k : SV → Option R} {r : R} {v : Value} (hp : DV φ H (Own φ S) p v) (h : loadS P S t p k = some r) :
    ∃ s u, loadE P H t v = some u ∧ DV φ H (Own φ S) s u ∧ k s = some r := by
  unfold loadS at h
  split at h
  · rename_i d i hu hi
    obtain ⟨x, o, cs, vs, rfl, hg, hd, h⟩ := readS_sound hS hp h
    unfold loadE
    simp only [hu, hi]
    unfold mkS at h
    cases ha : aggD d with
    | true =>
      rw [ha] at h hg
      simp only at h hg ⊢
      rw [hg]
      exact ⟨_, _, rfl, DV.agg_of hd, h⟩
    | false =>
      rw [ha] at h hg
      simp only at h hg ⊢
      rw [hg]
      cases cs with
      | nil => cases h
      | cons s cs =>
        obtain ⟨u, us, rfl, h1, _⟩ := hd.uncons
        exact ⟨s, u, rfl, h1, h⟩
  · cases h

/-- The cells of a value. -/
theorem cellsS_sound {s : SV} {v : Value} {cs : List SV} (hv : DV φ H own s v) (h : cellsS s = some cs) : ∃ vs, valCells v = some vs ∧ DVL φ H own cs vs := by
  cases hv with
  | any => simp [cellsS] at h
  | agg l x' hx vx =>
    simp only [cellsS, Option.some.injEq] at h; subst h
    exact ⟨x'.toList, rfl, by simpa using hx, fun i s v h1 h2 => vx i s v h1 (by simpa using h2)⟩
  | tup => simp [cellsS] at h
  | i k n => simp only [cellsS, Option.some.injEq] at h; subst h; exact ⟨_, rfl, .cons (.i k n) .nil⟩
  | b x => simp only [cellsS, Option.some.injEq] at h; subst h; exact ⟨_, rfl, .cons (.b x) .nil⟩
  | str x => simp only [cellsS, Option.some.injEq] at h; subst h; exact ⟨_, rfl, .cons (.str x) .nil⟩
  | nilp => simp only [cellsS, Option.some.injEq] at h; subst h; exact ⟨_, rfl, .cons .nilp .nil⟩
  | nils => simp only [cellsS, Option.some.injEq] at h; subst h; exact ⟨_, rfl, .cons .nils .nil⟩
  | nilf => simp only [cellsS, Option.some.injEq] at h; subst h; exact ⟨_, rfl, .cons .nilf .nil⟩
  | nili => simp only [cellsS, Option.some.injEq] at h; subst h; exact ⟨_, rfl, .cons .nili .nil⟩
  | ptr id row w col x h1 => simp only [cellsS, Option.some.injEq] at h; subst h; exact ⟨_, rfl, .cons (.ptr id row w col x h1) .nil⟩
  | buf id w ex x n sp h1 hn hs => simp only [cellsS, Option.some.injEq] at h; subst h; exact ⟨_, rfl, .cons (.buf id w ex x n sp h1 hn hs) .nil⟩
  | bufNil id w h1 => simp only [cellsS, Option.some.injEq] at h; subst h; exact ⟨_, rfl, .cons (.bufNil id w h1) .nil⟩
  | sl id off len w x o sp cap h1 h2 h3 h4 h5 => simp only [cellsS, Option.some.injEq] at h; subst h; exact ⟨_, rfl, .cons (.sl id off len w x o sp cap h1 h2 h3 h4 h5) .nil⟩
  | slNil id w h1 => simp only [cellsS, Option.some.injEq] at h; subst h; exact ⟨_, rfl, .cons (.slNil id w h1) .nil⟩
  | deepNil c h1 => simp only [cellsS, Option.some.injEq] at h; subst h; exact ⟨_, rfl, .cons (.deepNil c h1) .nil⟩
  | deep c x o sp cap blk h1 h2 h3 h4 h5 h6 => simp only [cellsS, Option.some.injEq] at h; subst h; exact ⟨_, rfl, .cons (.deep c x o sp cap blk h1 h2 h3 h4 h5 h6) .nil⟩
  | dp c row col x o blk h1 h2 h3 h4 => simp only [cellsS, Option.some.injEq] at h; subst h; exact ⟨_, rfl, .cons (.dp c row col x o blk h1 h2 h3 h4) .nil⟩
  | npNil id w col n hn => simp only [cellsS, Option.some.injEq] at h; subst h; exact ⟨_, rfl, .cons (.npNil id w col n hn) .nil⟩
  | np id w col x n hn h1 => simp only [cellsS, Option.some.injEq] at h; subst h; exact ⟨_, rfl, .cons (.np id w col x n hn h1) .nil⟩
  | fn g x y x' y' h1 h2 h3 h4 => simp only [cellsS, Option.some.injEq] at h; subst h; exact ⟨_, rfl, .cons (.fn g x y x' y' h1 h2 h3 h4) .nil⟩

/-! ### Rows put together and taken apart -/
theorem encS_dec {s : Sch} {u : SV} {d : Dat} (h : encS s u = some d) {v : Value} (hv : DV φ H own u v) : DV φ H own (decS s d) v := by
  unfold encS at h
  split at h
  · split at h
    · rename_i hk; cases h; rw [beq_iff_eq] at hk; subst hk; exact hv
    · cases h
  · rename_i x
    cases h
    have : ((bif x then (1 : Int) else 0) != 0) = x := by cases x <;> rfl
    simp only [decS, Dat.int, this]; exact hv
  · cases h; cases hv; exact .deepNil _ rfl
  · rename_i k k' xs
    split at h
    · rename_i hk; cases h; rw [beq_iff_eq] at hk; subst hk
      have e : List.map Dat.int (Dat.r (List.map Dat.n xs)).sub = xs := by
        show List.map Dat.int (List.map Dat.n xs) = xs
        rw [List.map_map, show (Dat.int ∘ Dat.n) = id from rfl, List.map_id]
      simp only [decS]
      rw [e]; exact hv
    · cases h
  · cases h; cases hv; exact .deepNil _ rfl
  · split at h
    · rename_i hk; cases h
      rw [schEq_eq.2 _ _ hk]; exact hv
    · cases h
  · cases h

theorem rowFrom_get : ∀ (l : List Sch) (c : Nat) (d : Dat) (j : Nat), (rowFrom l c d)[j]? = (l[j]?).map fun s => decS s (d.fld (c + j))
  | [], c, d, j => by simp [rowFrom]
  | s :: l, c, d, 0 => by simp [rowFrom]
  | s :: l, c, d, j + 1 => by
    simp only [rowFrom, List.getElem?_cons_succ]
    rw [rowFrom_get l (c + 1) d j, show c + 1 + j = c + (j + 1) by omega]

theorem encRow_len : ∀ {l : List Sch} {us : List SV} {r : List Dat}, encRow l us = some r → r.length = l.length ∧ us.length = l.length
  | [], [], r, h => by simp [encRow] at h; subst h; exact ⟨rfl, rfl⟩
  | [], _ :: _, r, h => by simp [encRow] at h
  | _ :: _, [], r, h => by simp [encRow] at h
  | s :: l, u :: us, r, h => by
    simp only [encRow] at h
    split at h
    · rename_i d r' h1 h2
      cases h
      obtain ⟨a, b⟩ := encRow_len h2
      simp [a, b]
    · cases h
theorem encRow_get : ∀ {l : List Sch} {us : List SV} {r : List Dat} (h : encRow l us = some r) {j : Nat} {s : Sch}, l[j]? = some s → ∃ u d, us[j]? = some u ∧ r[j]? = some d ∧ encS s u = some d
  | [], _, r, h, j, s, hj => by simp at hj
  | _ :: _, [], r, h, j, s, hj => by simp [encRow] at h
  | s :: l, u :: us, r, h, j, s', hj => by
    simp only [encRow] at h
    split at h
    · rename_i d r' h1 h2
      cases h
      cases j with
      | zero => simp at hj; subst hj; exact ⟨u, d, by simp, by simp, h1⟩
      | succ j =>
        simp only [List.getElem?_cons_succ] at hj ⊢
        exact encRow_get h2 hj
    · cases h

/-- A row that was put together is what it was put together of. -/
theorem encRow_dec {l : List Sch} {us : List SV} {r : List Dat} (h : encRow l us = some r) {vs : List Value} (hv : DVL φ H own us vs) : DVL φ H own (rowFrom l 0 (.r r)) vs := by
  obtain ⟨h1, h2⟩ := encRow_len h
  refine ⟨by rw [rowFrom_len, ← hv.1, h2], fun j s v hs hj => ?_⟩
  rw [rowFrom_get] at hs
  cases hl : l[j]? with
  | none => rw [hl] at hs; cases hs
  | some sc =>
    rw [hl] at hs
    simp only [Option.map_some, Option.some.injEq, Nat.zero_add] at hs
    subst hs
    obtain ⟨u, d, g1, g2, g3⟩ := encRow_get h hl
    have : (Dat.r r).fld j = d := by
      show r.getD j (.n 0) = d
      rw [List.getD_eq_getElem?_getD, g2]; rfl
    rw [this]
    exact encS_dec g3 (hv.2 j u v g1 hj)

/-! ### Writing -/
theorem Cont.set_sound {c c' : Cont} {row col : Nat} {us : List SV} (h : c.set row col us = some c') (hrow : row < c.len) (hcol : col + us.length ≤ c.w) {cs vs : List Value} (hB : BV φ H own (.cont c) cs) (hv : DVL φ H own us vs) :
    BV φ H own (.cont c') (cs.take (row * c.w + col) ++ vs ++ cs.drop (row * c.w + col + vs.length)) := by
  have hin := row_in (w := c.w) hrow
  have hlen := hB.1
  have hvl := hv.1
  have hD : ∀ i v, (cs.take (row * c.w + col) ++ vs ++ cs.drop (row * c.w + col + vs.length))[i]? = some v →
      (i < row * c.w + col ∧ cs[i]? = some v) ∨ (row * c.w + col ≤ i ∧ i < row * c.w + col + vs.length ∧ vs[i - (row * c.w + col)]? = some v) ∨ (row * c.w + col + vs.length ≤ i ∧ cs[i]? = some v) := by
    intro i v hi
    simp only [List.getElem?_append, List.length_append, List.length_take, List.getElem?_take, List.getElem?_drop] at hi
    have hmin : min (row * c.w + col) cs.length = row * c.w + col := by omega
    rw [hmin] at hi
    by_cases h1 : i < row * c.w + col
    · rw [if_pos (by omega), if_pos h1, if_pos h1] at hi; exact .inl ⟨h1, hi⟩
    · by_cases h2 : i < row * c.w + col + vs.length
      · rw [if_pos (by omega), if_neg h1] at hi; exact .inr (.inl ⟨by omega, h2, hi⟩)
      · rw [if_neg (by omega)] at hi
        rw [show row * c.w + col + vs.length + (i - (row * c.w + col + vs.length)) = i by omega] at hi
        exact .inr (.inr ⟨by omega, hi⟩)
  have hDl : (cs.take (row * c.w + col) ++ vs ++ cs.drop (row * c.w + col + vs.length)).length = cs.length := by simp; omega
  cases c with
  | ints k xs =>
    simp only [Cont.set] at h
    split at h
    · rename_i k' n
      split at h
      · rename_i hk
        rw [beq_iff_eq] at hk; subst hk
        cases h
        obtain ⟨v, vs', rfl, hv0, hv'⟩ := hv.uncons
        have : vs' = [] := by have := hv'.1; simpa using this.symm
        subst this
        simp only [Cont.w, Nat.mul_one, Cont.len] at *
        have hc0 : col = 0 := by simp at hcol; omega
        subst hc0
        refine ⟨by simp only [Cont.len, Cont.w, List.length_set, Nat.mul_one]; rw [hDl]; exact hlen, fun r hr j s hs v' hv'' => ?_⟩
        simp only [Cont.row] at hs
        have hj : j = 0 := by
          cases j with
          | zero => rfl
          | succ j => simp at hs
        subst hj
        simp at hs
        subst hs
        simp only [Cont.w, Nat.mul_one, Cont.len, List.length_set, Nat.add_zero] at *
        rcases hD r v' hv'' with ⟨h1, h2⟩ | ⟨h1, h2, h3⟩ | ⟨h1, h2⟩
        · have := hB.2 r (by simpa [Cont.len] using hr) 0 (.i k (xs.getD r 0)) (by simp [Cont.row]) v' (by simpa [Cont.w] using h2)
          rw [List.getElem?_set_ne (by omega)]
          simpa [List.getD_eq_getElem?_getD] using this
        · have e : r = row := by simp at h2; omega
          subst e
          simp at h3
          subst h3
          rw [List.getElem?_set_self (by simpa using hrow)]
          exact hv0
        · have := hB.2 r (by simpa [Cont.len] using hr) 0 (.i k (xs.getD r 0)) (by simp [Cont.row]) v' (by simpa [Cont.w] using h2)
          simp at h1
          rw [List.getElem?_set_ne (by omega)]
          simpa [List.getD_eq_getElem?_getD] using this
      · cases h
    · cases h
  | recs l xs =>
    have hw : (Cont.recs l xs).w = l.length := rfl
    have hle : (Cont.recs l xs).len = xs.length := rfl
    rw [hw] at hin hlen hD hDl hcol ⊢
    rw [hle] at hin hlen hrow
    simp only [Cont.set] at h
    split at h
    · rename_i r hr
      cases h
      have hold := (BV.rgn hB).row (r := row) hrow
      rw [Nat.zero_add, hw] at hold
      have hnew := encRow_dec hr (((hold.take col).append hv).append (hold.drop (col + us.length)))
      refine ⟨by simp only [Cont.len, Cont.w, List.length_set]; rw [hDl]; exact hlen, fun r' hr' j s hs v' hv'' => ?_⟩
      simp only [Cont.len, List.length_set] at hr'
      simp only [Cont.row] at hs
      have hjw : j < l.length := by
        have := (List.getElem?_eq_some_iff.1 hs).1
        rwa [rowFrom_len] at this
      simp only [Cont.w] at *
      by_cases e : r' = row
      · subst e
        rw [List.getD_eq_getElem?_getD, List.getElem?_set_self hrow, Option.getD_some] at hs
        refine hnew.2 j s v' hs ?_
        simp only [List.getElem?_append, List.length_append, List.length_take, List.length_drop, List.getElem?_take, List.getElem?_drop]
        have hm1 : min l.length (cs.length - r' * l.length) = l.length := by rw [hlen]; omega
        have hm2 : min col l.length = col := by omega
        rw [hm1, hm2]
        rcases hD _ _ hv'' with ⟨h1, h2⟩ | ⟨h1, h2, h3⟩ | ⟨h1, h2⟩
        · rw [if_pos (by omega), if_pos (by omega), if_pos (by omega), if_pos (by omega)]; exact h2
        · rw [if_pos (by omega), if_neg (by omega)]
          rw [show r' * l.length + j - (r' * l.length + col) = j - col by omega] at h3
          exact h3
        · rw [if_neg (by omega), if_pos (by omega)]
          rw [show r' * l.length + (col + us.length + (j - (col + vs.length))) = r' * l.length + j by omega]
          exact h2
      · rw [List.getD_eq_getElem?_getD, List.getElem?_set_ne (Ne.symm e), ← List.getD_eq_getElem?_getD] at hs
        refine hB.2 r' hr' j s hs v' ?_
        rcases hD _ _ hv'' with ⟨h1, h2⟩ | ⟨h1, h2, h3⟩ | ⟨h1, h2⟩
        · exact h2
        · exfalso
          rcases Nat.lt_or_gt_of_ne e with hlt | hgt
          · have := row_in (w := l.length) hlt
            omega
          · have := row_in (w := l.length) hgt
            omega
        · exact h2
    · cases h

theorem setCells_of {x off : Nat} {vs : List Value} {c : Blk} (h : H.get x = some c) (hm : H.lock ≤ x) (h0 : 0 < vs.length) (hl : off + vs.length ≤ c.cells.length) :
    setCells H x off vs = some (H.put x (some ⟨c.cells.take off ++ vs ++ c.cells.drop (off + vs.length)⟩)) := by
  unfold setCells
  rw [h]
  simp only
  rw [if_pos]
  simp [mine_iff, hm, h0, hl]

theorem writeS_sound (hS : Sim φ S H) {p : SV} {us : List SV} {k : SHeap → Option R} {r : R} {v : Value} {vs : List Value} (hp : DV φ H (Own φ S) p v) (hv : DVL φ H (Own φ S) us vs) (h : writeS S p us k = some r) :
    ∃ x o S' H', v = .pointer (some ⟨x, o, none⟩) ∧ setCells H x o vs = some H' ∧ Step φ S H φ S' H' ∧ k S' = some r ∧ ∃ id row w col B', p = .ptr id row w col ∧ S' = S.put id (some B') ∧ φ id = some (some x) ∧ ∃ B0, S.get id = some B0 := by
  unfold writeS at h
  split at h
  · rename_i id row w col
    split at h
    · rename_i hc
      simp only [Bool.and_eq_true, decide_eq_true_eq] at hc
      obtain ⟨hl, hn⟩ := hc
      cases hp with
      | ptr _ _ _ _ x hx =>
        have hvl := hv.1
        split at h
        · rename_i l hB
          rcases hS.blk _ _ hB with ⟨h0, _⟩ | ⟨y, c, h1, h2, h3, h4⟩
          · rw [hx] at h0; cases h0
          · rw [hx] at h1; cases h1
            obtain ⟨hlen, h⟩ := writeL_sound h
            have h5 := h4.1
            refine ⟨x, _, _, _, rfl, setCells_of h2 (h3 hl) (by omega) (by omega), Step.put hS hB hx h2 hl (by simp; omega) ?_, h, _, _, _, _, _, rfl, rfl, hx, _, hB⟩
            rw [← hvl]
            exact ((DVL.take h4 _).append hv).append (DVL.drop h4 _)
        · rename_i c hB
          rcases hS.blk _ _ hB with ⟨h0, _⟩ | ⟨y, c', h1, h2, h3, h4⟩
          · rw [hx] at h0; cases h0
          · rw [hx] at h1; cases h1
            split at h
            · rename_i hc
              simp only [Bool.and_eq_true, beq_iff_eq, decide_eq_true_eq] at hc
              obtain ⟨hw, hcol⟩ := hc
              subst hw
              split at h
              · rename_i hrow
                have hrow := of_decide_eq_true hrow
                split at h
                · rename_i c2 hset
                  have hin := row_in (w := c.w) hrow
                  have hlen := h4.1
                  refine ⟨x, _, _, _, rfl, setCells_of h2 (h3 hl) (by omega) (by omega), Step.put hS hB hx h2 hl (by simp; omega) ?_, h, _, _, _, _, _, rfl, rfl, hx, _, hB⟩
                  exact Cont.set_sound hset hrow hcol h4 hv
                · cases h
              · cases h
            · cases h
        · cases h
    · cases h
  · cases h

theorem storeS_sound (hS : Sim φ S H) {t : TypeId} {p u : SV} {k : SHeap → Option R} {r : R} {v w : Value} (hp : DV φ H (Own φ S) p v) (hu : DV φ H (Own φ S) u w) (h : storeS P S t p u k = some r) :
    ∃ S' H', storeE P H t v w = some H' ∧ Step φ S H φ S' H' ∧ k S' = some r ∧ ∃ id row w col B' x, p = .ptr id row w col ∧ S' = S.put id (some B') ∧ φ id = some (some x) ∧ (∃ B0, S.get id = some B0) ∧ ∀ z, z ≠ x → H'.get z = H.get z := by
  unfold storeS at h
  split at h
  · rename_i cs i hcs hi
    split at h
    · rename_i hlen
      have hlen := of_decide_eq_true hlen
      obtain ⟨vs, h1, h2⟩ := cellsS_sound hu hcs
      obtain ⟨x, o, S', H', rfl, h3, h4, h5, id, row, w, col, B', g1, g2, g3, g4⟩ := writeS_sound hS hp h2 h
      refine ⟨S', H', ?_, h4, h5, id, row, w, col, B', x, g1, g2, g3, g4, ?_⟩
      rotate_left
      · intro z hz
        unfold setCells at h3
        split at h3
        · split at h3
          · cases h3; exact Heap.get_put_other _ _ _ _ hz
          · cases h3
        · cases h3
      unfold storeE
      simp only [h1, hi]
      rw [if_pos (by rw [← h2.1]; exact hlen)]
      exact h3
    · cases h
  · cases h

theorem svOfC_sound {v : Value} {s : SV} (h : svOfC v = some s) : constOk v = true ∧ DV φ H own s v := by
  unfold svOfC at h
  split at h <;> first | (cases h; done) | (cases h; exact ⟨rfl, by constructor⟩)
theorem svsOfC_sound : ∀ {vs : List Value} {l : List SV}, svsOfC vs = some l → vs.all constOk = true ∧ DVL φ H own l vs
  | [], l, h => by simp [svsOfC] at h; subst h; exact ⟨rfl, .nil⟩
  | v :: vs, l, h => by
    simp only [svsOfC] at h
    split at h
    · rename_i a r h1 h2
      cases h
      obtain ⟨a1, a2⟩ := svOfC_sound (φ := φ) (H := H) (own := own) h1
      obtain ⟨b1, b2⟩ := svsOfC_sound h2
      exact ⟨by simp [a1, b1], .cons a2 b2⟩
    · cases h

theorem opndS_sound {fr : List SV} {fv : List Value} (hf : DVL φ H own fr fv) {x : Operand} {s : SV} (h : opndS fr x = some s) : ∃ v, opnd fv x = some v ∧ DV φ H own s v := by
  cases x with
  | tmp t =>
    simp only [opndS, Option.some.injEq] at h
    subst h
    refine ⟨_, rfl, ?_⟩
    rw [List.getD_eq_getElem?_getD, List.getD_eq_getElem?_getD]
    by_cases ht : t < fr.length
    · have ht' : t < fv.length := by rw [← hf.1]; exact ht
      rw [List.getElem?_eq_getElem ht, List.getElem?_eq_getElem ht']
      exact hf.2 t _ _ (List.getElem?_eq_getElem ht) (List.getElem?_eq_getElem ht')
    · rw [List.getElem?_eq_none (Nat.le_of_not_lt ht), List.getElem?_eq_none (by rw [← hf.1]; exact Nat.le_of_not_lt ht)]
      exact .tup [] #[] rfl (fun i s v h => by simp at h)
  | const v =>
    simp only [opndS] at h
    obtain ⟨h1, h2⟩ := svOfC_sound (φ := φ) (H := H) (own := own) h
    exact ⟨v, by simp [opnd, h1], h2⟩
  | global g => simp [opndS] at h
  | func f =>
    simp only [opndS, Option.some.injEq] at h
    subst h
    exact ⟨_, rfl, .fn f [] [] #[] #[] rfl rfl (fun i s v h => by simp at h) (fun i s v h => by simp at h)⟩
end
end
end Go.Proofs.Ytoiijpphfckdjaa.Ev
