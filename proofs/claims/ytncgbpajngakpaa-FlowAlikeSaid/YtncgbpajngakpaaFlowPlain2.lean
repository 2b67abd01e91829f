/- A part of the walk. -/
import Derived.Test.YtncgbpajngakpaaFlowPlain
namespace Go.Proofs.Ytncgbpajngakpaa
open Go Go.Proofs.Ytncgbpajngakpaa.Ev
set_option linter.unusedVariables false
set_option linter.unusedSimpArgs false
set_option linter.unnecessarySimpa false

theorem giveAll_zero (j : Nat) : ∀ c : List Dat, (∀ d ∈ c, claimG d = true) → giveAll j (List.replicate c.length 0) c = c
  | [], _ => rfl
  | d :: c, h => by
    simp only [List.length_cons, List.replicate_succ, giveAll]
    rw [less_zero (claimG_at (h d (by simp))).1, giveAll_zero j c (fun x hx => h x (by simp [hx]))]
/-- With no cash nothing is paid. -/
theorem sharesV_zero {c : List Dat} (sel : Dat → Bool) {j : Nat} (hj : j = 1 ∨ j = 2) {n : Int} (hn : n ≤ 0) (h : claimsG c = true) : (sharesV sel j n c).sum = 0 ∧ giveAll j (sharesV sel j n c) c = c ∧ ∀ a k i, payAll a k i (sharesV sel j n c) = [] := by
  obtain ⟨l1, l2, l3⟩ := sharesV_ok sel hj n h
  obtain ⟨_, _, w0, _⟩ := wantV_ok sel hj h
  have hm := shares_mem sel hj n h
  obtain ⟨h1, h2⟩ := claimsG_at h
  have hs : (sharesV sel j n c).sum = 0 := by rw [l2]; omega
  have hz := zeros_of_sum _ hm hs
  rw [l1] at hz
  refine ⟨hs, ?_, fun a k i => ?_⟩
  · rw [hz]; exact giveAll_zero j c h2
  · rw [hz]
    clear hz hs l1 l2 l3 hm w0 h1 h h2
    generalize c.length = m
    induction m generalizing i with
    | zero => rfl
    | succ m ih => simp only [List.replicate_succ, payAll, ih]; simp
theorem rankV_zero (a kd : Int) : ∀ (k : Nat) (r n : Int) (c : List Dat), n ≤ 0 → claimsG c = true → rankV a kd k r n c = (c, [], 0)
  | 0, r, n, c, _, _ => rfl
  | k + 1, r, n, c, hn, h => by
    obtain ⟨z1, z2, z3⟩ := sharesV_zero (rankS r) (j := 1) (.inl rfl) hn h
    simp only [rankV, z1, z2, z3]
    rw [rankV_zero a kd k (r + 1) _ c (by omega) h]
    rfl
theorem stepV_zero (a kd rk : Int) {x : RunN} {c : List Dat} (hx : runG x = true) (h : claimsG c = true) (h0 : x.cash = 0) : stepV a kd rk x c = (x, c, []) := by
  have hx' := runG_at hx
  obtain ⟨cash, fee, recoup, pri, room⟩ := x
  simp only at hx' h0
  subst h0
  have m1 : ∀ z : Int, 0 ≤ z → min z 0 = 0 := fun z hz => by omega
  have r0 := rankV_zero a kd 8 0 0 c (Int.le_refl 0) h
  unfold stepV
  simp only [m1 _ hx'.2.1.1, m1 _ hx'.2.2.1.1, m1 _ hx'.2.2.2.1.1, m1 _ hx'.2.2.2.2.1, Int.sub_zero, r0]
  have p1 : ∀ k, payOne a k 0 = [] := fun k => rfl
  obtain ⟨y1, y2, y3⟩ := sharesV_zero (rankS rk) (j := 2) (.inr rfl) (Int.le_refl 0) h
  obtain ⟨z1, z2, z3⟩ := sharesV_zero (fun _ => true) (j := 1) (.inl rfl) (Int.le_refl 0) h
  simp only [p1, y1, y2, y3, z1, z2, z3, Int.sub_zero, ite_self]
theorem runV_zero : ∀ (l : List Dat) (a : Int) {x : RunN} {c : List Dat}, runG x = true → claimsG c = true → x.cash = 0 → runV a l x c = (x, c, [])
  | [], a, x, c, _, _, _ => rfl
  | s :: l, a, x, c, hx, h, h0 => by
    simp only [runV, stepV_zero a (s.i 0) (s.i 1) hx h h0]
    rw [runV_zero l (a + 1) hx h h0]
    rfl
/-- What is wanted of ranks, together. -/
def rankW : Nat → Int → List Dat → Int
  | 0, _, _ => 0
  | k + 1, r, c => wantV (rankS r) 1 c + rankW k (r + 1) c
theorem want_give {c : List Dat} (r q n : Int) (hq : q ≠ r) (h : claimsG c = true) : wantV (rankS q) 1 (giveAll 1 (sharesV (rankS r) 1 n c) c) = wantV (rankS q) 1 c := by
  obtain ⟨l1, l2, l3⟩ := sharesV_ok (rankS r) (j := 1) (.inl rfl) n h
  unfold wantV
  have key : ∀ (xs : List Int) (c : List Dat), xs.length = c.length → (∀ i, i < c.length → 0 ≤ xs.getD i 0 ∧ xs.getD i 0 ≤ bif rankS r (rowD c i) then (rowD c i).i 1 else 0) → ((giveAll 1 xs c).map fun d => bif rankS q d then d.i 1 else 0) = c.map fun d => bif rankS q d then d.i 1 else 0 := by
    intro xs
    induction xs with
    | nil => intro c hl _; rw [List.eq_nil_of_length_eq_zero hl.symm]; rfl
    | cons x xs ih =>
      intro c hl hb
      cases c with
      | nil => simp at hl
      | cons d c =>
        have h0 := hb 0 (by simp)
        simp only [List.getD_cons_zero, show rowD (d :: c) 0 = d from rfl] at h0
        simp only [giveAll, List.map_cons, ih c (by simpa using hl) (fun i hi => hb (i + 1) (by simpa using hi))]
        congr 1
        simp only [lessD, if_true, rankS, fld_i0, fld_i1] at h0 ⊢
        by_cases e : d.i 0 = q
        · rw [show (d.i 0 == r) = false by simp only [beq_eq_false_iff_ne]; omega] at h0
          simp only [cond_false] at h0
          rw [show (d.i 0 == q) = true by simp [e]]
          simp only [cond_true]; omega
        · rw [show (d.i 0 == q) = false by simp only [beq_eq_false_iff_ne]; exact e]; rfl
  rw [key _ _ l1 l3]
theorem rankW_give {c : List Dat} (r n : Int) (h : claimsG c = true) : ∀ (k : Nat) (q : Int), r < q → rankW k q (giveAll 1 (sharesV (rankS r) 1 n c) c) = rankW k q c
  | 0, _, _ => rfl
  | k + 1, q, hq => by simp only [rankW, want_give r q n (by omega) h, rankW_give r n h k (q + 1) (by omega)]
theorem rankW_nonneg {c : List Dat} (h : claimsG c = true) : ∀ (k : Nat) (r : Int), 0 ≤ rankW k r c
  | 0, _ => Int.le_refl 0
  | k + 1, r => by
    have := rankW_nonneg h k (r + 1)
    have := (wantV_ok (rankS r) (j := 1) (.inl rfl) h).2.2.1
    simp only [rankW]; omega
theorem rankV_total (a kd : Int) : ∀ (k : Nat) (r n : Int) (c : List Dat), claimsG c = true → (rankV a kd k r n c).2.2 = min (max n 0) (rankW k r c)
  | 0, r, n, c, h => by simp only [rankV, rankW]; omega
  | k + 1, r, n, c, h => by
    obtain ⟨g1, g2⟩ := give_ok (rankS r) (j := 1) (.inl rfl) n h
    obtain ⟨l1, l2, l3⟩ := sharesV_ok (rankS r) (j := 1) (.inl rfl) n h
    obtain ⟨_, _, w0, w1⟩ := wantV_ok (rankS r) (j := 1) (.inl rfl) h
    have := rankW_nonneg h k (r + 1)
    simp only [rankV, rankW]
    rw [rankV_total a kd k (r + 1) _ _ g1, rankW_give r n h k (r + 1) (by omega)]
    omega
/-- Where there is enough, more makes no difference. -/
theorem sharesV_full {c : List Dat} (sel : Dat → Bool) {j : Nat} (hj : j = 1 ∨ j = 2) {n : Int} (h : claimsG c = true) (hn : wantV sel j c ≤ n) : sharesV sel j n c = c.map fun d => bif sel d then d.i j else 0 := by
  obtain ⟨_, h2, h3, _⟩ := wantV_ok sel hj h
  exact proV_full h2 (by unfold wantV at hn; omega)
theorem rankV_full (a kd : Int) : ∀ (k : Nat) (r n n' : Int) (c : List Dat), claimsG c = true → rankW k r c ≤ n → rankW k r c ≤ n' → rankV a kd k r n c = rankV a kd k r n' c
  | 0, r, n, n', c, _, _, _ => rfl
  | k + 1, r, n, n', c, h, h1, h2 => by
    obtain ⟨_, _, w0, w1⟩ := wantV_ok (rankS r) (j := 1) (.inl rfl) h
    have hw := rankW_nonneg h k (r + 1)
    simp only [rankW] at h1 h2
    have e1 := sharesV_full (rankS r) (j := 1) (.inl rfl) h (n := n) (by omega)
    have e2 := sharesV_full (rankS r) (j := 1) (.inl rfl) h (n := n') (by omega)
    obtain ⟨g1, g2⟩ := give_ok (rankS r) (j := 1) (.inl rfl) n h
    have s2 := (sharesV_ok (rankS r) (j := 1) (.inl rfl) n h).2.1
    have hg := rankW_give r n h k (r + 1) (by omega)
    simp only [rankV]
    rw [e2, ← e1]
    rw [rankV_full a kd k (r + 1) _ (n' - (sharesV (rankS r) 1 n c).sum) _ g1 (by rw [hg]; omega) (by rw [hg]; omega)]
/-- A step with more cash: either it is the same, but for the cash that is left; or none is left with less, and what is paid is no less. -/
theorem stepV_more (a kd rk d : Int) {x : RunN} {c : List Dat} (hx : runG x = true) (h : claimsG c = true) (hd : 0 ≤ d) :
    (stepV a kd rk { x with cash := x.cash + d } c = ({ (stepV a kd rk x c).1 with cash := (stepV a kd rk x c).1.cash + d }, (stepV a kd rk x c).2)) ∨
    ((stepV a kd rk x c).1.cash = 0 ∧ (stepV a kd rk { x with cash := x.cash + d } c).1.cash ≤ d) := by
  have hx' := runG_at hx
  have one : ∀ z : Int, 0 ≤ z → (z ≤ x.cash ∧ min z (x.cash + d) = z ∧ min z x.cash = z) ∨ (x.cash - min z x.cash = 0 ∧ x.cash + d - min z (x.cash + d) ≤ d) := fun z hz => by omega
  unfold stepV
  simp only
  by_cases k1 : kd = 1
  · simp only [if_pos k1]
    rcases one x.fee hx'.2.1.1 with ⟨h0, h1, h2⟩ | h1
    · left; rw [h1, h2]; congr 2; omega
    · exact .inr h1
  simp only [if_neg k1]
  by_cases k2 : kd = 2
  · simp only [if_pos k2]
    rcases one x.recoup hx'.2.2.1.1 with ⟨h0, h1, h2⟩ | h1
    · left; rw [h1, h2]; congr 2; omega
    · exact .inr h1
  simp only [if_neg k2]
  by_cases k6 : kd = 6
  · simp only [if_pos k6]
    rcases one x.room hx'.2.2.2.2.1 with ⟨h0, h1, h2⟩ | h1
    · left; rw [h1, h2]; congr 2; omega
    · exact .inr h1
  simp only [if_neg k6]
  by_cases k3 : kd = 3
  · simp only [if_pos k3]
    obtain ⟨_, _, w0, w1⟩ := wantV_ok (rankS rk) (j := 2) (.inr rfl) h
    have s1 := (sharesV_ok (rankS rk) (j := 2) (.inr rfl) x.cash h).2.1
    have s2 := (sharesV_ok (rankS rk) (j := 2) (.inr rfl) (x.cash + d) h).2.1
    by_cases hw : wantV (rankS rk) 2 c ≤ x.cash
    · left
      rw [sharesV_full (rankS rk) (.inr rfl) h (n := x.cash + d) (by omega), ← sharesV_full (rankS rk) (.inr rfl) h hw]
      congr 2; omega
    · right; omega
  simp only [if_neg k3]
  by_cases k4 : kd = 4
  · simp only [if_pos k4]
    have t1 := rankV_total a kd 8 0 (min x.principal x.cash) c h
    have t2 := rankV_total a kd 8 0 (min x.principal (x.cash + d)) c h
    have hw0 := rankW_nonneg h 8 0
    by_cases hw : rankW 8 0 c ≤ min x.principal x.cash
    · left
      rw [rankV_full a kd 8 0 (min x.principal (x.cash + d)) (min x.principal x.cash) c h (by omega) hw]
      generalize rankV a kd 8 0 (min x.principal x.cash) c = y at *
      congr 2; omega
    · by_cases hp : x.principal ≤ x.cash
      · left
        rw [show min x.principal (x.cash + d) = min x.principal x.cash by omega]
        generalize rankV a kd 8 0 (min x.principal x.cash) c = y at *
        congr 2; omega
      · right
        generalize rankV a kd 8 0 (min x.principal x.cash) c = y at *
        generalize rankV a kd 8 0 (min x.principal (x.cash + d)) c = z at *
        generalize rankW 8 0 c = w at *
        omega
  simp only [if_neg k4]
  by_cases k5 : kd = 5
  · simp only [if_pos k5]
    obtain ⟨_, _, w0, w1⟩ := wantV_ok (fun _ => true) (j := 1) (.inl rfl) h
    have s1 := (sharesV_ok (fun _ => true) (j := 1) (.inl rfl) (min x.principal x.cash) h).2.1
    have s2 := (sharesV_ok (fun _ => true) (j := 1) (.inl rfl) (min x.principal (x.cash + d)) h).2.1
    by_cases hw : wantV (fun _ => true) 1 c ≤ min x.principal x.cash
    · left
      rw [sharesV_full (fun _ => true) (.inl rfl) h (n := min x.principal (x.cash + d)) (by omega), ← sharesV_full (fun _ => true) (.inl rfl) h hw]
      congr 2; omega
    · by_cases hp : x.principal ≤ x.cash
      · left
        rw [show min x.principal (x.cash + d) = min x.principal x.cash by omega]
        congr 2; omega
      · right; omega
  simp only [if_neg k5]
  by_cases k7 : kd = 7
  · simp only [if_pos k7]
    have t1 := rankV_total a kd 8 0 x.cash c h
    have t2 := rankV_total a kd 8 0 (x.cash + d) c h
    have hw0 := rankW_nonneg h 8 0
    by_cases hw : rankW 8 0 c ≤ x.cash
    · left
      rw [rankV_full a kd 8 0 (x.cash + d) x.cash c h (by omega) hw]
      generalize rankV a kd 8 0 x.cash c = y at *
      congr 2; omega
    · right
      generalize rankV a kd 8 0 x.cash c = y at *
      generalize rankV a kd 8 0 (x.cash + d) c = z at *
      generalize rankW 8 0 c = w at *
      omega
  simp only [if_neg k7]
  left; trivial
def ofStep (s : Int) (d : Dat) : Bool := d.i 0 == s
theorem sumW_nonneg (f : Dat → Bool) : ∀ l : List Dat, (∀ d ∈ l, 0 ≤ d.i 3) → 0 ≤ sumW f l
  | [], _ => Int.le_refl 0
  | d :: l, h => by
    have := h d (by simp)
    have := sumW_nonneg f l fun x hx => h x (by simp [hx])
    simp only [sumW]
    cases f d <;> simp only [cond_true, cond_false] <;> omega
/-- With more cash no step pays less. -/
theorem runV_more (d : Int) (hd : 0 ≤ d) : ∀ (l : List Dat) (a : Int) (x : RunN) (c : List Dat), runG x = true → runG { x with cash := x.cash + d } = true → claimsG c = true → ∀ s, sumW (ofStep s) (runV a l x c).2.2 ≤ sumW (ofStep s) (runV a l { x with cash := x.cash + d } c).2.2
  | [], a, x, c, _, _, _, s => Int.le_refl _
  | t :: l, a, x, c, hx, hx2, h, s => by
    obtain ⟨h1, h2, h3, h4⟩ := stepV_ok a (t.i 0) (t.i 1) hx h
    obtain ⟨g1, g2, g3, g4⟩ := stepV_ok a (t.i 0) (t.i 1) hx2 h
    obtain ⟨k1, k2⟩ := stepV_kept a (t.i 0) (t.i 1) hx h
    obtain ⟨q1, q2⟩ := stepV_kept a (t.i 0) (t.i 1) hx2 h
    simp only [runV, sumW_app]
    rcases stepV_more a (t.i 0) (t.i 1) d hx h hd with e | ⟨e1, e2⟩
    · rw [e] at g1 ⊢
      have := runV_more d hd l (a + 1) _ _ h1 g1 h2 s
      simp only at this ⊢
      omega
    · rw [runV_zero l (a + 1) h1 h2 e1]
      have c1 := k1.cash
      have c2 := q1.cash
      simp only at c2
      have p2 := sumW_nonneg (ofStep s) _ fun y hy => by
        have := ((runV_kept l (a + 1) _ _ g1 g2).2.1 y hy).2.2.2.1
        omega
      have st : ∀ ps : List Dat, (∀ y ∈ ps, y.i 0 = a) → sumW (ofStep s) ps = if s = a then sumI 3 ps else 0 := by
        intro ps hp
        by_cases e : s = a
        · rw [if_pos e, sumW_all]; intro y hy; simp only [ofStep, hp y hy, e, beq_self_eq_true]
        · rw [if_neg e, sumW_none]; intro y hy; simp only [ofStep, hp y hy, beq_eq_false_iff_ne]; omega
      rw [st _ fun y hy => (k2 y hy).1, st _ fun y hy => (q2 y hy).1]
      simp only [sumW]
      have hn1 := sumI_nonneg 3 _ fun y hy => by have := (k2 y hy).2.2.1; omega
      split <;> omega
/-- The steps' numbers shifted. -/
def shiftD (n : Int) (d : Dat) : Dat := .r [.n (d.i 0 + n), .n (d.i 1), .n (d.i 2), .n (d.i 3)]
theorem payAll_shift (n a k : Int) : ∀ (xs : List Int) (i : Int), (payAll a k i xs).map (shiftD n) = payAll (a + n) k i xs
  | [], i => rfl
  | x :: xs, i => by
    simp only [payAll, List.map_append, payAll_shift n a k xs]
    split <;> rfl
theorem payOne_shift (n a k z : Int) : (payOne a k z).map (shiftD n) = payOne (a + n) k z := by unfold payOne; split <;> rfl
theorem rankV_shift (n a kd : Int) : ∀ (k : Nat) (r z : Int) (c : List Dat), rankV (a + n) kd k r z c = ((rankV a kd k r z c).1, (rankV a kd k r z c).2.1.map (shiftD n), (rankV a kd k r z c).2.2)
  | 0, r, z, c => rfl
  | k + 1, r, z, c => by simp only [rankV, rankV_shift n a kd k, List.map_append, payAll_shift]
theorem stepV_shift (n a kd rk : Int) (x : RunN) (c : List Dat) : stepV (a + n) kd rk x c = ((stepV a kd rk x c).1, (stepV a kd rk x c).2.1, (stepV a kd rk x c).2.2.map (shiftD n)) := by
  unfold stepV
  simp only [rankV_shift n a kd]
  by_cases k1 : kd = 1
  · simp only [if_pos k1, payOne_shift]
  simp only [if_neg k1]
  by_cases k2 : kd = 2
  · simp only [if_pos k2, payOne_shift]
  simp only [if_neg k2]
  by_cases k6 : kd = 6
  · simp only [if_pos k6, payOne_shift]
  simp only [if_neg k6]
  by_cases k3 : kd = 3
  · simp only [if_pos k3, payAll_shift]
  simp only [if_neg k3]
  by_cases k4 : kd = 4
  · simp only [if_pos k4]
  simp only [if_neg k4]
  by_cases k5 : kd = 5
  · simp only [if_pos k5, payAll_shift]
  simp only [if_neg k5]
  by_cases k7 : kd = 7
  · simp only [if_pos k7]
  simp only [if_neg k7]
  rfl
theorem runV_shift (n : Int) : ∀ (l : List Dat) (a : Int) (x : RunN) (c : List Dat), runV (a + n) l x c = ((runV a l x c).1, (runV a l x c).2.1, (runV a l x c).2.2.map (shiftD n))
  | [], a, x, c => rfl
  | s :: l, a, x, c => by
    simp only [runV, stepV_shift n a, show a + n + 1 = a + 1 + n by omega, runV_shift n l (a + 1), List.map_append]
theorem runV_app : ∀ (l1 l2 : List Dat) (a : Int) (x : RunN) (c : List Dat), runV a (l1 ++ l2) x c =
    ((runV (a + l1.length) l2 (runV a l1 x c).1 (runV a l1 x c).2.1).1, (runV (a + l1.length) l2 (runV a l1 x c).1 (runV a l1 x c).2.1).2.1, (runV a l1 x c).2.2 ++ (runV (a + l1.length) l2 (runV a l1 x c).1 (runV a l1 x c).2.1).2.2)
  | [], l2, a, x, c => by simp [runV]
  | s :: l1, l2, a, x, c => by
    simp only [List.cons_append, runV, runV_app l1 l2 (a + 1), List.length_cons, Int.natCast_add, Int.cast_ofNat_Int, List.append_assoc]
    rw [show a + 1 + (l1.length : Int) = a + ((l1.length : Int) + 1) by omega]
theorem sumW_snoc (f : Dat → Bool) (l : List Dat) (x : Dat) : sumW f (l ++ [x]) = sumW f l + bif f x then x.i 3 else 0 := by simp [sumW_app, sumW]
theorem sumW_le (f : Dat → Bool) (b : Int) : ∀ l : List Dat, (∀ d ∈ l, 0 ≤ d.i 3 ∧ d.i 3 ≤ b) → 0 ≤ b → 0 ≤ sumW f l ∧ sumW f l ≤ b * l.length
  | [], _, _ => by simp [sumW]
  | d :: l, h, hb => by
    have h1 := h d (by simp)
    have h2 := sumW_le f b l (fun x hx => h x (by simp [hx])) hb
    simp only [sumW, List.length_cons, Int.natCast_add, Int.mul_add]
    cases f d <;> simp only [cond_true, cond_false] <;> omega
def tallyV (f : Nat → Dat → Bool) (ps : List Dat) (n : Nat) : List Int := (List.range n).map fun i => sumW (f i) ps
theorem tallyV_len (f : Nat → Dat → Bool) (ps : List Dat) (n : Nat) : (tallyV f ps n).length = n := by simp [tallyV]
theorem tallyV_get (f : Nat → Dat → Bool) (ps : List Dat) {n t : Nat} (h : t < n) : (tallyV f ps n).getD t 0 = sumW (f t) ps := by simp [tallyV, List.getD_eq_getElem?_getD, h]
theorem tallyV_skip (f : Nat → Dat → Bool) (ps : List Dat) (n : Nat) (x : Dat) (h : ∀ i, f i x = false) : tallyV f (ps ++ [x]) n = tallyV f ps n := by
  unfold tallyV
  congr 1
  funext i
  simp only [sumW_app, sumW, h i, cond_false, Int.add_zero]
theorem tallyV_set (f : Nat → Dat → Bool) (ps : List Dat) (n t : Nat) (x : Dat) (ht : t < n) (h : ∀ i, f i x = decide (i = t)) : (tallyV f ps n).set t ((tallyV f ps n).getD t 0 + x.i 3) = tallyV f (ps ++ [x]) n := by
  apply List.ext_getElem?
  intro i
  rw [tallyV_get f ps ht, List.getElem?_set, tallyV_len]
  by_cases hi : i < n
  · by_cases e : t = i
    · subst e
      simp [tallyV, hi, sumW_app, sumW, h t]
    · have : decide (i = t) = false := decide_eq_false (Ne.symm e)
      simp [tallyV, hi, e, sumW_app, sumW, h i, this]
  · have e : ¬ t = i := by omega
    simp [tallyV, hi, e]

end Go.Proofs.Ytncgbpajngakpaa
