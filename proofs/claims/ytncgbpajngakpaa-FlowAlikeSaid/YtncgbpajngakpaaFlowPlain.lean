/- A part of the walk. -/
import Derived.Test.YtncgbpajngakpaaSame
namespace Go.Proofs.Ytncgbpajngakpaa
open Go Go.Proofs.Ytncgbpajngakpaa.Ev
set_option linter.unusedVariables false
set_option linter.unusedSimpArgs false
set_option linter.unnecessarySimpa false

/-- What those payments are together that are asked for. -/
def sumW (f : Dat → Bool) : List Dat → Int
  | [] => 0
  | d :: l => (bif f d then d.i 3 else 0) + sumW f l
theorem sumW_app (f : Dat → Bool) : ∀ a b : List Dat, sumW f (a ++ b) = sumW f a + sumW f b
  | [], b => by simp [sumW]
  | d :: a, b => by simp only [List.cons_append, sumW, sumW_app f a b]; omega
theorem sumW_none (f : Dat → Bool) : ∀ l : List Dat, (∀ d ∈ l, f d = false) → sumW f l = 0
  | [], _ => rfl
  | d :: l, h => by simp only [sumW, h d (by simp), sumW_none f l (fun x hx => h x (by simp [hx])), cond_false]; rfl
theorem sumW_all (f : Dat → Bool) : ∀ l : List Dat, (∀ d ∈ l, f d = true) → sumW f l = sumI 3 l
  | [], _ => rfl
  | d :: l, h => by simp only [sumW, sumI, h d (by simp), sumW_all f l (fun x hx => h x (by simp [hx])), cond_true]
theorem sumW_same {f g : Dat → Bool} : ∀ l : List Dat, (∀ d ∈ l, f d = g d) → sumW f l = sumW g l
  | [], _ => rfl
  | d :: l, h => by simp only [sumW, h d (by simp), sumW_same l (fun x hx => h x (by simp [hx]))]
/-- Which payments are of a fee, of advances, of the reserve, of interest, of principal, and out of the period's. -/
def kF (d : Dat) : Bool := d.i 1 == 1
def kR (d : Dat) : Bool := d.i 1 == 2
def kT (d : Dat) : Bool := d.i 1 == 6
def kI (d : Dat) : Bool := d.i 1 == 3
def kB (d : Dat) : Bool := !kF d && !kR d && !kT d && !kI d
def kP (d : Dat) : Bool := kB d && d.i 1 != 7
def toI (i : Nat) (d : Dat) : Bool := kI d && d.i 2 == (i : Int)
def toB (i : Nat) (d : Dat) : Bool := kB d && d.i 2 == (i : Int)
theorem payAll_row (a k : Int) : ∀ (xs : List Int) (i : Int), ∀ d ∈ payAll a k i xs, d.i 0 = a ∧ d.i 1 = k ∧ (i ≤ d.i 2 ∧ d.i 2 < i + xs.length) ∧ 1 ≤ d.i 3 ∧ d.i 3 = xs.getD (d.i 2 - i).toNat 0
  | [], i, d, h => by simp [payAll] at h
  | x :: xs, i, d, h => by
    simp only [payAll, List.mem_append] at h
    rcases h with h | h
    · by_cases hx : 0 < x
      · rw [if_pos hx] at h
        rw [List.mem_singleton.1 h]
        refine ⟨rfl, rfl, ?_, ?_, ?_⟩
        · simp only [fld_i2, List.length_cons, Int.natCast_add]; omega
        · simp only [fld_i3]; omega
        · simp only [fld_i2, fld_i3, Int.sub_self, Int.toNat_zero, List.getD_cons_zero]
      · rw [if_neg hx] at h; cases h
    · obtain ⟨h1, h2, h3, h4, h5⟩ := payAll_row a k xs (i + 1) d h
      simp only [List.length_cons, Int.natCast_add]
      refine ⟨h1, h2, by omega, h4, ?_⟩
      rw [show (d.i 2 - i).toNat = (d.i 2 - (i + 1)).toNat + 1 by omega, List.getD_cons_succ]
      exact h5
theorem payAll_at (a k : Int) : ∀ (xs : List Int) (i : Int) (j : Nat), (∀ x ∈ xs, 0 ≤ x) → sumW (fun d => d.i 2 == i + j) (payAll a k i xs) = xs.getD j 0
  | [], i, j, _ => by simp [payAll, sumW]
  | x :: xs, i, j, h => by
    have h0 := h x (by simp)
    simp only [payAll, sumW_app]
    cases j with
    | zero =>
      have e : sumW (fun d => d.i 2 == i + ((0 : Nat) : Int)) (payAll a k (i + 1) xs) = 0 := sumW_none _ _ fun d hd => by
        have := payAll_row a k xs (i + 1) d hd
        simp only [beq_eq_false_iff_ne]; omega
      rw [e, List.getD_cons_zero]
      by_cases hx : 0 < x
      · rw [if_pos hx]; simp [sumW, fld_i2, fld_i3]
      · rw [if_neg hx]; simp only [sumW]; omega
    | succ j =>
      have := payAll_at a k xs (i + 1) j fun y hy => h y (by simp [hy])
      rw [show i + 1 + (j : Int) = i + ((j + 1 : Nat) : Int) by omega] at this
      rw [this, List.getD_cons_succ]
      by_cases hx : 0 < x
      · rw [if_pos hx]; simp only [sumW, fld_i2]
        rw [show (i == i + ((j + 1 : Nat) : Int)) = false by simp only [beq_eq_false_iff_ne]; omega]
        simp
      · rw [if_neg hx]; simp [sumW]
/-- From a work and its claims to what is behind payments. -/
structure Kept (x : RunN) (c ps : List Dat) (x' : RunN) (c' : List Dat) : Prop where
  cash : x'.cash = x.cash - sumI 3 ps
  fee : x'.fee = x.fee - sumW kF ps
  recoup : x'.recoup = x.recoup - sumW kR ps
  room : x'.room = x.room - sumW kT ps
  pri : x'.principal = x.principal - sumW kP ps
  len : c'.length = c.length
  row : ∀ i, i < c.length → rowD c' i = .r [.n ((rowD c i).i 0), .n ((rowD c i).i 1 - sumW (toB i) ps), .n ((rowD c i).i 2 - sumW (toI i) ps)]
theorem Kept.refl {x : RunN} {c : List Dat} (h : ∀ d ∈ c, rowOk 3 d = true) : Kept x c [] x c := by
  refine ⟨by simp [sumI], by simp [sumW], by simp [sumW], by simp [sumW], by simp [sumW], rfl, fun i hi => ?_⟩
  simp only [sumW, Int.sub_zero]
  exact rowOk3 (h _ (rowD_in hi))
theorem Kept.trans {x x' x'' : RunN} {c c' c'' ps qs : List Dat} (a : Kept x c ps x' c') (b : Kept x' c' qs x'' c'') : Kept x c (ps ++ qs) x'' c'' := by
  refine ⟨?_, ?_, ?_, ?_, ?_, b.len.trans a.len, fun i hi => ?_⟩
  · rw [b.cash, a.cash, sumI_app]; omega
  · rw [b.fee, a.fee, sumW_app]; omega
  · rw [b.recoup, a.recoup, sumW_app]; omega
  · rw [b.room, a.room, sumW_app]; omega
  · rw [b.pri, a.pri, sumW_app]; omega
  · rw [b.row i (by rw [a.len]; exact hi), a.row i hi, sumW_app, sumW_app]
    simp only [fld_i0, fld_i1, fld_i2]
    rw [show (rowD c i).i 1 - sumW (toB i) ps - sumW (toB i) qs = (rowD c i).i 1 - (sumW (toB i) ps + sumW (toB i) qs) by omega, show (rowD c i).i 2 - sumW (toI i) ps - sumW (toI i) qs = (rowD c i).i 2 - (sumW (toI i) ps + sumW (toI i) qs) by omega]
/-- One sharing. -/
theorem Kept.shares {c : List Dat} (sel : Dat → Bool) (n : Int) (h : claimsG c = true) (x : RunN) (a : Int) {j : Nat} {kd : Int} (hk : (j = 2 ∧ kd = 3) ∨ (j = 1 ∧ (kd = 4 ∨ kd = 5 ∨ kd = 7))) :
    Kept x c (payAll a kd 0 (sharesV sel j n c)) { x with cash := x.cash - (sharesV sel j n c).sum, principal := if kd = 4 ∨ kd = 5 then x.principal - (sharesV sel j n c).sum else x.principal } (giveAll j (sharesV sel j n c) c) := by
  have hj : j = 1 ∨ j = 2 := by omega
  obtain ⟨l1, l2, l3⟩ := sharesV_ok sel hj n h
  obtain ⟨h1, h2⟩ := claimsG_at h
  have hm := shares_mem sel hj n h
  have hp := payAll_row a kd (sharesV sel j n c) 0
  have hs := payAll_sum a kd (sharesV sel j n c) 0 hm
  have hat := fun i => payAll_at a kd (sharesV sel j n c) 0 i hm
  have kk : ∀ d ∈ payAll a kd 0 (sharesV sel j n c), kF d = false ∧ kR d = false ∧ kT d = false ∧ kI d = (kd == 3) ∧ kB d = !(kd == 3) := fun d hd => by
    have := (hp d hd).2.1
    simp only [kB, kF, kR, kT, kI, this]
    rcases hk with ⟨_, rfl⟩ | ⟨_, rfl | rfl | rfl⟩ <;> decide
  refine ⟨by rw [hs], ?_, ?_, ?_, ?_, giveAll_len j _ c l1, fun i hi => ?_⟩
  · rw [sumW_none kF _ fun d hd => (kk d hd).1]; simp
  · rw [sumW_none kR _ fun d hd => (kk d hd).2.1]; simp
  · rw [sumW_none kT _ fun d hd => (kk d hd).2.2.1]; simp
  · by_cases h45 : kd = 4 ∨ kd = 5
    · simp only [if_pos h45]
      rw [sumW_all kP _ fun d hd => by
        have := (kk d hd).2.2.2.2
        have h6 := (hp d hd).2.1
        simp only [kP, this, h6]
        rcases h45 with rfl | rfl <;> rfl, hs]
    · simp only [if_neg h45]
      rw [sumW_none kP _ fun d hd => by
        have := (kk d hd).2.2.2.2
        have h6 := (hp d hd).2.1
        simp only [kP, this, h6]
        rcases hk with ⟨_, rfl⟩ | ⟨_, rfl | rfl | rfl⟩
        · rfl
        · exact absurd (.inl rfl) h45
        · exact absurd (.inr rfl) h45
        · rfl]
      simp
  · rw [giveAll_row j _ c i l1 hi]
    have e2 := hat i
    simp only [Int.zero_add] at e2
    rcases hk with ⟨rfl, rfl⟩ | ⟨rfl, hk⟩
    · have a1 : sumW (toB i) (payAll a 3 0 (sharesV sel 2 n c)) = 0 := sumW_none _ _ fun d hd => by simp only [toB, (kk d hd).2.2.2.2]; rfl
      have a2 : sumW (toI i) (payAll a 3 0 (sharesV sel 2 n c)) = (sharesV sel 2 n c).getD i 0 := by
        rw [← e2]; exact sumW_same _ fun d hd => by simp only [toI, (kk d hd).2.2.2.1]; rfl
      rw [a1, a2]
      simp only [lessD, show ¬ (2 : Nat) = 1 by decide, if_false, Int.sub_zero]
    · have k3 : (kd == 3) = false := by rcases hk with rfl | rfl | rfl <;> rfl
      have a1 : sumW (toI i) (payAll a kd 0 (sharesV sel 1 n c)) = 0 := sumW_none _ _ fun d hd => by simp only [toI, (kk d hd).2.2.2.1, k3]; rfl
      have a2 : sumW (toB i) (payAll a kd 0 (sharesV sel 1 n c)) = (sharesV sel 1 n c).getD i 0 := by
        rw [← e2]; exact sumW_same _ fun d hd => by simp only [toB, (kk d hd).2.2.2.2, k3]; rfl
      rw [a1, a2]
      simp only [lessD, if_true, Int.sub_zero]
theorem Kept.ranks {a kd : Int} (hk : kd = 4 ∨ kd = 7) : ∀ (k : Nat) (r n : Int) (x : RunN) (c : List Dat), claimsG c = true →
    Kept x c (rankV a kd k r n c).2.1 { x with cash := x.cash - (rankV a kd k r n c).2.2, principal := if kd = 4 then x.principal - (rankV a kd k r n c).2.2 else x.principal } (rankV a kd k r n c).1
  | 0, r, n, x, c, h => by
    have := Kept.refl (x := x) fun d hd => (claimG_at ((claimsG_at h).2 d hd)).1
    simp only [rankV, Int.sub_zero, ite_self]
    exact this
  | k + 1, r, n, x, c, h => by
    obtain ⟨g1, g2⟩ := give_ok (rankS r) (j := 1) (.inl rfl) n h
    have a1 := Kept.shares (rankS r) n h x a (j := 1) (kd := kd) (.inr ⟨rfl, by omega⟩)
    have a2 := Kept.ranks (a := a) hk k (r + 1) (n - (sharesV (rankS r) 1 n c).sum) { x with cash := x.cash - (sharesV (rankS r) 1 n c).sum, principal := if kd = 4 ∨ kd = 5 then x.principal - (sharesV (rankS r) 1 n c).sum else x.principal } _ g1
    have := a1.trans a2
    simp only [rankV]
    have e : (if kd = 4 ∨ kd = 5 then x.principal - (sharesV (rankS r) 1 n c).sum else x.principal) = if kd = 4 then x.principal - (sharesV (rankS r) 1 n c).sum else x.principal := by
      rcases hk with rfl | rfl <;> simp
    simp only [e] at this
    generalize (rankV a kd k (r + 1) (n - (sharesV (rankS r) 1 n c).sum) (giveAll 1 (sharesV (rankS r) 1 n c) c)).2.2 = y at *
    by_cases h4 : kd = 4
    · simp only [if_pos h4, Int.sub_sub] at this ⊢; exact this
    · simp only [if_neg h4, Int.sub_sub] at this ⊢; exact this
/-- A payment of a step as it may be. -/
def PayOk (n : Nat) (a kd : Int) (d : Dat) : Prop := d.i 0 = a ∧ d.i 1 = kd ∧ 1 ≤ d.i 3 ∧ (-1 ≤ d.i 2 ∧ d.i 2 < n) ∧ (d.i 2 < 0 ↔ (kd = 1 ∨ kd = 2 ∨ kd = 6))
theorem payAll_ok {a kd : Int} {xs : List Int} {n : Nat} (hl : xs.length = n) (hk : ¬ (kd = 1 ∨ kd = 2 ∨ kd = 6)) : ∀ d ∈ payAll a kd 0 xs, PayOk n a kd d := fun d hd => by
  obtain ⟨h1, h2, h3, h4, h5⟩ := payAll_row a kd xs 0 d hd
  exact ⟨h1, h2, h4, by omega, by omega⟩
theorem rankV_pays {a kd : Int} (hk : ¬ (kd = 1 ∨ kd = 2 ∨ kd = 6)) : ∀ (k : Nat) (r n : Int) (c : List Dat), claimsG c = true → ∀ d ∈ (rankV a kd k r n c).2.1, PayOk c.length a kd d
  | 0, r, n, c, h, d, hd => by simp [rankV] at hd
  | k + 1, r, n, c, h, d, hd => by
    obtain ⟨g1, g2⟩ := give_ok (rankS r) (j := 1) (.inl rfl) n h
    obtain ⟨l1, l2, l3⟩ := sharesV_ok (rankS r) (j := 1) (.inl rfl) n h
    simp only [rankV] at hd
    rcases List.mem_append.1 hd with hd | hd
    · exact payAll_ok l1 hk d hd
    · have := rankV_pays hk k (r + 1) _ _ g1 d hd
      rwa [g2] at this
theorem payOne_kept {x : RunN} {c : List Dat} (h : claimsG c = true) (a kd n : Int) (h0 : 0 ≤ n) (hk : kd = 1 ∨ kd = 2 ∨ kd = 6) :
    Kept x c (payOne a kd n) { x with cash := x.cash - n, fee := if kd = 1 then x.fee - n else x.fee, recoup := if kd = 2 then x.recoup - n else x.recoup, room := if kd = 6 then x.room - n else x.room } c ∧ ∀ d ∈ payOne a kd n, PayOk c.length a kd d := by
  have hr : ∀ d ∈ c, rowOk 3 d = true := fun d hd => (claimG_at ((claimsG_at h).2 d hd)).1
  unfold payOne
  by_cases hn : 0 < n
  · rw [if_pos hn]
    refine ⟨⟨by simp [sumI, fld_i3], ?_, ?_, ?_, ?_, rfl, fun i hi => ?_⟩, fun d hd => ?_⟩
    · simp only [sumW, kF, fld_i1, fld_i3]; rcases hk with rfl | rfl | rfl <;> simp
    · simp only [sumW, kR, fld_i1, fld_i3]; rcases hk with rfl | rfl | rfl <;> simp
    · simp only [sumW, kT, fld_i1, fld_i3]; rcases hk with rfl | rfl | rfl <;> simp
    · simp only [sumW, kP, kB, kF, kR, kT, kI, fld_i1, fld_i3]; rcases hk with rfl | rfl | rfl <;> simp
    · have a1 : sumW (toB i) [Dat.r [.n a, .n kd, .n (-1), .n n]] = 0 := by simp only [sumW, toB, kB, kF, kR, kT, kI, fld_i1, fld_i2]; rcases hk with rfl | rfl | rfl <;> simp
      have a2 : sumW (toI i) [Dat.r [.n a, .n kd, .n (-1), .n n]] = 0 := by simp only [sumW, toI, kI, fld_i1, fld_i2]; rcases hk with rfl | rfl | rfl <;> simp
      rw [a1, a2, Int.sub_zero, Int.sub_zero]
      exact rowOk3 (hr _ (rowD_in hi))
    · rw [List.mem_singleton.1 hd]
      refine ⟨rfl, rfl, ?_, ?_, ?_⟩
      · show (1 : Int) ≤ n
        exact hn
      · exact ⟨Int.le_refl (-1), by show (-1 : Int) < (c.length : Int); omega⟩
      · show (-1 : Int) < 0 ↔ _; exact ⟨fun _ => hk, fun _ => by decide⟩
  · rw [if_neg hn]
    obtain rfl : n = 0 := by omega
    simp only [Int.sub_zero, ite_self]
    exact ⟨Kept.refl hr, fun d hd => by cases hd⟩
/-- One step. -/
theorem stepV_kept (a kd rk : Int) {x : RunN} {c : List Dat} (hx : runG x = true) (h : claimsG c = true) : Kept x c (stepV a kd rk x c).2.2 (stepV a kd rk x c).1 (stepV a kd rk x c).2.1 ∧ ∀ d ∈ (stepV a kd rk x c).2.2, PayOk c.length a kd d := by
  have hx' := runG_at hx
  have s1 := fun sel j hj n => (sharesV_ok (c := c) sel (j := j) hj n h).1
  unfold stepV
  by_cases k1 : kd = 1
  · rw [if_pos k1]
    have := payOne_kept (x := x) h a kd (min x.fee x.cash) (by omega) (.inl k1)
    subst k1; exact this
  rw [if_neg k1]
  by_cases k2 : kd = 2
  · rw [if_pos k2]
    have := payOne_kept (x := x) h a kd (min x.recoup x.cash) (by omega) (.inr (.inl k2))
    subst k2; exact this
  rw [if_neg k2]
  by_cases k6 : kd = 6
  · rw [if_pos k6]
    have := payOne_kept (x := x) h a kd (min x.room x.cash) (by omega) (.inr (.inr k6))
    subst k6; exact this
  rw [if_neg k6]
  have hk : ¬ (kd = 1 ∨ kd = 2 ∨ kd = 6) := by omega
  by_cases k3 : kd = 3
  · rw [if_pos k3]
    have := Kept.shares (rankS rk) x.cash h x a (j := 2) (kd := kd) (.inl ⟨rfl, k3⟩)
    rw [if_neg (by omega)] at this
    exact ⟨this, payAll_ok (s1 (rankS rk) 2 (.inr rfl) x.cash) hk⟩
  rw [if_neg k3]
  by_cases k4 : kd = 4
  · rw [if_pos k4]
    have := Kept.ranks (a := a) (kd := kd) (.inl k4) 8 0 (min x.principal x.cash) x c h
    simp only [if_pos k4] at this
    have hp := rankV_pays (a := a) hk 8 0 (min x.principal x.cash) c h
    generalize rankV a kd 8 0 (min x.principal x.cash) c = y at *
    exact ⟨this, hp⟩
  rw [if_neg k4]
  by_cases k5 : kd = 5
  · rw [if_pos k5]
    have := Kept.shares (fun _ => true) (min x.principal x.cash) h x a (j := 1) (kd := kd) (.inr ⟨rfl, by omega⟩)
    rw [if_pos (by omega)] at this
    exact ⟨this, payAll_ok (s1 (fun _ => true) 1 (.inl rfl) _) hk⟩
  rw [if_neg k5]
  by_cases k7 : kd = 7
  · rw [if_pos k7]
    have := Kept.ranks (a := a) (kd := kd) (.inr k7) 8 0 x.cash x c h
    simp only [if_neg k4] at this
    have hp := rankV_pays (a := a) hk 8 0 x.cash c h
    generalize rankV a kd 8 0 x.cash c = y at *
    exact ⟨this, hp⟩
  rw [if_neg k7]
  exact ⟨Kept.refl fun d hd => (claimG_at ((claimsG_at h).2 d hd)).1, fun d hd => by cases hd⟩
/-- A payment of a run. -/
def RunPay (n : Nat) (a : Int) (l : List Dat) (d : Dat) : Prop := (a ≤ d.i 0 ∧ d.i 0 < a + l.length) ∧ PayOk n (d.i 0) (rowD l (d.i 0 - a).toNat |>.i 0) d
/-- All steps: what came in is what was paid, and what is left; each claim is less by what was paid to it. -/
theorem runV_kept : ∀ (l : List Dat) (a : Int) (x : RunN) (c : List Dat), runG x = true → claimsG c = true → Kept x c (runV a l x c).2.2 (runV a l x c).1 (runV a l x c).2.1 ∧ (∀ d ∈ (runV a l x c).2.2, RunPay c.length a l d) ∧ (runV a l x c).2.2.Pairwise fun d e => d.i 0 ≤ e.i 0
  | [], a, x, c, hx, h => ⟨Kept.refl fun d hd => (claimG_at ((claimsG_at h).2 d hd)).1, fun d hd => by simp [runV] at hd, List.Pairwise.nil⟩
  | s :: l, a, x, c, hx, h => by
    obtain ⟨h1, h2, h3, h4⟩ := stepV_ok a (s.i 0) (s.i 1) hx h
    obtain ⟨k1, k2⟩ := stepV_kept a (s.i 0) (s.i 1) hx h
    obtain ⟨i1, i2, i3⟩ := runV_kept l (a + 1) _ _ h1 h2
    simp only [runV]
    refine ⟨k1.trans i1, fun d hd => ?_, ?_⟩
    · rcases List.mem_append.1 hd with hd | hd
      · obtain ⟨g0, g1, g2, g3, g4⟩ := k2 d hd
        refine ⟨by rw [g0, List.length_cons]; omega, ?_⟩
        rw [g0, Int.sub_self]
        exact ⟨g0, g1, g2, g3, g4⟩
      · obtain ⟨g0, g1⟩ := i2 d hd
        rw [h3] at g1
        refine ⟨by rw [List.length_cons]; omega, ?_⟩
        rw [show (d.i 0 - a).toNat = (d.i 0 - (a + 1)).toNat + 1 by omega]
        exact g1
    · rw [List.pairwise_append]
      refine ⟨?_, i3, fun d hd e he => ?_⟩
      · refine List.Pairwise.imp_of_mem (R := fun _ _ => True) (fun {d e} hd he _ => ?_) (List.pairwise_of_forall fun _ _ => trivial)
        rw [(k2 d hd).1, (k2 e he).1]; exact Int.le_refl _
      · have := (k2 d hd).1
        have := (i2 e he).1
        omega
theorem sumI_le_mem (j : Nat) : ∀ (l : List Dat), (∀ d ∈ l, 0 ≤ d.i j) → ∀ d ∈ l, d.i j ≤ sumI j l
  | [], _, d, h => by cases h
  | x :: l, h, d, hd => by
    have h1 := sumI_nonneg j l fun y hy => h y (by simp [hy])
    have h2 := h x (by simp)
    simp only [sumI]
    rcases List.mem_cons.1 hd with rfl | hd
    · omega
    · have := sumI_le_mem j l (fun y hy => h y (by simp [hy])) d hd; omega
/-- Payments are small where there is little cash. -/
theorem runV_paid {l : List Dat} {a : Int} {x : RunN} {c : List Dat} (hx : runG x = true) (h : claimsG c = true) (hs : x.cash ≤ 1000000000) : ∀ d ∈ (runV a l x c).2.2, 0 ≤ d.i 3 ∧ d.i 3 ≤ 1000000000 := fun d hd => by
  obtain ⟨k, p, _⟩ := runV_kept l a x c hx h
  have hr := runG_at (runV_ok l a x c hx h).1
  have hn : ∀ e ∈ (runV a l x c).2.2, 0 ≤ e.i 3 := fun e he => by have := (p e he).2.2.2.1; omega
  have := sumI_le_mem 3 _ hn d hd
  have := k.cash
  have := hn d hd
  omega

end Go.Proofs.Ytncgbpajngakpaa
