/- A part of the walk. -/
import Derived.Test.YtncgbpajngakpaaPro
namespace Go.Proofs.Ytncgbpajngakpaa
open Go Go.Proofs.Ytncgbpajngakpaa.Ev
set_option linter.unusedVariables false
set_option linter.unusedSimpArgs false
set_option linter.unnecessarySimpa false
@[ext] structure RunN where
  cash : Int
  fee : Int
  recoup : Int
  principal : Int
  room : Int
noncomputable instance : Uns RunN := Uns.via (B := Int × Int × Int × Int × Int) (fun x => (x.cash, x.fee, x.recoup, x.principal, x.room)) (fun x => match x with | (cash, fee, recoup, principal, room) => ⟨cash, fee, recoup, principal, room⟩) (fun _ => rfl)
/-- Is a row one of so many numbers? -/
def isN : Dat → Bool
  | .n _ => true
  | .r _ => false
def rowOk (k : Nat) : Dat → Bool
  | .r l => l.length == k && l.all isN
  | .n _ => false
theorem isN_eq : ∀ {d : Dat}, isN d = true → d = .n d.int
  | .n _, _ => rfl
  | .r _, h => by cases h
theorem rowOk3 {d : Dat} (h : rowOk 3 d = true) : d = .r [.n (d.i 0), .n (d.i 1), .n (d.i 2)] := by
  match d, h with
  | .r [a, b, c], h =>
    simp [rowOk] at h
    obtain ⟨h1, h2, h3⟩ := h
    show Dat.r [a, b, c] = .r [.n a.int, .n b.int, .n c.int]
    rw [← isN_eq h1, ← isN_eq h2, ← isN_eq h3]
  | .r [], h => simp [rowOk] at h
  | .r [a], h => simp [rowOk] at h
  | .r [a, b], h => simp [rowOk] at h
  | .r (a :: b :: c :: d :: l), h => simp [rowOk] at h
def claimG (d : Dat) : Bool := rowOk 3 d && decide (0 ≤ d.i 1 ∧ d.i 1 ≤ 1125899906842624 ∧ 0 ≤ d.i 2 ∧ d.i 2 ≤ 1125899906842624)
theorem claimG_at {d : Dat} (h : claimG d = true) : rowOk 3 d = true ∧ 0 ≤ d.i 1 ∧ d.i 1 ≤ 1125899906842624 ∧ 0 ≤ d.i 2 ∧ d.i 2 ≤ 1125899906842624 := by
  simp only [claimG, Bool.and_eq_true, decide_eq_true_eq] at h
  exact h
def claimsG (c : List Dat) : Bool := decide (c.length ≤ 1000) && c.all claimG
theorem claimsG_at {c : List Dat} (h : claimsG c = true) : c.length ≤ 1000 ∧ ∀ d ∈ c, claimG d = true := by
  simp only [claimsG, Bool.and_eq_true, decide_eq_true_eq, List.all_eq_true] at h
  exact h
theorem claimsG_of {c : List Dat} (h1 : c.length ≤ 1000) (h2 : ∀ d ∈ c, claimG d = true) : claimsG c = true := by
  simp only [claimsG, Bool.and_eq_true, decide_eq_true_eq, List.all_eq_true]
  exact ⟨h1, h2⟩
/-- A claim of which so much was paid: of its balance (1), or of what is short (2). -/
def lessD (j : Nat) (x : Int) (d : Dat) : Dat := if j = 1 then .r [.n (d.i 0), .n (d.i 1 - x), .n (d.i 2)] else .r [.n (d.i 0), .n (d.i 1), .n (d.i 2 - x)]
def giveAll (j : Nat) : List Int → List Dat → List Dat
  | x :: xs, d :: c => lessD j x d :: giveAll j xs c
  | _, _ => []
def payAll (at_ kind : Int) : Int → List Int → List Dat
  | _, [] => []
  | i, x :: xs => (if 0 < x then [.r [.n at_, .n kind, .n i, .n x]] else []) ++ payAll at_ kind (i + 1) xs
def payOne (at_ kind n : Int) : List Dat := if 0 < n then [.r [.n at_, .n kind, .n (-1), .n n]] else []
/-- An amount over what some claims have, in proportion. -/
def sharesV (sel : Dat → Bool) (j : Nat) (n : Int) (c : List Dat) : List Int := proV n (c.map fun d => bif sel d then d.i j else 0)
def rankS (r : Int) (d : Dat) : Bool := d.i 0 == r
/-- An amount to balances, rank by rank: the claims behind it, the payments, how much was paid. -/
def rankV (at_ kind : Int) : Nat → Int → Int → List Dat → List Dat × List Dat × Int
  | 0, _, _, c => (c, [], 0)
  | k + 1, r, n, c =>
    ((rankV at_ kind k (r + 1) (n - (sharesV (rankS r) 1 n c).sum) (giveAll 1 (sharesV (rankS r) 1 n c) c)).1,
      payAll at_ kind 0 (sharesV (rankS r) 1 n c) ++ (rankV at_ kind k (r + 1) (n - (sharesV (rankS r) 1 n c).sum) (giveAll 1 (sharesV (rankS r) 1 n c) c)).2.1,
      (sharesV (rankS r) 1 n c).sum + (rankV at_ kind k (r + 1) (n - (sharesV (rankS r) 1 n c).sum) (giveAll 1 (sharesV (rankS r) 1 n c) c)).2.2)
/-- One step: what is left, the claims behind it, its payments. -/
def stepV (at_ kind rank : Int) (x : RunN) (c : List Dat) : RunN × List Dat × List Dat :=
  if kind = 1 then ({ x with cash := x.cash - min x.fee x.cash, fee := x.fee - min x.fee x.cash }, c, payOne at_ kind (min x.fee x.cash))
  else if kind = 2 then ({ x with cash := x.cash - min x.recoup x.cash, recoup := x.recoup - min x.recoup x.cash }, c, payOne at_ kind (min x.recoup x.cash))
  else if kind = 6 then ({ x with cash := x.cash - min x.room x.cash, room := x.room - min x.room x.cash }, c, payOne at_ kind (min x.room x.cash))
  else if kind = 3 then ({ x with cash := x.cash - (sharesV (rankS rank) 2 x.cash c).sum }, giveAll 2 (sharesV (rankS rank) 2 x.cash c) c, payAll at_ kind 0 (sharesV (rankS rank) 2 x.cash c))
  else if kind = 4 then ({ x with cash := x.cash - (rankV at_ kind 8 0 (min x.principal x.cash) c).2.2, principal := x.principal - (rankV at_ kind 8 0 (min x.principal x.cash) c).2.2 }, (rankV at_ kind 8 0 (min x.principal x.cash) c).1, (rankV at_ kind 8 0 (min x.principal x.cash) c).2.1)
  else if kind = 5 then ({ x with cash := x.cash - (sharesV (fun _ => true) 1 (min x.principal x.cash) c).sum, principal := x.principal - (sharesV (fun _ => true) 1 (min x.principal x.cash) c).sum }, giveAll 1 (sharesV (fun _ => true) 1 (min x.principal x.cash) c) c, payAll at_ kind 0 (sharesV (fun _ => true) 1 (min x.principal x.cash) c))
  else if kind = 7 then ({ x with cash := x.cash - (rankV at_ kind 8 0 x.cash c).2.2 }, (rankV at_ kind 8 0 x.cash c).1, (rankV at_ kind 8 0 x.cash c).2.1)
  else (x, c, [])
/-- Steps, one by one. -/
def runV : Int → List Dat → RunN → List Dat → RunN × List Dat × List Dat
  | _, [], x, c => (x, c, [])
  | at_, s :: l, x, c => ((runV (at_ + 1) l (stepV at_ (s.i 0) (s.i 1) x c).1 (stepV at_ (s.i 0) (s.i 1) x c).2.1).1, (runV (at_ + 1) l (stepV at_ (s.i 0) (s.i 1) x c).1 (stepV at_ (s.i 0) (s.i 1) x c).2.1).2.1, (stepV at_ (s.i 0) (s.i 1) x c).2.2 ++ (runV (at_ + 1) l (stepV at_ (s.i 0) (s.i 1) x c).1 (stepV at_ (s.i 0) (s.i 1) x c).2.1).2.2)
def runG (x : RunN) : Bool := decide ((0 ≤ x.cash ∧ x.cash ≤ 1152921504606846976) ∧ (0 ≤ x.fee ∧ x.fee ≤ 1152921504606846976) ∧ (0 ≤ x.recoup ∧ x.recoup ≤ 1152921504606846976) ∧ (0 ≤ x.principal ∧ x.principal ≤ 1152921504606846976) ∧ (0 ≤ x.room ∧ x.room ≤ 1152921504606846976))
theorem runG_at {x : RunN} (h : runG x = true) : (0 ≤ x.cash ∧ x.cash ≤ 1152921504606846976) ∧ (0 ≤ x.fee ∧ x.fee ≤ 1152921504606846976) ∧ (0 ≤ x.recoup ∧ x.recoup ≤ 1152921504606846976) ∧ (0 ≤ x.principal ∧ x.principal ≤ 1152921504606846976) ∧ (0 ≤ x.room ∧ x.room ≤ 1152921504606846976) := of_decide_eq_true h
/-- What is claimed by some. -/
def wantV (sel : Dat → Bool) (j : Nat) (c : List Dat) : Int := (c.map fun d => bif sel d then d.i j else 0).sum
theorem wantV_ok {c : List Dat} (sel : Dat → Bool) {j : Nat} (hj : j = 1 ∨ j = 2) (h : claimsG c = true) : (∀ x ∈ (c.map fun d => bif sel d then d.i j else 0), 0 ≤ x ∧ x ≤ 1125899906842624) ∧ sumOk (c.map fun d => bif sel d then d.i j else 0) = true ∧ 0 ≤ wantV sel j c ∧ wantV sel j c ≤ 1125899906842624 * c.length := by
  obtain ⟨h1, h2⟩ := claimsG_at h
  have hb : ∀ x ∈ (c.map fun d => bif sel d then d.i j else 0), 0 ≤ x ∧ x ≤ 1125899906842624 := by
    intro x hx
    obtain ⟨d, hd, rfl⟩ := List.mem_map.1 hx
    have := claimG_at (h2 d hd)
    cases sel d
    · simp only [cond_false]; omega
    · rcases hj with rfl | rfl <;> simp only [cond_true] <;> omega
  have hl : (c.map fun d => bif sel d then d.i j else 0).length = c.length := by simp
  have hm : ((c.map fun d => bif sel d then d.i j else 0).length : Int) * 1125899906842624 ≤ 1152921504606846976 := by rw [hl]; omega
  have hs := sum_bound _ 1125899906842624 (by decide) hb
  rw [hl] at hs
  exact ⟨hb, (sumV_ok (by decide) hb hm).2, hs.1, by unfold wantV; omega⟩
theorem proV_neg {n : Int} {l : List Int} (h : n ≤ 0) : proV n l = proV 0 l := by
  unfold proV
  rw [show max n 0 = max 0 0 by omega]
theorem sharesV_ok {c : List Dat} (sel : Dat → Bool) {j : Nat} (hj : j = 1 ∨ j = 2) (n : Int) (h : claimsG c = true) : (sharesV sel j n c).length = c.length ∧ (sharesV sel j n c).sum = min (max n 0) (wantV sel j c) ∧ ∀ i, i < c.length → 0 ≤ (sharesV sel j n c).getD i 0 ∧ (sharesV sel j n c).getD i 0 ≤ bif sel (rowD c i) then (rowD c i).i j else 0 := by
  obtain ⟨hb, ho, hw0, hw1⟩ := wantV_ok sel hj h
  have e : sharesV sel j n c = proV (max n 0) (c.map fun d => bif sel d then d.i j else 0) := by
    by_cases hn : 0 ≤ n
    · rw [show max n 0 = n by omega]; rfl
    · rw [show max n 0 = 0 by omega]; exact proV_neg (by omega)
  rw [e]
  obtain ⟨h1, h2⟩ := proV_sum (a := max n 0) (by omega) ho
  refine ⟨by rw [proV_len]; simp, h1, fun i hi => ?_⟩
  have := h2 i (by simpa using hi)
  rwa [show (c.map fun d => bif sel d then d.i j else 0).getD i 0 = bif sel (rowD c i) then (rowD c i).i j else 0 by simp [List.getD_eq_getElem?_getD, hi, rowD]] at this
theorem giveAll_len (j : Nat) : ∀ (xs : List Int) (c : List Dat), xs.length = c.length → (giveAll j xs c).length = c.length
  | [], [], _ => rfl
  | x :: xs, d :: c, h => by simp [giveAll, giveAll_len j xs c (by simpa using h)]
  | [], _ :: _, h => by simp at h
  | _ :: _, [], h => by simp at h
theorem giveAll_row (j : Nat) : ∀ (xs : List Int) (c : List Dat) (i : Nat), xs.length = c.length → i < c.length → rowD (giveAll j xs c) i = lessD j (xs.getD i 0) (rowD c i)
  | [], [], i, _, h => by simp at h
  | x :: xs, d :: c, 0, _, _ => rfl
  | x :: xs, d :: c, i + 1, h, hi => giveAll_row j xs c i (by simpa using h) (by simpa using hi)
  | [], _ :: _, _, h, _ => by simp at h
  | _ :: _, [], _, h, _ => by simp at h
theorem mem_rowD {l : List Dat} {d : Dat} (h : d ∈ l) : ∃ i, i < l.length ∧ rowD l i = d := by
  obtain ⟨i, hi, rfl⟩ := List.getElem_of_mem h
  exact ⟨i, hi, rowD_get hi⟩
theorem rowD_in {l : List Dat} {i : Nat} (h : i < l.length) : rowD l i ∈ l := by rw [rowD_get h]; exact List.getElem_mem h
theorem claimG_less {d : Dat} {j : Nat} {x : Int} (hj : j = 1 ∨ j = 2) (h : claimG d = true) (h0 : 0 ≤ x) (h1 : x ≤ d.i j) : claimG (lessD j x d) = true := by
  have := claimG_at h
  rcases hj with rfl | rfl
  · simp only [lessD, if_true, claimG, Bool.and_eq_true, decide_eq_true_eq, fld_i1, fld_i2]
    exact ⟨rfl, by omega⟩
  · simp only [lessD, show ¬ (2 : Nat) = 1 by decide, if_false, claimG, Bool.and_eq_true, decide_eq_true_eq, fld_i1, fld_i2]
    exact ⟨rfl, by omega⟩
theorem give_ok {c : List Dat} (sel : Dat → Bool) {j : Nat} (hj : j = 1 ∨ j = 2) (n : Int) (h : claimsG c = true) : claimsG (giveAll j (sharesV sel j n c) c) = true ∧ (giveAll j (sharesV sel j n c) c).length = c.length := by
  obtain ⟨l1, l2, l3⟩ := sharesV_ok sel hj n h
  obtain ⟨h1, h2⟩ := claimsG_at h
  have hl := giveAll_len j _ c l1
  refine ⟨claimsG_of (by omega) fun d hd => ?_, hl⟩
  obtain ⟨i, hi, rfl⟩ := mem_rowD hd
  rw [hl] at hi
  rw [giveAll_row j _ c i l1 hi]
  have := l3 i hi
  have hg := h2 _ (rowD_in hi)
  refine claimG_less hj hg this.1 ?_
  have h4 := claimG_at hg
  cases hs : sel (rowD c i) <;> rw [hs] at this
  · rcases hj with rfl | rfl <;> simp only [cond_false] at this <;> omega
  · exact this.2
theorem payAll_len (a k : Int) : ∀ (xs : List Int) (i : Int), (payAll a k i xs).length ≤ xs.length
  | [], i => by simp [payAll]
  | x :: xs, i => by
    have := payAll_len a k xs (i + 1)
    simp only [payAll, List.length_append, List.length_cons]
    split <;> simp <;> omega
theorem payOne_len (a k n : Int) : (payOne a k n).length ≤ 1 := by unfold payOne; split <;> simp
theorem rankV_ok (a kd : Int) : ∀ (k : Nat) (r n : Int) (c : List Dat), claimsG c = true → claimsG (rankV a kd k r n c).1 = true ∧ (rankV a kd k r n c).1.length = c.length ∧ (rankV a kd k r n c).2.1.length ≤ k * c.length ∧ 0 ≤ (rankV a kd k r n c).2.2 ∧ (rankV a kd k r n c).2.2 ≤ max n 0
  | 0, r, n, c, h => ⟨h, rfl, by simp [rankV], by simp [rankV], by simp only [rankV]; omega⟩
  | k + 1, r, n, c, h => by
    obtain ⟨g1, g2⟩ := give_ok (rankS r) (j := 1) (.inl rfl) n h
    obtain ⟨l1, l2, l3⟩ := sharesV_ok (rankS r) (j := 1) (.inl rfl) n h
    obtain ⟨_, _, w0, w1⟩ := wantV_ok (rankS r) (j := 1) (.inl rfl) h
    obtain ⟨i1, i2, i3, i4, i5⟩ := rankV_ok a kd k (r + 1) (n - (sharesV (rankS r) 1 n c).sum) _ g1
    have hp := payAll_len a kd (sharesV (rankS r) 1 n c) 0
    simp only [rankV]
    refine ⟨i1, by omega, ?_, by omega, by omega⟩
    rw [List.length_append, Nat.add_mul]
    rw [g2] at i3
    omega
theorem stepV_ok (a kd rk : Int) {x : RunN} {c : List Dat} (hx : runG x = true) (h : claimsG c = true) : runG (stepV a kd rk x c).1 = true ∧ claimsG (stepV a kd rk x c).2.1 = true ∧ (stepV a kd rk x c).2.1.length = c.length ∧ (stepV a kd rk x c).2.2.length ≤ 8000 := by
  have hx' := runG_at hx
  have hc := (claimsG_at h).1
  have p1 := payOne_len a kd
  have s2 := fun sel j hj n => sharesV_ok (c := c) sel (j := j) hj n h
  have w2 := fun sel j hj => (wantV_ok (c := c) sel (j := j) hj h).2.2
  have g2 := fun sel j hj n => give_ok (c := c) sel (j := j) hj n h
  have r2 := fun n => rankV_ok a kd 8 0 n c h
  unfold stepV
  by_cases k1 : kd = 1
  · rw [if_pos k1]; exact ⟨decide_eq_true (by simp only; omega), h, rfl, by have := p1 (min x.fee x.cash); simp only; omega⟩
  rw [if_neg k1]
  by_cases k1 : kd = 2
  · rw [if_pos k1]; exact ⟨decide_eq_true (by simp only; omega), h, rfl, by have := p1 (min x.recoup x.cash); simp only; omega⟩
  rw [if_neg k1]
  by_cases k1 : kd = 6
  · rw [if_pos k1]; exact ⟨decide_eq_true (by simp only; omega), h, rfl, by have := p1 (min x.room x.cash); simp only; omega⟩
  rw [if_neg k1]
  by_cases k1 : kd = 3
  · rw [if_pos k1]
    have q1 := s2 (rankS rk) 2 (.inr rfl) x.cash
    have q2 := w2 (rankS rk) 2 (.inr rfl)
    have q3 := g2 (rankS rk) 2 (.inr rfl) x.cash
    have q4 := payAll_len a kd (sharesV (rankS rk) 2 x.cash c) 0
    exact ⟨decide_eq_true (by simp only; omega), q3.1, q3.2, by simp only; omega⟩
  rw [if_neg k1]
  by_cases k1 : kd = 4
  · rw [if_pos k1]
    have q := r2 (min x.principal x.cash)
    generalize rankV a kd 8 0 (min x.principal x.cash) c = y at *
    exact ⟨decide_eq_true (by simp only; omega), q.1, q.2.1, by simp only; omega⟩
  rw [if_neg k1]
  by_cases k1 : kd = 5
  · rw [if_pos k1]
    have q1 := s2 (fun _ => true) 1 (.inl rfl) (min x.principal x.cash)
    have q2 := w2 (fun _ => true) 1 (.inl rfl)
    have q3 := g2 (fun _ => true) 1 (.inl rfl) (min x.principal x.cash)
    have q4 := payAll_len a kd (sharesV (fun _ => true) 1 (min x.principal x.cash) c) 0
    exact ⟨decide_eq_true (by simp only; omega), q3.1, q3.2, by simp only; omega⟩
  rw [if_neg k1]
  by_cases k1 : kd = 7
  · rw [if_pos k1]
    have q := r2 x.cash
    generalize rankV a kd 8 0 x.cash c = y at *
    exact ⟨decide_eq_true (by simp only; omega), q.1, q.2.1, by simp only; omega⟩
  rw [if_neg k1]
  exact ⟨hx, h, rfl, by simp⟩
theorem runV_ok : ∀ (l : List Dat) (a : Int) (x : RunN) (c : List Dat), runG x = true → claimsG c = true → runG (runV a l x c).1 = true ∧ claimsG (runV a l x c).2.1 = true ∧ (runV a l x c).2.1.length = c.length ∧ (runV a l x c).2.2.length ≤ 8000 * l.length
  | [], a, x, c, hx, h => ⟨hx, h, rfl, by simp [runV]⟩
  | s :: l, a, x, c, hx, h => by
    obtain ⟨h1, h2, h3, h4⟩ := stepV_ok a (s.i 0) (s.i 1) hx h
    obtain ⟨i1, i2, i3, i4⟩ := runV_ok l (a + 1) _ _ h1 h2
    simp only [runV, List.length_append, List.length_cons]
    exact ⟨i1, i2, by omega, by omega⟩
def posF (sel : Dat → Bool) : Int → List Dat → List Int
  | _, [] => []
  | i, d :: c => bif sel d then i :: posF sel (i + 1) c else posF sel (i + 1) c
def valF (sel : Dat → Bool) (j : Nat) : List Dat → List Int
  | [] => []
  | d :: c => bif sel d then d.i j :: valF sel j c else valF sel j c
def giveF (j : Nat) : List Int → List Int → List Dat → List Dat
  | w :: ws, x :: xs, c => giveF j ws xs (c.set w.toNat (lessD j x (rowD c w.toNat)))
  | _, _, c => c
def payF (at_ kind : Int) : List Int → List Int → List Dat
  | w :: ws, x :: xs => (if 0 < x then [.r [.n at_, .n kind, .n w, .n x]] else []) ++ payF at_ kind ws xs
  | _, _ => []
theorem less_zero {j : Nat} {d : Dat} (h : rowOk 3 d = true) : lessD j 0 d = d := by
  have e := rowOk3 h
  unfold lessD
  rw [Int.sub_zero, Int.sub_zero, ← e]
  split <;> rfl
theorem give_mask (sel : Dat → Bool) (j : Nat) : ∀ (rest pre : List Dat) (xs : List Int), xs.length = trues (rest.map sel) → (∀ d ∈ rest, rowOk 3 d = true) →
    giveF j (posF sel pre.length rest) xs (pre ++ rest) = pre ++ giveAll j (maskV (rest.map sel) xs) rest
  | [], pre, xs, h, _ => by rw [List.eq_nil_of_length_eq_zero h]; simp [posF, giveF, giveAll, maskV]
  | d :: rest, pre, xs, h, hr => by
    have ih := fun xs h y => give_mask sel j rest (pre ++ [y]) xs h (fun z hz => hr z (by simp [hz]))
    simp only [List.length_append, List.length_cons, List.length_nil, List.append_assoc, List.cons_append, List.nil_append, Int.natCast_add, Int.cast_ofNat_Int, Nat.zero_add] at ih
    simp only [List.map_cons] at h
    cases hs : sel d
    · rw [hs] at h
      simp only [posF, hs, cond_false, List.map_cons, maskV, giveAll]
      rw [less_zero (hr d (by simp)), ← ih xs h d]
    · rw [hs] at h
      cases xs with
      | nil => simp [trues] at h
      | cons x xs =>
        simp only [posF, hs, cond_true, List.map_cons, maskV, giveAll, giveF, Int.toNat_natCast, set_mid, rowD_mid, List.headD_cons, List.tail_cons]
        exact ih xs (by simpa [trues] using h) _
theorem pay_mask (a k : Int) (sel : Dat → Bool) : ∀ (rest : List Dat) (i : Int) (xs : List Int), xs.length = trues (rest.map sel) → payF a k (posF sel i rest) xs = payAll a k i (maskV (rest.map sel) xs)
  | [], i, xs, h => by rw [List.eq_nil_of_length_eq_zero h]; rfl
  | d :: rest, i, xs, h => by
    have ih := fun xs h => pay_mask a k sel rest (i + 1) xs h
    simp only [List.map_cons] at h
    cases hs : sel d
    · rw [hs] at h
      simp only [posF, hs, cond_false, List.map_cons, maskV, payAll]
      rw [ih xs h]; rfl
    · rw [hs] at h
      cases xs with
      | nil => simp [trues] at h
      | cons x xs =>
        simp only [posF, hs, cond_true, List.map_cons, maskV, payAll, payF, List.headD_cons, List.tail_cons]
        rw [ih xs (by simpa [trues] using h)]
theorem mask_vals (sel : Dat → Bool) (j : Nat) : ∀ c : List Dat, (c.map fun d => bif sel d then d.i j else 0) = maskV (c.map sel) (valF sel j c)
  | [] => rfl
  | d :: c => by
    have := mask_vals sel j c
    simp only [List.map_cons, valF]
    cases hs : sel d <;> simp [maskV, this]
theorem valF_len (sel : Dat → Bool) (j : Nat) : ∀ c : List Dat, (valF sel j c).length = trues (c.map sel)
  | [] => rfl
  | d :: c => by
    have := valF_len sel j c
    cases hs : sel d <;> simp [valF, hs, trues, this]
theorem posF_len (sel : Dat → Bool) : ∀ (c : List Dat) (i : Int), (posF sel i c).length = trues (c.map sel)
  | [], _ => rfl
  | d :: c, i => by
    have := posF_len sel c (i + 1)
    cases hs : sel d <;> simp [posF, hs, trues, this]
theorem trues_le : ∀ ms : List Bool, trues ms ≤ ms.length
  | [] => Nat.le_refl _
  | false :: ms => by have := trues_le ms; simp [trues]; omega
  | true :: ms => by have := trues_le ms; simp [trues]; omega
theorem posF_mem (sel : Dat → Bool) : ∀ (c : List Dat) (i : Int), ∀ w ∈ posF sel i c, i ≤ w ∧ w < i + c.length
  | [], i, w, h => by simp [posF] at h
  | d :: c, i, w, h => by
    have ih := posF_mem sel c (i + 1) w
    simp only [List.length_cons, Int.natCast_add]
    cases hs : sel d <;> simp only [posF, hs, cond_false, cond_true, List.mem_cons] at h
    · have := ih h; omega
    · rcases h with h | h
      · omega
      · have := ih h; omega
theorem valF_mem (sel : Dat → Bool) (j : Nat) : ∀ c : List Dat, ∀ x ∈ valF sel j c, ∃ d ∈ c, x = d.i j
  | [], x, h => by simp [valF] at h
  | d :: c, x, h => by
    cases hs : sel d <;> simp only [valF, hs, cond_false, cond_true, List.mem_cons] at h
    · obtain ⟨e, h1, h2⟩ := valF_mem sel j c x h; exact ⟨e, by simp [h1], h2⟩
    · rcases h with h | h
      · exact ⟨d, by simp, h⟩
      · obtain ⟨e, h1, h2⟩ := valF_mem sel j c x h; exact ⟨e, by simp [h1], h2⟩
/-- What those have that were picked is what all have, with noughts between. -/
theorem shares_mask (sel : Dat → Bool) {j : Nat} (hj : j = 1 ∨ j = 2) (n : Int) {c : List Dat} (h : claimsG c = true) : sharesV sel j n c = maskV (c.map sel) (proV n (valF sel j c)) := by
  obtain ⟨h1, h2⟩ := claimsG_at h
  unfold sharesV
  rw [mask_vals]
  refine proV_mask (c.map sel) n (valF sel j c) (valF_len sel j c) 1125899906842624 (by decide) (fun x hx => ?_) (by simp; omega)
  obtain ⟨d, hd, rfl⟩ := valF_mem sel j c x hx
  have := claimG_at (h2 d hd)
  rcases hj with rfl | rfl <;> omega
theorem pro_vals (sel : Dat → Bool) {j : Nat} (hj : j = 1 ∨ j = 2) (n : Int) {c : List Dat} (h : claimsG c = true) : (proV n (valF sel j c)).length = trues (c.map sel) ∧ (∀ x ∈ proV n (valF sel j c), 0 ≤ x ∧ x ≤ 1125899906842624) ∧ 0 ≤ (proV n (valF sel j c)).sum ∧ (proV n (valF sel j c)).sum ≤ 1125899906842624000 ∧ (proV n (valF sel j c)).sum = (sharesV sel j n c).sum := by
  obtain ⟨h1, h2⟩ := claimsG_at h
  have hb : ∀ x ∈ valF sel j c, 0 ≤ x ∧ x ≤ 1125899906842624 := fun x hx => by
    obtain ⟨d, hd, rfl⟩ := valF_mem sel j c x hx
    have := claimG_at (h2 d hd)
    rcases hj with rfl | rfl <;> omega
  have hl := valF_len sel j c
  have ht := trues_le (c.map sel)
  rw [List.length_map] at ht
  have hok := (sumV_ok (l := valF sel j c) (b := 1125899906842624) (by decide) hb (by omega)).2
  have e : proV n (valF sel j c) = proV (max n 0) (valF sel j c) := by
    by_cases hn : 0 ≤ n
    · rw [show max n 0 = n by omega]
    · rw [show max n 0 = 0 by omega]; exact proV_neg (by omega)
  obtain ⟨p1, p2⟩ := proV_sum (a := max n 0) (by omega) hok
  have hm : ∀ x ∈ proV n (valF sel j c), 0 ≤ x ∧ x ≤ 1125899906842624 := by
    intro x hx
    obtain ⟨i, hi, rfl⟩ := mem_getD hx
    rw [proV_len] at hi
    rw [e]
    have := p2 i hi
    have := hb _ (getD_mem hi)
    omega
  have hlen : (proV n (valF sel j c)).length = trues (c.map sel) := by rw [proV_len, hl]
  have hs := sum_bound _ _ (by decide) hm
  rw [hlen] at hs
  refine ⟨hlen, hm, hs.1, by omega, ?_⟩
  rw [shares_mask sel hj n h, mask_sum _ _ hlen]
/-! (*cascade/flow.run).shared -/
noncomputable def NshI : RoadF := ⟨T27.tab, 29, ⟨[.ptr 0 0 0, .int .i64, .fn 41 [] [.ptr 3 0 0], .fn 31 [] []], [.cells [.int .i64, .int .i64, .int .i64, .int .i64, .int .i64, .buf 1 3, .int .i64, .int .i64, .buf 2 4], .recs [.int .i64, .int .i64, .int .i64], .recs [.int .i64, .int .i64, .int .i64, .int .i64], .cells [.int .i64]]⟩, ⟨[.int .i64], [.cells [.int .i64, .int .i64, .int .i64, .int .i64, .int .i64, .buf 1 3, .int .i64, .int .i64, .buf 4 4], .recs [.int .i64, .int .i64, .int .i64], .gone, .gone, .recs [.int .i64, .int .i64, .int .i64, .int .i64]]⟩, []⟩
abbrev AshI_1 : Type := Int × Int × Int × RunN × Int × Int × List Dat × List Int × List Int × List Dat
abbrev AshI_0 : Type := Int × Int × Int × RunN × Int × Int × List Dat × Int × List Int × List Int × List Dat
noncomputable def LshI_1s (m : Nat) (k : AshI_1 → Option (List Un)) : AshI_1 → Option (List Un) := fun (a0, a1, a2, a3, a4, a5, a6, a7, a8, a9) =>
  bif decide (a2 < a1) then
   chk (inb a2 a8.length) <|
   chk (decide (a2.toNat < a8.length)) <|
   chk (inb a2 a7.length) <|
   chk (decide (a2.toNat < a7.length)) <|
   chk (inb (a7.getD a2.toNat 0) a6.length) <|
   chk (decide ((a7.getD a2.toNat 0).toNat < a6.length)) <|
   chk (decide ((a7.getD a2.toNat 0).toNat < a6.length)) <|
   lt (rowD a6 ((a7.getD a2.toNat 0).toNat) : Dat) fun d4 =>
   lt ((List.set a6 ((a7.getD a2.toNat 0).toNat) (.r [.n (d4.i 0), .n (d4.i 1), .n (w64 (((rowD a6 ((a7.getD a2.toNat 0).toNat)).i 2) - (a8.getD a2.toNat 0)))])) : List Dat) fun l5 =>
   lt ((w64 (a0 + (a8.getD a2.toNat 0))) : Int) fun x6 =>
   chk (inb a2 a7.length) <|
   chk (decide (a2.toNat < a7.length)) <|
   bif (decide ((a8.getD a2.toNat 0) > 0)) then
    chk (fits (a9.length + 1) 32) <|
    k (x6, a1, (w64 (a2 + 1)), a3, a4, a5, l5, a7, a8, (a9 ++ ([.r [.n a4, .n a5, .n (a7.getD a2.toNat 0), .n (a8.getD a2.toNat 0)]])))
   else
    k (x6, a1, (w64 (a2 + 1)), a3, a4, a5, l5, a7, a8, a9)
  else
   some ([.i a0] ++ Uns.enc (({ a3 with cash := (w64 (a3.cash - a0)) } : RunN) : RunN) ++ [.i a4, .i a5, .d a6, .d a9])
noncomputable def LshI_1 (m : Nat) : Nat → AshI_1 → Option (List Un) := iterA (LshI_1s m)
theorem LshI_1_succ (m : Nat) (n : Nat) : LshI_1 m (n + 1) = LshI_1s m (LshI_1 m n) := rfl
noncomputable def SshI_1 (F : AshI_1 → Option (List Un)) : StopS := ⟨[.lp [0, 1, 0, 1, 1, 1, 1], .blk 2, .code [1, 1, 1, 1, 1]], ⟨frm 88 [(0, .ptr 0 0 0), (3, .fn 31 [] []), (9, .buf 4 1), (13, .int .i64), (44, .buf 5 1), (45, .int .i64), (46, .int .i64)], [.cells [.int .i64, .int .i64, .int .i64, .int .i64, .int .i64, .buf 1 3, .int .i64, .int .i64, .buf 6 4], .recs [.int .i64, .int .i64, .int .i64], .gone, .gone, .ints .i64, .ints .i64, .recs [.int .i64, .int .i64, .int .i64, .int .i64]]⟩, onU F⟩
noncomputable def LshI_0s (m : Nat) (k : AshI_0 → Option (List Un)) : AshI_0 → Option (List Un) := fun (a0, a1, a2, a3, a4, a5, a6, a7, a8, a9, a10) =>
  bif decide (a2 < a1) then
   chk (inb a2 a6.length) <|
   chk (decide (a2.toNat < a6.length)) <|
   lt (rowD a6 a2.toNat : Dat) fun d1 =>
   bif (d1.i 0) == a7 then
    chk (fits (a8.length + 1) 8) <|
    chk (fits (a9.length + 1) 8) <|
    k (a0, a1, (w64 (a2 + 1)), a3, a4, a5, a6, a7, (a8 ++ ([a2])), (a9 ++ ([(d1.i 2)])), a10)
   else
    k (a0, a1, (w64 (a2 + 1)), a3, a4, a5, a6, a7, a8, a9, a10)
  else
   chk (decide (a0 ≤ 9223372036854775807 ∧ a9.length < 1099511627776)) <|
   LshI_1 m m (0, ((proV a0 a9).length : Int), 0, a3, a4, a5, a6, a8, (proV a0 a9), a10)
noncomputable def LshI_0 (m : Nat) : Nat → AshI_0 → Option (List Un) := iterA (LshI_0s m)
theorem LshI_0_succ (m : Nat) (n : Nat) : LshI_0 m (n + 1) = LshI_0s m (LshI_0 m n) := rfl
noncomputable def SshI_0 (F : AshI_0 → Option (List Un)) : StopS := ⟨[.lp [0, 1, 0, 1, 1], .blk 0, .code [1, 1, 1]], ⟨frm 88 [(0, .ptr 0 0 0), (1, .int .i64), (2, .fn 41 [] [.ptr 4 0 0]), (3, .fn 31 [] []), (9, .buf 5 1), (10, .buf 6 1), (20, .buf 1 3), (21, .int .i64), (22, .int .i64)], [.cells [.int .i64, .int .i64, .int .i64, .int .i64, .int .i64, .buf 1 3, .int .i64, .int .i64, .buf 7 4], .recs [.int .i64, .int .i64, .int .i64], .gone, .gone, .cells [.int .i64], .ints .i64, .ints .i64, .recs [.int .i64, .int .i64, .int .i64, .int .i64]]⟩, onU F⟩
theorem HshI_1 (m : Nat) : ∀ n, HO NshI (SshI_1 (LshI_1 m n)) := loop_holds KN_none T27.right (fun k => [SshI_1 k]) (fun k h => (all1 h all0)) fun k a => by kernel_rfl
theorem HshI_0 (m : Nat) : ∀ n, HO NshI (SshI_0 (LshI_0 m n)) := loop_holds KN_none T27.right (fun k => [SshI_0 k, SshI_1 (LshI_1 m m)]) (fun k h => (all1 h (all1 (HshI_1 m m) all0))) fun k a => by kernel_rfl
noncomputable def tshI (m : Nat) : Int × RunN × Int × Int × List Dat × List Dat × Int → Option (List Un) := fun (a0, a1, a2, a3, a4, a5, a6) =>
  LshI_0 m m (a0, (a4.length : Int), 0, a1, a2, a3, a4, a6, [], [], a5)
theorem shL0shI (m : Nat) (nn : Int) (hnn : nn ≤ 9223372036854775807) (y : RunN) (q kd : Int) (rk : Int) (out : List Dat) : ∀ (rest pre : List Dat) (n : Nat) (who what : List Int), rest.length < n → (pre ++ rest).length ≤ 1000 → who.length ≤ pre.length → what.length ≤ pre.length →
    LshI_0 m n (nn, ((pre ++ rest).length : Int), (pre.length : Int), y, q, kd, pre ++ rest, rk, who, what, out) =
      LshI_1 m m (0, ((proV nn (what ++ valF (rankS rk) 2 rest)).length : Int), 0, y, q, kd, pre ++ rest, who ++ posF (rankS rk) pre.length rest, proV nn (what ++ valF (rankS rk) 2 rest), out) := by
  intro rest
  induction rest with
  | nil =>
    intro pre n who what hn hl h1 h2
    obtain ⟨n, rfl⟩ := one_more n (by simp at hn; omega)
    rw [LshI_0_succ]; unfold LshI_0s; dsimp only
    simp only [List.append_nil, posF, valF] at hl ⊢
    rw [cond_df (by omega), chk_dec ⟨hnn, by omega⟩]
  | cons x rest ih =>
    intro pre n who what hn hl h1 h2
    obtain ⟨n, rfl⟩ := one_more n (by simp at hn; omega)
    simp only [List.length_append, List.length_cons] at hl hn
    rw [LshI_0_succ]; unfold LshI_0s; dsimp only
    simp only [lt_eq]
    by_cases hs : x.i 0 = rk
    · have := ih (pre ++ [x]) n (who ++ [(pre.length : Int)]) (what ++ [x.i 2]) (by omega) (by simp; omega) (by simp; omega) (by simp; omega)
      simp only [posF, valF, rankS, beq_t hs, cond_true] at this ⊢
      simp (disch := omega) only [lt_eq, chk_dec, chk_tt, chk_and, chk_inb, chk_fits, chk_make, chkn_dec, cond_dt, cond_df, cond_bt, cond_bf, cond_nt, cond_nf, cond_not, cond_and, cond_or, cond_tt, cond_ff, wrap_id, min_if', max_if', List.length_append, List.length_cons, List.length_nil, List.length_replicate, List.length_set, List.length_map, List.length_range, Int.natCast_add, Int.cast_ofNat_Int, Int.toNat_natCast, Int.add_assoc, Nat.zero_add, Int.zero_add, List.append_assoc, List.cons_append, List.nil_append, rowD_mid, getD_mid]
      simp only [List.length_append, List.length_cons, List.length_nil, List.length_replicate, List.length_set, List.length_map, List.length_range, Int.natCast_add, Int.cast_ofNat_Int, Int.toNat_natCast, Int.add_assoc, Nat.zero_add, Int.zero_add, List.append_assoc, List.cons_append, List.nil_append] at this ⊢
      exact this
    · have := ih (pre ++ [x]) n who what (by omega) (by simp; omega) (by simp; omega) (by simp; omega)
      simp only [posF, valF, rankS, beq_f hs, cond_false] at this ⊢
      simp (disch := omega) only [lt_eq, chk_dec, chk_tt, chk_and, chk_inb, chk_fits, chk_make, chkn_dec, cond_dt, cond_df, cond_bt, cond_bf, cond_nt, cond_nf, cond_not, cond_and, cond_or, cond_tt, cond_ff, wrap_id, min_if', max_if', List.length_append, List.length_cons, List.length_nil, List.length_replicate, List.length_set, List.length_map, List.length_range, Int.natCast_add, Int.cast_ofNat_Int, Int.toNat_natCast, Int.add_assoc, Nat.zero_add, Int.zero_add, List.append_assoc, List.cons_append, List.nil_append, rowD_mid, getD_mid]
      simp only [List.length_append, List.length_cons, List.length_nil, List.length_replicate, List.length_set, List.length_map, List.length_range, Int.natCast_add, Int.cast_ofNat_Int, Int.toNat_natCast, Int.add_assoc, Nat.zero_add, Int.zero_add, List.append_assoc, List.cons_append, List.nil_append] at this ⊢
      exact this
theorem shL1shI (m : Nat) (y : RunN) (hy : 0 ≤ y.cash ∧ y.cash ≤ 1152921504606846976) (q kd : Int) : ∀ (rest done ws wd : List Int) (c out : List Dat) (n : Nat) (paid : Int), rest.length < n → ws.length = rest.length → wd.length = done.length → (done ++ rest).length ≤ 1000 → (∀ w ∈ ws, 0 ≤ w ∧ w < c.length) → (∀ x ∈ rest, 0 ≤ x ∧ x ≤ 1152921504606846976) → 0 ≤ paid → paid + rest.sum ≤ 1152921504606846976 → (∀ i, i < c.length → - paid ≤ (rowD c i).i 2 ∧ (rowD c i).i 2 ≤ 1152921504606846976) → c.length ≤ 1000 → out.length + rest.length ≤ 137438953472 →
    LshI_1 m n (paid, ((done ++ rest).length : Int), (done.length : Int), y, q, kd, c, wd ++ ws, done ++ rest, out) =
      some ([.i (paid + rest.sum)] ++ Uns.enc (({ y with cash := y.cash - (paid + rest.sum) } : RunN) : RunN) ++ [.i q, .i kd, .d (giveF 2 ws rest c), .d (out ++ payF q kd ws rest)]) := by
  intro rest
  induction rest with
  | nil =>
    intro done ws wd c out n paid hn e1 e2 hl hw hx p0 p1 hc cl ol
    obtain ⟨n, rfl⟩ := one_more n (by simp at hn; omega)
    obtain rfl := List.eq_nil_of_length_eq_zero e1
    rw [LshI_1_succ]; unfold LshI_1s; dsimp only
    simp only [List.append_nil, giveF, payF, List.sum_nil, Int.add_zero] at p1 ⊢
    rw [cond_df (by omega), wrap_id (by omega) (by omega)]
  | cons x rest ih =>
    intro done ws wd c out n paid hn e1 e2 hl hw hx p0 p1 hc cl ol
    obtain ⟨n, rfl⟩ := one_more n (by simp at hn; omega)
    cases ws with
    | nil => simp at e1
    | cons w ws =>
    simp only [List.length_append, List.length_cons, List.sum_cons] at hl hn e1 p1 ol
    have hx0 := hx x (by simp)
    have hw0 := hw w (by simp)
    have hs0 := sum_nonneg rest (fun z hz => (hx z (by simp [hz])).1)
    obtain ⟨v, rfl⟩ : ∃ v : Nat, w = (v : Int) := ⟨w.toNat, by omega⟩
    have hr := hc v (by omega)
    have gw : (wd ++ (v : Int) :: ws).getD done.length 0 = v := by rw [← e2]; exact getD_mid _ _ _ _
    have hset : ∀ i, i < (c.set v (lessD 2 x (rowD c v))).length → - (paid + x) ≤ (rowD (c.set v (lessD 2 x (rowD c v))) i).i 2 ∧ (rowD (c.set v (lessD 2 x (rowD c v))) i).i 2 ≤ 1152921504606846976 := by
      intro i hi
      rw [List.length_set] at hi
      by_cases e : i = v
      · subst e
        have e3 : rowD (c.set i (lessD 2 x (rowD c i))) i = lessD 2 x (rowD c i) := by simp [rowD, hi]
        rw [e3]
        simp only [lessD, show ¬ (2 : Nat) = 1 by decide, if_false, fld_i2]
        omega
      · have e3 : rowD (c.set v (lessD 2 x (rowD c v))) i = rowD c i := by simp [rowD, List.getElem?_set, Ne.symm e]
        rw [e3]
        have := hc i hi
        omega
    have := ih (done ++ [x]) ws (wd ++ [(v : Int)]) (c.set v (lessD 2 x (rowD c v))) (out ++ if 0 < x then [.r [.n q, .n kd, .n v, .n x]] else []) n (paid + x) (by omega) (by omega) (by simp [e2]) (by simp; omega) (fun z hz => by have := hw z (by simp [hz]); simpa using this) (fun z hz => hx z (by simp [hz])) (by omega) (by omega) hset (by simpa using cl) (by split <;> simp <;> omega)
    simp only [giveF, payF, List.sum_cons, Int.toNat_natCast]
    rw [show paid + (x + rest.sum) = paid + x + rest.sum by omega]
    rw [← List.append_assoc, ← this]
    rw [LshI_1_succ]; unfold LshI_1s; dsimp only
    have ec : done ++ [x] ++ rest = done ++ x :: rest := by simp
    have ew : wd ++ [(v : Int)] ++ ws = wd ++ (v : Int) :: ws := by simp
    rw [ec, ew]
    have e5 : (lessD 2 x (rowD c v)) = Dat.r [.n ((rowD c v).i 0), .n ((rowD c v).i 1), .n ((rowD c v).i 2 - x)] := by simp only [lessD, show ¬ (2 : Nat) = 1 by decide, if_false]
    rw [e5]
    simp only [lt_eq, Int.toNat_natCast, gw, getD_mid, List.length_append, List.length_cons, List.length_nil, Nat.zero_add, Int.natCast_add, Int.cast_ofNat_Int]
    by_cases h0 : 0 < x
    · rw [if_pos h0]
      simp (disch := omega) only [lt_eq, chk_dec, chk_tt, chk_and, chk_inb, chk_fits, chk_make, chkn_dec, cond_dt, cond_df, cond_bt, cond_bf, cond_nt, cond_nf, cond_not, cond_and, cond_or, cond_tt, cond_ff, wrap_id, min_if', max_if', Int.natCast_add]
    · rw [if_neg h0]
      simp (disch := omega) only [lt_eq, chk_dec, chk_tt, chk_and, chk_inb, chk_fits, chk_make, chkn_dec, cond_dt, cond_df, cond_bt, cond_bf, cond_nt, cond_nf, cond_not, cond_and, cond_or, cond_tt, cond_ff, wrap_id, min_if', max_if', Int.natCast_add, List.append_nil]
noncomputable def fshI : Int × RunN × Int × Int × List Dat × List Dat × Int → Bool × List Un := fun (a0, a1, a2, a3, a4, a5, a6) => (decide (a0 ≤ 9223372036854775807 ∧ 0 ≤ a1.cash ∧ a1.cash ≤ 1152921504606846976 ∧ a5.length ≤ 68719476736) && claimsG a4, [.i ((sharesV (rankS a6) 2 a0 a4).sum)] ++ Uns.enc (({ a1 with cash := a1.cash - (sharesV (rankS a6) 2 a0 a4).sum }) : RunN) ++ [.i (a2), .i (a3), .d (giveAll 2 (sharesV (rankS a6) 2 a0 a4) a4), .d (a5 ++ payAll a2 a3 0 (sharesV (rankS a6) 2 a0 a4))])
theorem specshI (a0 : Int) (a1 : RunN) (a2 : Int) (a3 : Int) (a4 : List Dat) (a5 : List Dat) (a6 : Int) (hc : (decide (a0 ≤ 9223372036854775807 ∧ 0 ≤ a1.cash ∧ a1.cash ≤ 1152921504606846976 ∧ a5.length ≤ 68719476736) && claimsG a4) = true) : ∃ m, tshI m (a0, a1, a2, a3, a4, a5, a6) = some ([.i ((sharesV (rankS a6) 2 a0 a4).sum)] ++ Uns.enc (({ a1 with cash := a1.cash - (sharesV (rankS a6) 2 a0 a4).sum }) : RunN) ++ [.i (a2), .i (a3), .d (giveAll 2 (sharesV (rankS a6) 2 a0 a4) a4), .d (a5 ++ payAll a2 a3 0 (sharesV (rankS a6) 2 a0 a4))]) := by
  simp only [Bool.and_eq_true, decide_eq_true_eq] at hc
  obtain ⟨⟨h1, h2, h3, h4⟩, h5⟩ := hc
  obtain ⟨c1, c2⟩ := claimsG_at h5
  obtain ⟨p1, p2, p3, p4, p5⟩ := pro_vals (rankS a6) (j := 2) (.inr rfl) a0 h5
  refine ⟨2000, ?_⟩
  unfold tshI
  refine (shL0shI 2000 a0 h1 a1 a2 a3 a6 a5 a4 [] 2000 [] [] (by omega) (by simpa using c1) (by simp) (by simp)).trans ?_
  simp only [List.nil_append, List.length_nil]
  have ht := trues_le (a4.map (rankS a6))
  rw [List.length_map] at ht
  have e := shL1shI 2000 a1 ⟨h2, h3⟩ a2 a3 (proV a0 (valF (rankS a6) 2 a4)) [] (posF (rankS a6) 0 a4) [] a4 a5 2000 0 (by omega) (by rw [p1, posF_len]) rfl (by simp; omega) (fun w hw => by have := posF_mem _ _ _ w hw; omega) (fun x hx => by have := p2 x hx; omega) (by omega) (by omega) (fun i hi => by have := claimG_at (c2 _ (rowD_in hi)); omega) c1 (by omega)
  refine e.trans ?_
  have g1 := give_mask (rankS a6) 2 a4 [] (proV a0 (valF (rankS a6) 2 a4)) p1 (fun d hd => (claimG_at (c2 d hd)).1)
  have g2 := pay_mask a2 a3 (rankS a6) a4 0 (proV a0 (valF (rankS a6) 2 a4)) p1
  simp only [List.nil_append, List.length_nil, Int.cast_ofNat_Int] at g1 g2
  rw [g1, g2, Int.zero_add, p5, shares_mask (rankS a6) (j := 2) (.inr rfl) a0 h5]
theorem rightshI : ER 29 (mkE NshI.en NshI.ex fshI) := right_of KN_none T27.right (fun m => [SshI_0 (LshI_0 m m)]) (t := tshI) (by kernel_rfl) (fun m => (all1 (HshI_0 m m) all0)) (fun m a => by kernel_rfl) fun (a0, a1, a2, a3, a4, a5, a6) hc => specshI a0 a1 a2 a3 a4 a5 a6 hc
noncomputable def TshI : Tb Try.prog LQ TE := T27.add 29 _ rightshI
/-! (*cascade/flow.run).shared -/
noncomputable def NshB : RoadF := ⟨TshI.tab, 29, ⟨[.ptr 0 0 0, .int .i64, .fn 41 [] [.ptr 3 0 0], .fn 34 [] []], [.cells [.int .i64, .int .i64, .int .i64, .int .i64, .int .i64, .buf 1 3, .int .i64, .int .i64, .buf 2 4], .recs [.int .i64, .int .i64, .int .i64], .recs [.int .i64, .int .i64, .int .i64, .int .i64], .cells [.int .i64]]⟩, ⟨[.int .i64], [.cells [.int .i64, .int .i64, .int .i64, .int .i64, .int .i64, .buf 1 3, .int .i64, .int .i64, .buf 4 4], .recs [.int .i64, .int .i64, .int .i64], .gone, .gone, .recs [.int .i64, .int .i64, .int .i64, .int .i64]]⟩, []⟩
abbrev AshB_1 : Type := Int × Int × Int × RunN × Int × Int × List Dat × List Int × List Int × List Dat
abbrev AshB_0 : Type := Int × Int × Int × RunN × Int × Int × List Dat × Int × List Int × List Int × List Dat
noncomputable def LshB_1s (m : Nat) (k : AshB_1 → Option (List Un)) : AshB_1 → Option (List Un) := fun (a0, a1, a2, a3, a4, a5, a6, a7, a8, a9) =>
  bif decide (a2 < a1) then
   chk (inb a2 a8.length) <|
   chk (decide (a2.toNat < a8.length)) <|
   chk (inb a2 a7.length) <|
   chk (decide (a2.toNat < a7.length)) <|
   chk (inb (a7.getD a2.toNat 0) a6.length) <|
   chk (decide ((a7.getD a2.toNat 0).toNat < a6.length)) <|
   chk (decide ((a7.getD a2.toNat 0).toNat < a6.length)) <|
   lt (rowD a6 ((a7.getD a2.toNat 0).toNat) : Dat) fun d4 =>
   lt ((List.set a6 ((a7.getD a2.toNat 0).toNat) (.r [.n (d4.i 0), .n (w64 (((rowD a6 ((a7.getD a2.toNat 0).toNat)).i 1) - (a8.getD a2.toNat 0))), .n (d4.i 2)])) : List Dat) fun l5 =>
   lt ((w64 (a0 + (a8.getD a2.toNat 0))) : Int) fun x6 =>
   chk (inb a2 a7.length) <|
   chk (decide (a2.toNat < a7.length)) <|
   bif (decide ((a8.getD a2.toNat 0) > 0)) then
    chk (fits (a9.length + 1) 32) <|
    k (x6, a1, (w64 (a2 + 1)), a3, a4, a5, l5, a7, a8, (a9 ++ ([.r [.n a4, .n a5, .n (a7.getD a2.toNat 0), .n (a8.getD a2.toNat 0)]])))
   else
    k (x6, a1, (w64 (a2 + 1)), a3, a4, a5, l5, a7, a8, a9)
  else
   some ([.i a0] ++ Uns.enc (({ a3 with cash := (w64 (a3.cash - a0)) } : RunN) : RunN) ++ [.i a4, .i a5, .d a6, .d a9])
noncomputable def LshB_1 (m : Nat) : Nat → AshB_1 → Option (List Un) := iterA (LshB_1s m)
theorem LshB_1_succ (m : Nat) (n : Nat) : LshB_1 m (n + 1) = LshB_1s m (LshB_1 m n) := rfl
noncomputable def SshB_1 (F : AshB_1 → Option (List Un)) : StopS := ⟨[.lp [0, 1, 0, 1, 1, 1, 1], .blk 2, .code [1, 1, 1, 1, 1]], ⟨frm 88 [(0, .ptr 0 0 0), (3, .fn 34 [] []), (9, .buf 4 1), (13, .int .i64), (44, .buf 5 1), (45, .int .i64), (46, .int .i64)], [.cells [.int .i64, .int .i64, .int .i64, .int .i64, .int .i64, .buf 1 3, .int .i64, .int .i64, .buf 6 4], .recs [.int .i64, .int .i64, .int .i64], .gone, .gone, .ints .i64, .ints .i64, .recs [.int .i64, .int .i64, .int .i64, .int .i64]]⟩, onU F⟩
noncomputable def LshB_0s (m : Nat) (k : AshB_0 → Option (List Un)) : AshB_0 → Option (List Un) := fun (a0, a1, a2, a3, a4, a5, a6, a7, a8, a9, a10) =>
  bif decide (a2 < a1) then
   chk (inb a2 a6.length) <|
   chk (decide (a2.toNat < a6.length)) <|
   lt (rowD a6 a2.toNat : Dat) fun d1 =>
   bif (d1.i 0) == a7 then
    chk (fits (a8.length + 1) 8) <|
    chk (fits (a9.length + 1) 8) <|
    k (a0, a1, (w64 (a2 + 1)), a3, a4, a5, a6, a7, (a8 ++ ([a2])), (a9 ++ ([(d1.i 1)])), a10)
   else
    k (a0, a1, (w64 (a2 + 1)), a3, a4, a5, a6, a7, a8, a9, a10)
  else
   chk (decide (a0 ≤ 9223372036854775807 ∧ a9.length < 1099511627776)) <|
   LshB_1 m m (0, ((proV a0 a9).length : Int), 0, a3, a4, a5, a6, a8, (proV a0 a9), a10)
noncomputable def LshB_0 (m : Nat) : Nat → AshB_0 → Option (List Un) := iterA (LshB_0s m)
theorem LshB_0_succ (m : Nat) (n : Nat) : LshB_0 m (n + 1) = LshB_0s m (LshB_0 m n) := rfl
noncomputable def SshB_0 (F : AshB_0 → Option (List Un)) : StopS := ⟨[.lp [0, 1, 0, 1, 1], .blk 0, .code [1, 1, 1]], ⟨frm 88 [(0, .ptr 0 0 0), (1, .int .i64), (2, .fn 41 [] [.ptr 4 0 0]), (3, .fn 34 [] []), (9, .buf 5 1), (10, .buf 6 1), (20, .buf 1 3), (21, .int .i64), (22, .int .i64)], [.cells [.int .i64, .int .i64, .int .i64, .int .i64, .int .i64, .buf 1 3, .int .i64, .int .i64, .buf 7 4], .recs [.int .i64, .int .i64, .int .i64], .gone, .gone, .cells [.int .i64], .ints .i64, .ints .i64, .recs [.int .i64, .int .i64, .int .i64, .int .i64]]⟩, onU F⟩
theorem HshB_1 (m : Nat) : ∀ n, HO NshB (SshB_1 (LshB_1 m n)) := loop_holds KN_none TshI.right (fun k => [SshB_1 k]) (fun k h => (all1 h all0)) fun k a => by kernel_rfl
theorem HshB_0 (m : Nat) : ∀ n, HO NshB (SshB_0 (LshB_0 m n)) := loop_holds KN_none TshI.right (fun k => [SshB_0 k, SshB_1 (LshB_1 m m)]) (fun k h => (all1 h (all1 (HshB_1 m m) all0))) fun k a => by kernel_rfl
noncomputable def tshB (m : Nat) : Int × RunN × Int × Int × List Dat × List Dat × Int → Option (List Un) := fun (a0, a1, a2, a3, a4, a5, a6) =>
  LshB_0 m m (a0, (a4.length : Int), 0, a1, a2, a3, a4, a6, [], [], a5)
theorem shL0shB (m : Nat) (nn : Int) (hnn : nn ≤ 9223372036854775807) (y : RunN) (q kd : Int) (rk : Int) (out : List Dat) : ∀ (rest pre : List Dat) (n : Nat) (who what : List Int), rest.length < n → (pre ++ rest).length ≤ 1000 → who.length ≤ pre.length → what.length ≤ pre.length →
    LshB_0 m n (nn, ((pre ++ rest).length : Int), (pre.length : Int), y, q, kd, pre ++ rest, rk, who, what, out) =
      LshB_1 m m (0, ((proV nn (what ++ valF (rankS rk) 1 rest)).length : Int), 0, y, q, kd, pre ++ rest, who ++ posF (rankS rk) pre.length rest, proV nn (what ++ valF (rankS rk) 1 rest), out) := by
  intro rest
  induction rest with
  | nil =>
    intro pre n who what hn hl h1 h2
    obtain ⟨n, rfl⟩ := one_more n (by simp at hn; omega)
    rw [LshB_0_succ]; unfold LshB_0s; dsimp only
    simp only [List.append_nil, posF, valF] at hl ⊢
    rw [cond_df (by omega), chk_dec ⟨hnn, by omega⟩]
  | cons x rest ih =>
    intro pre n who what hn hl h1 h2
    obtain ⟨n, rfl⟩ := one_more n (by simp at hn; omega)
    simp only [List.length_append, List.length_cons] at hl hn
    rw [LshB_0_succ]; unfold LshB_0s; dsimp only
    simp only [lt_eq]
    by_cases hs : x.i 0 = rk
    · have := ih (pre ++ [x]) n (who ++ [(pre.length : Int)]) (what ++ [x.i 1]) (by omega) (by simp; omega) (by simp; omega) (by simp; omega)
      simp only [posF, valF, rankS, beq_t hs, cond_true] at this ⊢
      simp (disch := omega) only [lt_eq, chk_dec, chk_tt, chk_and, chk_inb, chk_fits, chk_make, chkn_dec, cond_dt, cond_df, cond_bt, cond_bf, cond_nt, cond_nf, cond_not, cond_and, cond_or, cond_tt, cond_ff, wrap_id, min_if', max_if', List.length_append, List.length_cons, List.length_nil, List.length_replicate, List.length_set, List.length_map, List.length_range, Int.natCast_add, Int.cast_ofNat_Int, Int.toNat_natCast, Int.add_assoc, Nat.zero_add, Int.zero_add, List.append_assoc, List.cons_append, List.nil_append, rowD_mid, getD_mid]
      simp only [List.length_append, List.length_cons, List.length_nil, List.length_replicate, List.length_set, List.length_map, List.length_range, Int.natCast_add, Int.cast_ofNat_Int, Int.toNat_natCast, Int.add_assoc, Nat.zero_add, Int.zero_add, List.append_assoc, List.cons_append, List.nil_append] at this ⊢
      exact this
    · have := ih (pre ++ [x]) n who what (by omega) (by simp; omega) (by simp; omega) (by simp; omega)
      simp only [posF, valF, rankS, beq_f hs, cond_false] at this ⊢
      simp (disch := omega) only [lt_eq, chk_dec, chk_tt, chk_and, chk_inb, chk_fits, chk_make, chkn_dec, cond_dt, cond_df, cond_bt, cond_bf, cond_nt, cond_nf, cond_not, cond_and, cond_or, cond_tt, cond_ff, wrap_id, min_if', max_if', List.length_append, List.length_cons, List.length_nil, List.length_replicate, List.length_set, List.length_map, List.length_range, Int.natCast_add, Int.cast_ofNat_Int, Int.toNat_natCast, Int.add_assoc, Nat.zero_add, Int.zero_add, List.append_assoc, List.cons_append, List.nil_append, rowD_mid, getD_mid]
      simp only [List.length_append, List.length_cons, List.length_nil, List.length_replicate, List.length_set, List.length_map, List.length_range, Int.natCast_add, Int.cast_ofNat_Int, Int.toNat_natCast, Int.add_assoc, Nat.zero_add, Int.zero_add, List.append_assoc, List.cons_append, List.nil_append] at this ⊢
      exact this
theorem shL1shB (m : Nat) (y : RunN) (hy : 0 ≤ y.cash ∧ y.cash ≤ 1152921504606846976) (q kd : Int) : ∀ (rest done ws wd : List Int) (c out : List Dat) (n : Nat) (paid : Int), rest.length < n → ws.length = rest.length → wd.length = done.length → (done ++ rest).length ≤ 1000 → (∀ w ∈ ws, 0 ≤ w ∧ w < c.length) → (∀ x ∈ rest, 0 ≤ x ∧ x ≤ 1152921504606846976) → 0 ≤ paid → paid + rest.sum ≤ 1152921504606846976 → (∀ i, i < c.length → - paid ≤ (rowD c i).i 1 ∧ (rowD c i).i 1 ≤ 1152921504606846976) → c.length ≤ 1000 → out.length + rest.length ≤ 137438953472 →
    LshB_1 m n (paid, ((done ++ rest).length : Int), (done.length : Int), y, q, kd, c, wd ++ ws, done ++ rest, out) =
      some ([.i (paid + rest.sum)] ++ Uns.enc (({ y with cash := y.cash - (paid + rest.sum) } : RunN) : RunN) ++ [.i q, .i kd, .d (giveF 1 ws rest c), .d (out ++ payF q kd ws rest)]) := by
  intro rest
  induction rest with
  | nil =>
    intro done ws wd c out n paid hn e1 e2 hl hw hx p0 p1 hc cl ol
    obtain ⟨n, rfl⟩ := one_more n (by simp at hn; omega)
    obtain rfl := List.eq_nil_of_length_eq_zero e1
    rw [LshB_1_succ]; unfold LshB_1s; dsimp only
    simp only [List.append_nil, giveF, payF, List.sum_nil, Int.add_zero] at p1 ⊢
    rw [cond_df (by omega), wrap_id (by omega) (by omega)]
  | cons x rest ih =>
    intro done ws wd c out n paid hn e1 e2 hl hw hx p0 p1 hc cl ol
    obtain ⟨n, rfl⟩ := one_more n (by simp at hn; omega)
    cases ws with
    | nil => simp at e1
    | cons w ws =>
    simp only [List.length_append, List.length_cons, List.sum_cons] at hl hn e1 p1 ol
    have hx0 := hx x (by simp)
    have hw0 := hw w (by simp)
    have hs0 := sum_nonneg rest (fun z hz => (hx z (by simp [hz])).1)
    obtain ⟨v, rfl⟩ : ∃ v : Nat, w = (v : Int) := ⟨w.toNat, by omega⟩
    have hr := hc v (by omega)
    have gw : (wd ++ (v : Int) :: ws).getD done.length 0 = v := by rw [← e2]; exact getD_mid _ _ _ _
    have hset : ∀ i, i < (c.set v (lessD 1 x (rowD c v))).length → - (paid + x) ≤ (rowD (c.set v (lessD 1 x (rowD c v))) i).i 1 ∧ (rowD (c.set v (lessD 1 x (rowD c v))) i).i 1 ≤ 1152921504606846976 := by
      intro i hi
      rw [List.length_set] at hi
      by_cases e : i = v
      · subst e
        have e3 : rowD (c.set i (lessD 1 x (rowD c i))) i = lessD 1 x (rowD c i) := by simp [rowD, hi]
        rw [e3]
        simp only [lessD, if_true, fld_i1]
        omega
      · have e3 : rowD (c.set v (lessD 1 x (rowD c v))) i = rowD c i := by simp [rowD, List.getElem?_set, Ne.symm e]
        rw [e3]
        have := hc i hi
        omega
    have := ih (done ++ [x]) ws (wd ++ [(v : Int)]) (c.set v (lessD 1 x (rowD c v))) (out ++ if 0 < x then [.r [.n q, .n kd, .n v, .n x]] else []) n (paid + x) (by omega) (by omega) (by simp [e2]) (by simp; omega) (fun z hz => by have := hw z (by simp [hz]); simpa using this) (fun z hz => hx z (by simp [hz])) (by omega) (by omega) hset (by simpa using cl) (by split <;> simp <;> omega)
    simp only [giveF, payF, List.sum_cons, Int.toNat_natCast]
    rw [show paid + (x + rest.sum) = paid + x + rest.sum by omega]
    rw [← List.append_assoc, ← this]
    rw [LshB_1_succ]; unfold LshB_1s; dsimp only
    have ec : done ++ [x] ++ rest = done ++ x :: rest := by simp
    have ew : wd ++ [(v : Int)] ++ ws = wd ++ (v : Int) :: ws := by simp
    rw [ec, ew]
    have e5 : (lessD 1 x (rowD c v)) = Dat.r [.n ((rowD c v).i 0), .n ((rowD c v).i 1 - x), .n ((rowD c v).i 2)] := by simp only [lessD, if_true]
    rw [e5]
    simp only [lt_eq, Int.toNat_natCast, gw, getD_mid, List.length_append, List.length_cons, List.length_nil, Nat.zero_add, Int.natCast_add, Int.cast_ofNat_Int]
    by_cases h0 : 0 < x
    · rw [if_pos h0]
      simp (disch := omega) only [lt_eq, chk_dec, chk_tt, chk_and, chk_inb, chk_fits, chk_make, chkn_dec, cond_dt, cond_df, cond_bt, cond_bf, cond_nt, cond_nf, cond_not, cond_and, cond_or, cond_tt, cond_ff, wrap_id, min_if', max_if', Int.natCast_add]
    · rw [if_neg h0]
      simp (disch := omega) only [lt_eq, chk_dec, chk_tt, chk_and, chk_inb, chk_fits, chk_make, chkn_dec, cond_dt, cond_df, cond_bt, cond_bf, cond_nt, cond_nf, cond_not, cond_and, cond_or, cond_tt, cond_ff, wrap_id, min_if', max_if', Int.natCast_add, List.append_nil]
noncomputable def fshB : Int × RunN × Int × Int × List Dat × List Dat × Int → Bool × List Un := fun (a0, a1, a2, a3, a4, a5, a6) => (decide (a0 ≤ 9223372036854775807 ∧ 0 ≤ a1.cash ∧ a1.cash ≤ 1152921504606846976 ∧ a5.length ≤ 68719476736) && claimsG a4, [.i ((sharesV (rankS a6) 1 a0 a4).sum)] ++ Uns.enc (({ a1 with cash := a1.cash - (sharesV (rankS a6) 1 a0 a4).sum }) : RunN) ++ [.i (a2), .i (a3), .d (giveAll 1 (sharesV (rankS a6) 1 a0 a4) a4), .d (a5 ++ payAll a2 a3 0 (sharesV (rankS a6) 1 a0 a4))])
theorem specshB (a0 : Int) (a1 : RunN) (a2 : Int) (a3 : Int) (a4 : List Dat) (a5 : List Dat) (a6 : Int) (hc : (decide (a0 ≤ 9223372036854775807 ∧ 0 ≤ a1.cash ∧ a1.cash ≤ 1152921504606846976 ∧ a5.length ≤ 68719476736) && claimsG a4) = true) : ∃ m, tshB m (a0, a1, a2, a3, a4, a5, a6) = some ([.i ((sharesV (rankS a6) 1 a0 a4).sum)] ++ Uns.enc (({ a1 with cash := a1.cash - (sharesV (rankS a6) 1 a0 a4).sum }) : RunN) ++ [.i (a2), .i (a3), .d (giveAll 1 (sharesV (rankS a6) 1 a0 a4) a4), .d (a5 ++ payAll a2 a3 0 (sharesV (rankS a6) 1 a0 a4))]) := by
  simp only [Bool.and_eq_true, decide_eq_true_eq] at hc
  obtain ⟨⟨h1, h2, h3, h4⟩, h5⟩ := hc
  obtain ⟨c1, c2⟩ := claimsG_at h5
  obtain ⟨p1, p2, p3, p4, p5⟩ := pro_vals (rankS a6) (j := 1) (.inl rfl) a0 h5
  refine ⟨2000, ?_⟩
  unfold tshB
  refine (shL0shB 2000 a0 h1 a1 a2 a3 a6 a5 a4 [] 2000 [] [] (by omega) (by simpa using c1) (by simp) (by simp)).trans ?_
  simp only [List.nil_append, List.length_nil]
  have ht := trues_le (a4.map (rankS a6))
  rw [List.length_map] at ht
  have e := shL1shB 2000 a1 ⟨h2, h3⟩ a2 a3 (proV a0 (valF (rankS a6) 1 a4)) [] (posF (rankS a6) 0 a4) [] a4 a5 2000 0 (by omega) (by rw [p1, posF_len]) rfl (by simp; omega) (fun w hw => by have := posF_mem _ _ _ w hw; omega) (fun x hx => by have := p2 x hx; omega) (by omega) (by omega) (fun i hi => by have := claimG_at (c2 _ (rowD_in hi)); omega) c1 (by omega)
  refine e.trans ?_
  have g1 := give_mask (rankS a6) 1 a4 [] (proV a0 (valF (rankS a6) 1 a4)) p1 (fun d hd => (claimG_at (c2 d hd)).1)
  have g2 := pay_mask a2 a3 (rankS a6) a4 0 (proV a0 (valF (rankS a6) 1 a4)) p1
  simp only [List.nil_append, List.length_nil, Int.cast_ofNat_Int] at g1 g2
  rw [g1, g2, Int.zero_add, p5, shares_mask (rankS a6) (j := 1) (.inl rfl) a0 h5]
theorem rightshB : ER 29 (mkE NshB.en NshB.ex fshB) := right_of KN_none TshI.right (fun m => [SshB_0 (LshB_0 m m)]) (t := tshB) (by kernel_rfl) (fun m => (all1 (HshB_0 m m) all0)) (fun m a => by kernel_rfl) fun (a0, a1, a2, a3, a4, a5, a6) hc => specshB a0 a1 a2 a3 a4 a5 a6 hc
noncomputable def TshB : Tb Try.prog LQ TE := TshI.add 29 _ rightshB
/-! (*cascade/flow.run).shared -/
noncomputable def NshA : RoadF := ⟨TshB.tab, 29, ⟨[.ptr 0 0 0, .int .i64, .fn 33 [] [], .fn 34 [] []], [.cells [.int .i64, .int .i64, .int .i64, .int .i64, .int .i64, .buf 1 3, .int .i64, .int .i64, .buf 2 4], .recs [.int .i64, .int .i64, .int .i64], .recs [.int .i64, .int .i64, .int .i64, .int .i64]]⟩, ⟨[.int .i64], [.cells [.int .i64, .int .i64, .int .i64, .int .i64, .int .i64, .buf 1 3, .int .i64, .int .i64, .buf 3 4], .recs [.int .i64, .int .i64, .int .i64], .gone, .recs [.int .i64, .int .i64, .int .i64, .int .i64]]⟩, []⟩
abbrev AshA_1 : Type := Int × Int × Int × RunN × Int × Int × List Dat × List Int × List Int × List Dat
abbrev AshA_0 : Type := Int × Int × Int × RunN × Int × Int × List Dat × List Int × List Int × List Dat
noncomputable def LshA_1s (m : Nat) (k : AshA_1 → Option (List Un)) : AshA_1 → Option (List Un) := fun (a0, a1, a2, a3, a4, a5, a6, a7, a8, a9) =>
  bif decide (a2 < a1) then
   chk (inb a2 a8.length) <|
   chk (decide (a2.toNat < a8.length)) <|
   chk (inb a2 a7.length) <|
   chk (decide (a2.toNat < a7.length)) <|
   chk (inb (a7.getD a2.toNat 0) a6.length) <|
   chk (decide ((a7.getD a2.toNat 0).toNat < a6.length)) <|
   chk (decide ((a7.getD a2.toNat 0).toNat < a6.length)) <|
   lt (rowD a6 ((a7.getD a2.toNat 0).toNat) : Dat) fun d4 =>
   lt ((List.set a6 ((a7.getD a2.toNat 0).toNat) (.r [.n (d4.i 0), .n (w64 (((rowD a6 ((a7.getD a2.toNat 0).toNat)).i 1) - (a8.getD a2.toNat 0))), .n (d4.i 2)])) : List Dat) fun l5 =>
   lt ((w64 (a0 + (a8.getD a2.toNat 0))) : Int) fun x6 =>
   chk (inb a2 a7.length) <|
   chk (decide (a2.toNat < a7.length)) <|
   bif (decide ((a8.getD a2.toNat 0) > 0)) then
    chk (fits (a9.length + 1) 32) <|
    k (x6, a1, (w64 (a2 + 1)), a3, a4, a5, l5, a7, a8, (a9 ++ ([.r [.n a4, .n a5, .n (a7.getD a2.toNat 0), .n (a8.getD a2.toNat 0)]])))
   else
    k (x6, a1, (w64 (a2 + 1)), a3, a4, a5, l5, a7, a8, a9)
  else
   some ([.i a0] ++ Uns.enc (({ a3 with cash := (w64 (a3.cash - a0)) } : RunN) : RunN) ++ [.i a4, .i a5, .d a6, .d a9])
noncomputable def LshA_1 (m : Nat) : Nat → AshA_1 → Option (List Un) := iterA (LshA_1s m)
theorem LshA_1_succ (m : Nat) (n : Nat) : LshA_1 m (n + 1) = LshA_1s m (LshA_1 m n) := rfl
noncomputable def SshA_1 (F : AshA_1 → Option (List Un)) : StopS := ⟨[.lp [0, 1, 0, 1, 1, 1, 1], .blk 2, .code [1, 1, 1, 1, 1]], ⟨frm 88 [(0, .ptr 0 0 0), (3, .fn 34 [] []), (9, .buf 3 1), (13, .int .i64), (44, .buf 4 1), (45, .int .i64), (46, .int .i64)], [.cells [.int .i64, .int .i64, .int .i64, .int .i64, .int .i64, .buf 1 3, .int .i64, .int .i64, .buf 5 4], .recs [.int .i64, .int .i64, .int .i64], .gone, .ints .i64, .ints .i64, .recs [.int .i64, .int .i64, .int .i64, .int .i64]]⟩, onU F⟩
noncomputable def LshA_0s (m : Nat) (k : AshA_0 → Option (List Un)) : AshA_0 → Option (List Un) := fun (a0, a1, a2, a3, a4, a5, a6, a7, a8, a9) =>
  bif decide (a2 < a1) then
   chk (inb a2 a6.length) <|
   chk (decide (a2.toNat < a6.length)) <|
   chk (fits (a7.length + 1) 8) <|
   chk (fits (a8.length + 1) 8) <|
   k (a0, a1, (w64 (a2 + 1)), a3, a4, a5, a6, (a7 ++ ([a2])), (a8 ++ ([((rowD a6 a2.toNat).i 1)])), a9)
  else
   chk (decide (a0 ≤ 9223372036854775807 ∧ a8.length < 1099511627776)) <|
   LshA_1 m m (0, ((proV a0 a8).length : Int), 0, a3, a4, a5, a6, a7, (proV a0 a8), a9)
noncomputable def LshA_0 (m : Nat) : Nat → AshA_0 → Option (List Un) := iterA (LshA_0s m)
theorem LshA_0_succ (m : Nat) (n : Nat) : LshA_0 m (n + 1) = LshA_0s m (LshA_0 m n) := rfl
noncomputable def SshA_0 (F : AshA_0 → Option (List Un)) : StopS := ⟨[.lp [0, 1, 0, 1, 1], .blk 0, .code [1, 1, 1]], ⟨frm 88 [(0, .ptr 0 0 0), (1, .int .i64), (2, .fn 33 [] []), (3, .fn 34 [] []), (9, .buf 3 1), (10, .buf 4 1), (20, .buf 1 3), (21, .int .i64), (22, .int .i64)], [.cells [.int .i64, .int .i64, .int .i64, .int .i64, .int .i64, .buf 1 3, .int .i64, .int .i64, .buf 5 4], .recs [.int .i64, .int .i64, .int .i64], .gone, .ints .i64, .ints .i64, .recs [.int .i64, .int .i64, .int .i64, .int .i64]]⟩, onU F⟩
theorem HshA_1 (m : Nat) : ∀ n, HO NshA (SshA_1 (LshA_1 m n)) := loop_holds KN_none TshB.right (fun k => [SshA_1 k]) (fun k h => (all1 h all0)) fun k a => by kernel_rfl
theorem HshA_0 (m : Nat) : ∀ n, HO NshA (SshA_0 (LshA_0 m n)) := loop_holds KN_none TshB.right (fun k => [SshA_0 k, SshA_1 (LshA_1 m m)]) (fun k h => (all1 h (all1 (HshA_1 m m) all0))) fun k a => by kernel_rfl
noncomputable def tshA (m : Nat) : Int × RunN × Int × Int × List Dat × List Dat → Option (List Un) := fun (a0, a1, a2, a3, a4, a5) =>
  LshA_0 m m (a0, (a4.length : Int), 0, a1, a2, a3, a4, [], [], a5)
theorem shL0shA (m : Nat) (nn : Int) (hnn : nn ≤ 9223372036854775807) (y : RunN) (q kd : Int) (out : List Dat) : ∀ (rest pre : List Dat) (n : Nat) (who what : List Int), rest.length < n → (pre ++ rest).length ≤ 1000 → who.length ≤ pre.length → what.length ≤ pre.length →
    LshA_0 m n (nn, ((pre ++ rest).length : Int), (pre.length : Int), y, q, kd, pre ++ rest, who, what, out) =
      LshA_1 m m (0, ((proV nn (what ++ valF (fun _ => true) 1 rest)).length : Int), 0, y, q, kd, pre ++ rest, who ++ posF (fun _ => true) pre.length rest, proV nn (what ++ valF (fun _ => true) 1 rest), out) := by
  intro rest
  induction rest with
  | nil =>
    intro pre n who what hn hl h1 h2
    obtain ⟨n, rfl⟩ := one_more n (by simp at hn; omega)
    rw [LshA_0_succ]; unfold LshA_0s; dsimp only
    simp only [List.append_nil, posF, valF] at hl ⊢
    rw [cond_df (by omega), chk_dec ⟨hnn, by omega⟩]
  | cons x rest ih =>
    intro pre n who what hn hl h1 h2
    obtain ⟨n, rfl⟩ := one_more n (by simp at hn; omega)
    simp only [List.length_append, List.length_cons] at hl hn
    rw [LshA_0_succ]; unfold LshA_0s; dsimp only
    have := ih (pre ++ [x]) n (who ++ [(pre.length : Int)]) (what ++ [x.i 1]) (by omega) (by simp; omega) (by simp; omega) (by simp; omega)
    simp only [posF, valF, cond_true] at this ⊢
    simp (disch := omega) only [lt_eq, chk_dec, chk_tt, chk_and, chk_inb, chk_fits, chk_make, chkn_dec, cond_dt, cond_df, cond_bt, cond_bf, cond_nt, cond_nf, cond_not, cond_and, cond_or, cond_tt, cond_ff, wrap_id, min_if', max_if', List.length_append, List.length_cons, List.length_nil, List.length_replicate, List.length_set, List.length_map, List.length_range, Int.natCast_add, Int.cast_ofNat_Int, Int.toNat_natCast, Int.add_assoc, Nat.zero_add, Int.zero_add, List.append_assoc, List.cons_append, List.nil_append, rowD_mid, getD_mid]
    simp only [List.length_append, List.length_cons, List.length_nil, List.length_replicate, List.length_set, List.length_map, List.length_range, Int.natCast_add, Int.cast_ofNat_Int, Int.toNat_natCast, Int.add_assoc, Nat.zero_add, Int.zero_add, List.append_assoc, List.cons_append, List.nil_append] at this ⊢
    exact this
theorem shL1shA (m : Nat) (y : RunN) (hy : 0 ≤ y.cash ∧ y.cash ≤ 1152921504606846976) (q kd : Int) : ∀ (rest done ws wd : List Int) (c out : List Dat) (n : Nat) (paid : Int), rest.length < n → ws.length = rest.length → wd.length = done.length → (done ++ rest).length ≤ 1000 → (∀ w ∈ ws, 0 ≤ w ∧ w < c.length) → (∀ x ∈ rest, 0 ≤ x ∧ x ≤ 1152921504606846976) → 0 ≤ paid → paid + rest.sum ≤ 1152921504606846976 → (∀ i, i < c.length → - paid ≤ (rowD c i).i 1 ∧ (rowD c i).i 1 ≤ 1152921504606846976) → c.length ≤ 1000 → out.length + rest.length ≤ 137438953472 →
    LshA_1 m n (paid, ((done ++ rest).length : Int), (done.length : Int), y, q, kd, c, wd ++ ws, done ++ rest, out) =
      some ([.i (paid + rest.sum)] ++ Uns.enc (({ y with cash := y.cash - (paid + rest.sum) } : RunN) : RunN) ++ [.i q, .i kd, .d (giveF 1 ws rest c), .d (out ++ payF q kd ws rest)]) := by
  intro rest
  induction rest with
  | nil =>
    intro done ws wd c out n paid hn e1 e2 hl hw hx p0 p1 hc cl ol
    obtain ⟨n, rfl⟩ := one_more n (by simp at hn; omega)
    obtain rfl := List.eq_nil_of_length_eq_zero e1
    rw [LshA_1_succ]; unfold LshA_1s; dsimp only
    simp only [List.append_nil, giveF, payF, List.sum_nil, Int.add_zero] at p1 ⊢
    rw [cond_df (by omega), wrap_id (by omega) (by omega)]
  | cons x rest ih =>
    intro done ws wd c out n paid hn e1 e2 hl hw hx p0 p1 hc cl ol
    obtain ⟨n, rfl⟩ := one_more n (by simp at hn; omega)
    cases ws with
    | nil => simp at e1
    | cons w ws =>
    simp only [List.length_append, List.length_cons, List.sum_cons] at hl hn e1 p1 ol
    have hx0 := hx x (by simp)
    have hw0 := hw w (by simp)
    have hs0 := sum_nonneg rest (fun z hz => (hx z (by simp [hz])).1)
    obtain ⟨v, rfl⟩ : ∃ v : Nat, w = (v : Int) := ⟨w.toNat, by omega⟩
    have hr := hc v (by omega)
    have gw : (wd ++ (v : Int) :: ws).getD done.length 0 = v := by rw [← e2]; exact getD_mid _ _ _ _
    have hset : ∀ i, i < (c.set v (lessD 1 x (rowD c v))).length → - (paid + x) ≤ (rowD (c.set v (lessD 1 x (rowD c v))) i).i 1 ∧ (rowD (c.set v (lessD 1 x (rowD c v))) i).i 1 ≤ 1152921504606846976 := by
      intro i hi
      rw [List.length_set] at hi
      by_cases e : i = v
      · subst e
        have e3 : rowD (c.set i (lessD 1 x (rowD c i))) i = lessD 1 x (rowD c i) := by simp [rowD, hi]
        rw [e3]
        simp only [lessD, if_true, fld_i1]
        omega
      · have e3 : rowD (c.set v (lessD 1 x (rowD c v))) i = rowD c i := by simp [rowD, List.getElem?_set, Ne.symm e]
        rw [e3]
        have := hc i hi
        omega
    have := ih (done ++ [x]) ws (wd ++ [(v : Int)]) (c.set v (lessD 1 x (rowD c v))) (out ++ if 0 < x then [.r [.n q, .n kd, .n v, .n x]] else []) n (paid + x) (by omega) (by omega) (by simp [e2]) (by simp; omega) (fun z hz => by have := hw z (by simp [hz]); simpa using this) (fun z hz => hx z (by simp [hz])) (by omega) (by omega) hset (by simpa using cl) (by split <;> simp <;> omega)
    simp only [giveF, payF, List.sum_cons, Int.toNat_natCast]
    rw [show paid + (x + rest.sum) = paid + x + rest.sum by omega]
    rw [← List.append_assoc, ← this]
    rw [LshA_1_succ]; unfold LshA_1s; dsimp only
    have ec : done ++ [x] ++ rest = done ++ x :: rest := by simp
    have ew : wd ++ [(v : Int)] ++ ws = wd ++ (v : Int) :: ws := by simp
    rw [ec, ew]
    have e5 : (lessD 1 x (rowD c v)) = Dat.r [.n ((rowD c v).i 0), .n ((rowD c v).i 1 - x), .n ((rowD c v).i 2)] := by simp only [lessD, if_true]
    rw [e5]
    simp only [lt_eq, Int.toNat_natCast, gw, getD_mid, List.length_append, List.length_cons, List.length_nil, Nat.zero_add, Int.natCast_add, Int.cast_ofNat_Int]
    by_cases h0 : 0 < x
    · rw [if_pos h0]
      simp (disch := omega) only [lt_eq, chk_dec, chk_tt, chk_and, chk_inb, chk_fits, chk_make, chkn_dec, cond_dt, cond_df, cond_bt, cond_bf, cond_nt, cond_nf, cond_not, cond_and, cond_or, cond_tt, cond_ff, wrap_id, min_if', max_if', Int.natCast_add]
    · rw [if_neg h0]
      simp (disch := omega) only [lt_eq, chk_dec, chk_tt, chk_and, chk_inb, chk_fits, chk_make, chkn_dec, cond_dt, cond_df, cond_bt, cond_bf, cond_nt, cond_nf, cond_not, cond_and, cond_or, cond_tt, cond_ff, wrap_id, min_if', max_if', Int.natCast_add, List.append_nil]
noncomputable def fshA : Int × RunN × Int × Int × List Dat × List Dat → Bool × List Un := fun (a0, a1, a2, a3, a4, a5) => (decide (a0 ≤ 9223372036854775807 ∧ 0 ≤ a1.cash ∧ a1.cash ≤ 1152921504606846976 ∧ a5.length ≤ 68719476736) && claimsG a4, [.i ((sharesV (fun _ => true) 1 a0 a4).sum)] ++ Uns.enc (({ a1 with cash := a1.cash - (sharesV (fun _ => true) 1 a0 a4).sum }) : RunN) ++ [.i (a2), .i (a3), .d (giveAll 1 (sharesV (fun _ => true) 1 a0 a4) a4), .d (a5 ++ payAll a2 a3 0 (sharesV (fun _ => true) 1 a0 a4))])
theorem specshA (a0 : Int) (a1 : RunN) (a2 : Int) (a3 : Int) (a4 : List Dat) (a5 : List Dat) (hc : (decide (a0 ≤ 9223372036854775807 ∧ 0 ≤ a1.cash ∧ a1.cash ≤ 1152921504606846976 ∧ a5.length ≤ 68719476736) && claimsG a4) = true) : ∃ m, tshA m (a0, a1, a2, a3, a4, a5) = some ([.i ((sharesV (fun _ => true) 1 a0 a4).sum)] ++ Uns.enc (({ a1 with cash := a1.cash - (sharesV (fun _ => true) 1 a0 a4).sum }) : RunN) ++ [.i (a2), .i (a3), .d (giveAll 1 (sharesV (fun _ => true) 1 a0 a4) a4), .d (a5 ++ payAll a2 a3 0 (sharesV (fun _ => true) 1 a0 a4))]) := by
  simp only [Bool.and_eq_true, decide_eq_true_eq] at hc
  obtain ⟨⟨h1, h2, h3, h4⟩, h5⟩ := hc
  obtain ⟨c1, c2⟩ := claimsG_at h5
  obtain ⟨p1, p2, p3, p4, p5⟩ := pro_vals (fun _ => true) (j := 1) (.inl rfl) a0 h5
  refine ⟨2000, ?_⟩
  unfold tshA
  refine (shL0shA 2000 a0 h1 a1 a2 a3 a5 a4 [] 2000 [] [] (by omega) (by simpa using c1) (by simp) (by simp)).trans ?_
  simp only [List.nil_append, List.length_nil]
  have ht := trues_le (a4.map (fun _ => true))
  rw [List.length_map] at ht
  have e := shL1shA 2000 a1 ⟨h2, h3⟩ a2 a3 (proV a0 (valF (fun _ => true) 1 a4)) [] (posF (fun _ => true) 0 a4) [] a4 a5 2000 0 (by omega) (by rw [p1, posF_len]) rfl (by simp; omega) (fun w hw => by have := posF_mem _ _ _ w hw; omega) (fun x hx => by have := p2 x hx; omega) (by omega) (by omega) (fun i hi => by have := claimG_at (c2 _ (rowD_in hi)); omega) c1 (by omega)
  refine e.trans ?_
  have g1 := give_mask (fun _ => true) 1 a4 [] (proV a0 (valF (fun _ => true) 1 a4)) p1 (fun d hd => (claimG_at (c2 d hd)).1)
  have g2 := pay_mask a2 a3 (fun _ => true) a4 0 (proV a0 (valF (fun _ => true) 1 a4)) p1
  simp only [List.nil_append, List.length_nil, Int.cast_ofNat_Int] at g1 g2
  rw [g1, g2, Int.zero_add, p5, shares_mask (fun _ => true) (j := 1) (.inl rfl) a0 h5]
theorem rightshA : ER 29 (mkE NshA.en NshA.ex fshA) := right_of KN_none TshB.right (fun m => [SshA_0 (LshA_0 m m)]) (t := tshA) (by kernel_rfl) (fun m => (all1 (HshA_0 m m) all0)) (fun m a => by kernel_rfl) fun (a0, a1, a2, a3, a4, a5) hc => specshA a0 a1 a2 a3 a4 a5 hc
noncomputable def TshA : Tb Try.prog LQ TE := TshB.add 29 _ rightshA
/-! (*cascade/flow.run).byRank -/
noncomputable def N32 : RoadF := ⟨TshA.tab, 32, ⟨[.ptr 0 0 0, .int .i64], [.cells [.int .i64, .int .i64, .int .i64, .int .i64, .int .i64, .buf 1 3, .int .i64, .int .i64, .buf 2 4], .recs [.int .i64, .int .i64, .int .i64], .recs [.int .i64, .int .i64, .int .i64, .int .i64]]⟩, ⟨[.int .i64], [.cells [.int .i64, .int .i64, .int .i64, .int .i64, .int .i64, .buf 1 3, .int .i64, .int .i64, .buf 3 4], .recs [.int .i64, .int .i64, .int .i64], .gone, .recs [.int .i64, .int .i64, .int .i64, .int .i64]]⟩, []⟩
abbrev A32_0 : Type := Int × Int × Int × RunN × Int × Int × List Dat × List Dat
noncomputable def L32_0s (m : Nat) (k : A32_0 → Option (List Un)) : A32_0 → Option (List Un) := fun (a0, a1, a2, a3, a4, a5, a6, a7) =>
  bif decide (a2 < 8) then
   chk (decide ((w64 (a0 - a1)) ≤ 9223372036854775807 ∧ 0 ≤ a3.cash ∧ a3.cash ≤ 1152921504606846976 ∧ a7.length ≤ 68719476736) && claimsG a6) <|
   k (a0, (w64 (a1 + ((sharesV (rankS a2) 1 (w64 (a0 - a1)) a6).sum))), (w64 (a2 + 1)), ({ a3 with cash := a3.cash - (sharesV (rankS a2) 1 (w64 (a0 - a1)) a6).sum }), a4, a5, (giveAll 1 (sharesV (rankS a2) 1 (w64 (a0 - a1)) a6) a6), (a7 ++ payAll a4 a5 0 (sharesV (rankS a2) 1 (w64 (a0 - a1)) a6)))
  else
   some ([.i a1] ++ Uns.enc (a3 : RunN) ++ [.i a4, .i a5, .d a6, .d a7])
noncomputable def L32_0 (m : Nat) : Nat → A32_0 → Option (List Un) := iterA (L32_0s m)
theorem L32_0_succ (m : Nat) (n : Nat) : L32_0 m (n + 1) = L32_0s m (L32_0 m n) := rfl
noncomputable def S32_0 (F : A32_0 → Option (List Un)) : StopS := ⟨[.lp [0, 1, 0, 1, 1], .blk 0, .code [1, 1, 1]], ⟨frm 21 [(0, .ptr 0 0 0), (1, .int .i64), (5, .int .i64), (7, .int .i64)], [.cells [.int .i64, .int .i64, .int .i64, .int .i64, .int .i64, .buf 1 3, .int .i64, .int .i64, .buf 3 4], .recs [.int .i64, .int .i64, .int .i64], .gone, .recs [.int .i64, .int .i64, .int .i64, .int .i64]]⟩, onU F⟩
theorem H32_0 (m : Nat) : ∀ n, HO N32 (S32_0 (L32_0 m n)) := loop_holds KN_none TshA.right (fun k => [S32_0 k]) (fun k h => (all1 h all0)) fun k a => by kernel_rfl
noncomputable def t32 (m : Nat) : Int × RunN × Int × Int × List Dat × List Dat → Option (List Un) := fun (a0, a1, a2, a3, a4, a5) =>
  L32_0 m m (a0, 0, 0, a1, a2, a3, a4, a5)
theorem rankL (m : Nat) (nn q kd : Int) : ∀ (k n : Nat) (r paid : Int) (y : RunN) (c out : List Dat), k < n → r + k = 8 → 0 ≤ r → claimsG c = true → 0 ≤ paid → paid ≤ nn → nn - paid ≤ y.cash → y.cash ≤ 1152921504606846976 → nn ≤ 1152921504606846976 → out.length + 1000 * k ≤ 68719476736 →
    L32_0 m n (nn, paid, r, y, q, kd, c, out) = some ([.i (paid + (rankV q kd k r (nn - paid) c).2.2)] ++ Uns.enc (({ y with cash := y.cash - (rankV q kd k r (nn - paid) c).2.2 } : RunN) : RunN) ++ [.i q, .i kd, .d (rankV q kd k r (nn - paid) c).1, .d (out ++ (rankV q kd k r (nn - paid) c).2.1)]) := by
  intro k
  induction k with
  | zero =>
    intro n r paid y c out hn hr h0 hc p0 p1 p2 p3 p4 ho
    obtain ⟨n, rfl⟩ := one_more n (by omega)
    rw [L32_0_succ]; unfold L32_0s; dsimp only
    simp only [rankV, Int.add_zero, Int.sub_zero, List.append_nil]
    rw [cond_df (by omega)]
  | succ k ih =>
    intro n r paid y c out hn hr h0 hc p0 p1 p2 p3 p4 ho
    obtain ⟨n, rfl⟩ := one_more n (by omega)
    rw [L32_0_succ]; unfold L32_0s; dsimp only
    obtain ⟨l1, l2, l3⟩ := sharesV_ok (rankS r) (j := 1) (.inl rfl) (nn - paid) hc
    obtain ⟨_, _, w0, w1⟩ := wantV_ok (rankS r) (j := 1) (.inl rfl) hc
    obtain ⟨g1, g2⟩ := give_ok (rankS r) (j := 1) (.inl rfl) (nn - paid) hc
    have hpl := payAll_len q kd (sharesV (rankS r) 1 (nn - paid) c) 0
    have hcl := (claimsG_at hc).1
    rw [cond_dt (by omega), wrap_id (n := nn - paid) (by omega) (by omega), hc, Bool.and_true, chk_dec ⟨by omega, by omega, by omega, by omega⟩]
    have := ih n (r + 1) (paid + (sharesV (rankS r) 1 (nn - paid) c).sum) { y with cash := y.cash - (sharesV (rankS r) 1 (nn - paid) c).sum } (giveAll 1 (sharesV (rankS r) 1 (nn - paid) c) c) (out ++ payAll q kd 0 (sharesV (rankS r) 1 (nn - paid) c)) (by omega) (by omega) (by omega) g1 (by omega) (by omega) (by simp only; omega) (by simp only; omega) p4 (by rw [List.length_append]; omega)
    rw [wrap_id (n := r + 1) (by omega) (by omega), wrap_id (n := paid + (sharesV (rankS r) 1 (nn - paid) c).sum) (by omega) (by omega), this]
    simp only [rankV]
    rw [show nn - (paid + (sharesV (rankS r) 1 (nn - paid) c).sum) = nn - paid - (sharesV (rankS r) 1 (nn - paid) c).sum by omega]
    simp only [Int.add_assoc, List.append_assoc, Int.sub_sub]
noncomputable def f32 : Int × RunN × Int × Int × List Dat × List Dat → Bool × List Un := fun (a0, a1, a2, a3, a4, a5) => (decide (0 ≤ a0 ∧ a0 ≤ a1.cash ∧ a1.cash ≤ 1152921504606846976 ∧ a5.length ≤ 34359738368) && claimsG a4, [.i ((rankV a2 a3 8 0 a0 a4).2.2)] ++ Uns.enc (({ a1 with cash := a1.cash - (rankV a2 a3 8 0 a0 a4).2.2 }) : RunN) ++ [.i (a2), .i (a3), .d ((rankV a2 a3 8 0 a0 a4).1), .d (a5 ++ (rankV a2 a3 8 0 a0 a4).2.1)])
theorem spec32 (a0 : Int) (a1 : RunN) (a2 : Int) (a3 : Int) (a4 : List Dat) (a5 : List Dat) (hc : (decide (0 ≤ a0 ∧ a0 ≤ a1.cash ∧ a1.cash ≤ 1152921504606846976 ∧ a5.length ≤ 34359738368) && claimsG a4) = true) : ∃ m, t32 m (a0, a1, a2, a3, a4, a5) = some ([.i ((rankV a2 a3 8 0 a0 a4).2.2)] ++ Uns.enc (({ a1 with cash := a1.cash - (rankV a2 a3 8 0 a0 a4).2.2 }) : RunN) ++ [.i (a2), .i (a3), .d ((rankV a2 a3 8 0 a0 a4).1), .d (a5 ++ (rankV a2 a3 8 0 a0 a4).2.1)]) := by
  simp only [Bool.and_eq_true, decide_eq_true_eq] at hc
  obtain ⟨⟨h1, h2, h3, h4⟩, h5⟩ := hc
  refine ⟨20, ?_⟩
  have := rankL 20 a0 a2 a3 8 20 0 0 a1 a4 a5 (by omega) (by omega) (by omega) h5 (by omega) (by omega) (by omega) h3 (by omega) (by omega)
  simp only [Int.sub_zero, Int.zero_add] at this
  exact this
theorem right32 : ER 32 (mkE N32.en N32.ex f32) := right_of KN_none TshA.right (fun m => [S32_0 (L32_0 m m)]) (t := t32) (by kernel_rfl) (fun m => (all1 (H32_0 m m) all0)) (fun m a => by kernel_rfl) fun (a0, a1, a2, a3, a4, a5) hc => spec32 a0 a1 a2 a3 a4 a5 hc
noncomputable def T32 : Tb Try.prog LQ TE := TshA.add 32 _ right32
def paidG (d : Dat) : Bool := decide (0 ≤ d.i 3 ∧ d.i 3 ≤ 1152921504606)
theorem paidG_at {d : Dat} (h : paidG d = true) : 0 ≤ d.i 3 ∧ d.i 3 ≤ 1152921504606 := of_decide_eq_true h
/-! cascade/flow.Paid -/
noncomputable def N13 : RoadF := ⟨T32.tab, 13, ⟨[.recs [.int .i64, .int .i64, .int .i64, .int .i64]], []⟩, ⟨[.int .i64], []⟩, []⟩
abbrev A13_0 : Type := Int × List Dat × Int × Int
noncomputable def L13_0s (m : Nat) (k : A13_0 → Option (List Un)) : A13_0 → Option (List Un) := fun (a0, a1, a2, a3) =>
  bif decide (a3 < a2) then
   chk (inb a3 a1.length) <|
   chk (decide (a3.toNat < a1.length)) <|
   k ((w64 (a0 + ((rowD a1 a3.toNat).i 3))), a1, a2, (w64 (a3 + 1)))
  else
   some ([.i a0])
noncomputable def L13_0 (m : Nat) : Nat → A13_0 → Option (List Un) := iterA (L13_0s m)
theorem L13_0_succ (m : Nat) (n : Nat) : L13_0 m (n + 1) = L13_0s m (L13_0 m n) := rfl
noncomputable def S13_0 (F : A13_0 → Option (List Un)) : StopS := ⟨[.lp [0, 1, 0, 1, 1], .blk 0, .code [1, 1, 1]], ⟨frm 18 [(3, .int .i64), (6, .recs [.int .i64, .int .i64, .int .i64, .int .i64]), (7, .int .i64), (8, .int .i64)], []⟩, onU F⟩
theorem H13_0 (m : Nat) : ∀ n, HO N13 (S13_0 (L13_0 m n)) := loop_holds KN_none T32.right (fun k => [S13_0 k]) (fun k h => (all1 h all0)) fun k a => by kernel_rfl
noncomputable def t13 (m : Nat) : List Dat → Option (List Un) := fun a0 =>
  L13_0 m m (0, a0, (a0.length : Int), 0)
theorem paidL (m : Nat) : ∀ (rest pre : List Dat) (n : Nat) (b : Int), rest.length < n → (pre ++ rest).length ≤ 1000000 → (∀ d ∈ rest, paidG d = true) → 0 ≤ b → b ≤ 1152921504606 * pre.length →
    L13_0 m n (b, pre ++ rest, ((pre ++ rest).length : Int), (pre.length : Int)) = some [.i (b + sumI 3 rest)] := by
  intro rest
  induction rest with
  | nil =>
    intro pre n b hn hl hg h0 h1
    obtain ⟨n, rfl⟩ := one_more n (by simp at hn; omega)
    rw [L13_0_succ]; unfold L13_0s; dsimp only
    simp [cond_df, sumI]
  | cons x rest ih =>
    intro pre n b hn hl hg h0 h1
    obtain ⟨n, rfl⟩ := one_more n (by simp at hn; omega)
    simp only [List.length_cons, List.length_append] at hn hl
    have hx := paidG_at (hg x (by simp))
    rw [L13_0_succ]; unfold L13_0s; dsimp only
    have := ih (pre ++ [x]) n (b + x.i 3) (by omega) (by simp; omega) (fun d hd => hg d (by simp [hd])) (by omega) (by simp; omega)
    simp only [sumI] at this ⊢
    simp (disch := omega) only [lt_eq, chk_dec, chk_tt, chk_and, chk_inb, chk_fits, chk_make, chkn_dec, cond_dt, cond_df, cond_bt, cond_bf, cond_nt, cond_nf, cond_not, cond_and, cond_or, cond_tt, cond_ff, wrap_id, min_if', max_if', List.length_append, List.length_cons, List.length_nil, List.length_replicate, List.length_set, List.length_map, List.length_range, Int.natCast_add, Int.cast_ofNat_Int, Int.toNat_natCast, Int.add_assoc, Nat.zero_add, Int.zero_add, List.append_assoc, List.cons_append, List.nil_append, rowD_mid]
    simp only [List.length_append, List.length_cons, List.length_nil, List.length_replicate, List.length_set, List.length_map, List.length_range, Int.natCast_add, Int.cast_ofNat_Int, Int.toNat_natCast, Int.add_assoc, Nat.zero_add, Int.zero_add, List.append_assoc, List.cons_append, List.nil_append] at this ⊢
    exact this
noncomputable def f13 : List Dat → Bool × List Un := fun a0 => (decide (a0.length ≤ 1000000) && a0.all paidG, [.i (sumI 3 a0)])
theorem spec13 (a0 : List Dat) (hc : (decide (a0.length ≤ 1000000) && a0.all paidG) = true) : ∃ m, t13 m a0 = some ([.i (sumI 3 a0)]) := by
  simp only [Bool.and_eq_true, decide_eq_true_eq, List.all_eq_true] at hc
  refine ⟨a0.length + 1, ?_⟩
  exact (paidL _ a0 [] (a0.length + 1) 0 (by omega) (by simpa using hc.1) hc.2 (by omega) (by simp)).trans (by simp only [Int.zero_add])
theorem right13 : ER 13 (mkE N13.en N13.ex f13) := right_of KN_none T32.right (fun m => [S13_0 (L13_0 m m)]) (t := t13) (by kernel_rfl) (fun m => (all1 (H13_0 m m) all0)) (fun m a => by kernel_rfl) fun a0 hc => spec13 a0 hc
noncomputable def T13 : Tb Try.prog LQ TE := T32.add 13 _ right13
/-! slices.Clone[[]cascade/flow.Claim,cascade/flow.Claim] -/
noncomputable def N19 : RoadF := ⟨T13.tab, 19, ⟨[.recs [.int .i64, .int .i64, .int .i64]], []⟩, ⟨[.buf 0 3], [.recs [.int .i64, .int .i64, .int .i64]]⟩, []⟩
noncomputable def t19 (m : Nat) : List Dat → Option (List Un) := fun a0 =>
  bif decide (a0.length = 0) then
   both (
    some ([.d ([])])) (
    chk (fits (0 + a0.length) 24) <|
    some ([.d a0]))
  else
   chk (fits (0 + a0.length) 24) <|
   some ([.d a0])
noncomputable def f19 : List Dat → Bool × List Un := fun a0 => (decide (a0.length < 1000000), [.d (a0)])
theorem spec19 (a0 : List Dat) (hc : (decide (a0.length < 1000000)) = true) : ∃ m, t19 m a0 = some ([.d (a0)]) := by
  have h := of_decide_eq_true hc
  refine ⟨0, ?_⟩
  unfold t19
  cases a0 with
  | nil => simp (disch := omega) only [lt_eq, chk_dec, chk_tt, chk_and, chk_inb, chk_fits, chk_make, chkn_dec, cond_dt, cond_df, cond_bt, cond_bf, cond_nt, cond_nf, cond_not, cond_and, cond_or, cond_tt, cond_ff, wrap_id, min_if', max_if', List.length_nil, both_same, Nat.add_zero, cond_same]
  | cons x l =>
    simp only [List.length_cons] at h ⊢
    simp (disch := omega) only [lt_eq, chk_dec, chk_tt, chk_and, chk_inb, chk_fits, chk_make, chkn_dec, cond_dt, cond_df, cond_bt, cond_bf, cond_nt, cond_nf, cond_not, cond_and, cond_or, cond_tt, cond_ff, wrap_id, min_if', max_if']
theorem right19 : ER 19 (mkE N19.en N19.ex f19) := right_of KN_none T13.right (fun m => []) (t := t19) (by kernel_rfl) (fun m => all0) (fun m a => by kernel_rfl) fun a0 hc => spec19 a0 hc
noncomputable def T19 : Tb Try.prog LQ TE := T13.add 19 _ right19
/-! (*cascade/flow.run).step -/
noncomputable def N20 : RoadF := ⟨T19.tab, 20, ⟨[.ptr 0 0 0, .agg [.int .i64, .int .i64]], [.cells [.int .i64, .int .i64, .int .i64, .int .i64, .int .i64, .buf 1 3, .int .i64, .int .i64, .buf 2 4], .recs [.int .i64, .int .i64, .int .i64], .recs [.int .i64, .int .i64, .int .i64, .int .i64]]⟩, ⟨[], [.cells [.int .i64, .int .i64, .int .i64, .int .i64, .int .i64, .buf 1 3, .int .i64, .int .i64, .buf 3 4], .recs [.int .i64, .int .i64, .int .i64], .gone, .recs [.int .i64, .int .i64, .int .i64, .int .i64]]⟩, []⟩
noncomputable def t20 (m : Nat) : Int × Int × RunN × Int × Int × List Dat × List Dat → Option (List Un) := fun (a0, a1, a2, a3, a4, a5, a6) =>
  bif a0 == 1 then
   lt ((if a2.cash < a2.fee then a2.cash else a2.fee) : Int) fun x1 =>
   lt ((if x1 < 0 then 0 else x1) : Int) fun x2 =>
   bif decide (x2 > 0) then
    chk (fits (a6.length + 1) 32) <|
    some (Uns.enc (({ a2 with cash := (w64 (a2.cash - x2)), fee := (w64 (a2.fee - x2)) } : RunN) : RunN) ++ [.i a3, .i a4, .d a5, .d (a6 ++ ([.r [.n a3, .n a4, .n (-1), .n x2]]))])
   else
    some (Uns.enc (({ a2 with cash := (w64 (a2.cash - x2)), fee := (w64 (a2.fee - x2)) } : RunN) : RunN) ++ [.i a3, .i a4, .d a5, .d a6])
  else
   bif a0 == 2 then
    lt ((if a2.cash < a2.recoup then a2.cash else a2.recoup) : Int) fun x4 =>
    lt ((if x4 < 0 then 0 else x4) : Int) fun x5 =>
    bif decide (x5 > 0) then
     chk (fits (a6.length + 1) 32) <|
     some (Uns.enc (({ a2 with cash := (w64 (a2.cash - x5)), recoup := (w64 (a2.recoup - x5)) } : RunN) : RunN) ++ [.i a3, .i a4, .d a5, .d (a6 ++ ([.r [.n a3, .n a4, .n (-1), .n x5]]))])
    else
     some (Uns.enc (({ a2 with cash := (w64 (a2.cash - x5)), recoup := (w64 (a2.recoup - x5)) } : RunN) : RunN) ++ [.i a3, .i a4, .d a5, .d a6])
   else
    bif a0 == 6 then
     lt ((if a2.cash < a2.room then a2.cash else a2.room) : Int) fun x7 =>
     lt ((if x7 < 0 then 0 else x7) : Int) fun x8 =>
     bif decide (x8 > 0) then
      chk (fits (a6.length + 1) 32) <|
      some (Uns.enc (({ a2 with cash := (w64 (a2.cash - x8)), room := (w64 (a2.room - x8)) } : RunN) : RunN) ++ [.i a3, .i a4, .d a5, .d (a6 ++ ([.r [.n a3, .n a4, .n (-1), .n x8]]))])
     else
      some (Uns.enc (({ a2 with cash := (w64 (a2.cash - x8)), room := (w64 (a2.room - x8)) } : RunN) : RunN) ++ [.i a3, .i a4, .d a5, .d a6])
    else
     bif a0 == 3 then
      chk (decide (a2.cash ≤ 9223372036854775807 ∧ 0 ≤ a2.cash ∧ a2.cash ≤ 1152921504606846976 ∧ a6.length ≤ 68719476736) && claimsG a5) <|
      some (Uns.enc (({ a2 with cash := a2.cash - (sharesV (rankS a1) 2 a2.cash a5).sum }) : RunN) ++ [.i a3, .i a4, .d (giveAll 2 (sharesV (rankS a1) 2 a2.cash a5) a5), .d (a6 ++ payAll a3 a4 0 (sharesV (rankS a1) 2 a2.cash a5))])
     else
      bif a0 == 4 then
       lt ((if a2.cash < a2.principal then a2.cash else a2.principal) : Int) fun x12 =>
       chk (decide (0 ≤ x12 ∧ x12 ≤ a2.cash ∧ a2.cash ≤ 1152921504606846976 ∧ a6.length ≤ 34359738368) && claimsG a5) <|
       lt (({ a2 with cash := a2.cash - (rankV a3 a4 8 0 x12 a5).2.2 }) : RunN) fun g13 =>
       chk (decide (a2.principal = g13.principal)) <|
       some (Uns.enc (({ g13 with principal := (w64 (a2.principal - ((rankV a3 a4 8 0 x12 a5).2.2))) } : RunN) : RunN) ++ [.i a3, .i a4, .d ((rankV a3 a4 8 0 x12 a5).1), .d (a6 ++ (rankV a3 a4 8 0 x12 a5).2.1)])
      else
       bif a0 == 5 then
        lt ((if a2.cash < a2.principal then a2.cash else a2.principal) : Int) fun x16 =>
        chk (decide (x16 ≤ 9223372036854775807 ∧ 0 ≤ a2.cash ∧ a2.cash ≤ 1152921504606846976 ∧ a6.length ≤ 68719476736) && claimsG a5) <|
        lt (({ a2 with cash := a2.cash - (sharesV (fun _ => true) 1 x16 a5).sum }) : RunN) fun g18 =>
        chk (decide (a2.principal = g18.principal)) <|
        some (Uns.enc (({ g18 with principal := (w64 (a2.principal - ((sharesV (fun _ => true) 1 x16 a5).sum))) } : RunN) : RunN) ++ [.i a3, .i a4, .d (giveAll 1 (sharesV (fun _ => true) 1 x16 a5) a5), .d (a6 ++ payAll a3 a4 0 (sharesV (fun _ => true) 1 x16 a5))])
       else
        bif a0 == 7 then
         chk (decide (0 ≤ a2.cash ∧ a2.cash ≤ a2.cash ∧ a2.cash ≤ 1152921504606846976 ∧ a6.length ≤ 34359738368) && claimsG a5) <|
         some (Uns.enc (({ a2 with cash := a2.cash - (rankV a3 a4 8 0 a2.cash a5).2.2 }) : RunN) ++ [.i a3, .i a4, .d ((rankV a3 a4 8 0 a2.cash a5).1), .d (a6 ++ (rankV a3 a4 8 0 a2.cash a5).2.1)])
        else
         some (Uns.enc (a2 : RunN) ++ [.i a3, .i a4, .d a5, .d a6])
noncomputable def f20 : Int × Int × RunN × Int × Int × List Dat × List Dat → Bool × List Un := fun (a0, a1, a2, a3, a4, a5, a6) => (decide (a4 = a0 ∧ a6.length ≤ 17179869184) && (runG a2 && claimsG a5), Uns.enc (((stepV a3 a0 a1 a2 a5).1) : RunN) ++ [.i (a3), .i (a4), .d ((stepV a3 a0 a1 a2 a5).2.1), .d (a6 ++ (stepV a3 a0 a1 a2 a5).2.2)])
set_option maxHeartbeats 2000000 in
theorem spec20 (a0 : Int) (a1 : Int) (a2 : RunN) (a3 : Int) (a4 : Int) (a5 : List Dat) (a6 : List Dat) (hc : (decide (a4 = a0 ∧ a6.length ≤ 17179869184) && (runG a2 && claimsG a5)) = true) : ∃ m, t20 m (a0, a1, a2, a3, a4, a5, a6) = some (Uns.enc (((stepV a3 a0 a1 a2 a5).1) : RunN) ++ [.i (a3), .i (a4), .d ((stepV a3 a0 a1 a2 a5).2.1), .d (a6 ++ (stepV a3 a0 a1 a2 a5).2.2)]) := by
  simp only [Bool.and_eq_true, decide_eq_true_eq] at hc
  obtain ⟨⟨rfl, ho⟩, hx, hc⟩ := hc
  have hx' := runG_at hx
  have hcl := (claimsG_at hc).1
  have w2 := fun sel j hj => (wantV_ok (c := a5) sel (j := j) hj hc).2.2
  have s2 := fun sel j hj n => (sharesV_ok (c := a5) sel (j := j) hj n hc).2.1
  have mm : ∀ a b : Int, (if b < a then b else a) = min a b := fun a b => by omega
  have mx : ∀ a : Int, (if a < 0 then 0 else a) = max a 0 := fun a => by omega
  refine ⟨0, ?_⟩
  unfold t20 stepV
  dsimp only
  simp only [lt_eq, mm, mx]
  have one : ∀ (z : Int) (u : RunN) (o2 : List Dat), 0 ≤ z → ∀ v : RunN, u = v → (bif decide (z > 0) then chk (fits (a6.length + 1) 32) (some (Uns.enc (u : RunN) ++ [.i a3, .i a4, .d a5, .d (a6 ++ ([.r [.n a3, .n a4, .n (-1), .n z]]))])) else some (Uns.enc (u : RunN) ++ [.i a3, .i a4, .d a5, .d a6])) = some (Uns.enc (v : RunN) ++ [.i a3, .i a4, .d a5, .d (a6 ++ payOne a3 a4 z)]) := by
    intro z u o2 hz v huv
    subst huv
    unfold payOne
    by_cases h : z > 0
    · rw [cond_dt h, chk_fits (by omega) (by omega), if_pos (by omega)]
    · rw [cond_df h, if_neg (by omega), List.append_nil]
  by_cases k1 : a4 = 1
  · rw [cond_bt k1, if_pos k1]
    rw [show max (min a2.fee a2.cash) 0 = min a2.fee a2.cash by omega]
    exact one _ _ [] (by omega) _ (by rw [wrap_id (by omega) (by omega), wrap_id (by omega) (by omega)])
  rw [cond_bf k1, if_neg k1]
  by_cases k2 : a4 = 2
  · rw [cond_bt k2, if_pos k2]
    rw [show max (min a2.recoup a2.cash) 0 = min a2.recoup a2.cash by omega]
    exact one _ _ [] (by omega) _ (by rw [wrap_id (by omega) (by omega), wrap_id (by omega) (by omega)])
  rw [cond_bf k2, if_neg k2]
  by_cases k6 : a4 = 6
  · rw [cond_bt k6, if_pos k6]
    rw [show max (min a2.room a2.cash) 0 = min a2.room a2.cash by omega]
    exact one _ _ [] (by omega) _ (by rw [wrap_id (by omega) (by omega), wrap_id (by omega) (by omega)])
  rw [cond_bf k6, if_neg k6]
  by_cases k3 : a4 = 3
  · rw [cond_bt k3, if_pos k3, hc, Bool.and_true, chk_dec (by omega)]
  rw [cond_bf k3, if_neg k3]
  by_cases k4 : a4 = 4
  · rw [cond_bt k4, if_pos k4, hc, Bool.and_true, chk_dec (by omega), chk_dec trivial]
    have q := rankV_ok a3 a4 8 0 (min a2.principal a2.cash) a5 hc
    generalize rankV a3 a4 8 0 (min a2.principal a2.cash) a5 = y at *
    rw [wrap_id (by omega) (by omega)]
  rw [cond_bf k4, if_neg k4]
  by_cases k5 : a4 = 5
  · rw [cond_bt k5, if_pos k5, hc, Bool.and_true, chk_dec (by omega), chk_dec trivial]
    have q1 := s2 (fun _ => true) 1 (.inl rfl) (min a2.principal a2.cash)
    have q2 := w2 (fun _ => true) 1 (.inl rfl)
    rw [wrap_id (n := a2.principal - _) (by omega) (by omega)]
  rw [cond_bf k5, if_neg k5]
  by_cases k7 : a4 = 7
  · rw [cond_bt k7, if_pos k7, hc, Bool.and_true, chk_dec (by omega)]
  rw [cond_bf k7, if_neg k7, List.append_nil]
theorem right20 : ER 20 (mkE N20.en N20.ex f20) := right_of KN_none T19.right (fun m => []) (t := t20) (by kernel_rfl) (fun m => all0) (fun m a => by kernel_rfl) fun (a0, a1, a2, a3, a4, a5, a6) hc => spec20 a0 a1 a2 a3 a4 a5 a6 hc
noncomputable def T20 : Tb Try.prog LQ TE := T19.add 20 _ right20
/-! cascade/flow.Run -/
noncomputable def N10 : RoadF := ⟨T20.tab, 10, ⟨[.int .i64, .agg [.int .i64, .int .i64, .int .i64, .int .i64, .recs [.int .i64, .int .i64, .int .i64]], .recs [.int .i64, .int .i64]], []⟩, ⟨[.buf 0 4, .int .i64, .agg [.int .i64, .int .i64, .int .i64, .int .i64, .buf 1 3]], [.recs [.int .i64, .int .i64, .int .i64, .int .i64], .recs [.int .i64, .int .i64, .int .i64]]⟩, []⟩
abbrev A10_0 : Type := List Dat × Int × Int × Int × Int × Int × Int × RunN × Int × Int × List Dat × List Dat × List Dat
noncomputable def L10_0s (m : Nat) (k : A10_0 → Option (List Un)) : A10_0 → Option (List Un) := fun (a0, a1, a2, a3, a4, a5, a6, a7, a8, a9, a10, a11, a12) =>
  bif decide (a2 < a1) then
   chk (inb a2 a0.length) <|
   chk (decide (a2.toNat < a0.length)) <|
   lt (rowD a0 a2.toNat : Dat) fun d1 =>
   chk (decide ((d1.i 0) = (d1.i 0) ∧ a12.length ≤ 17179869184) && (runG a7 && claimsG a11)) <|
   k (a0, a1, (w64 (a2 + 1)), a3, a4, a5, a6, ((stepV a2 (d1.i 0) (d1.i 1) a7 a11).1), a2, (d1.i 0), a10, ((stepV a2 (d1.i 0) (d1.i 1) a7 a11).2.1), (a12 ++ (stepV a2 (d1.i 0) (d1.i 1) a7 a11).2.2))
  else
   some ([.i a7.cash, .i a7.fee, .i a7.recoup, .i a7.principal, .i a7.room, .d a12, .d a11])
noncomputable def L10_0 (m : Nat) : Nat → A10_0 → Option (List Un) := iterA (L10_0s m)
theorem L10_0_succ (m : Nat) (n : Nat) : L10_0 m (n + 1) = L10_0s m (L10_0 m n) := rfl
noncomputable def S10_0 (F : A10_0 → Option (List Un)) : StopS := ⟨[.lp [0, 1, 0, 1, 1, 1], .blk 0, .code [1, 1, 1, 1]], ⟨frm 52 [(8, .ptr 0 0 0), (9, .ptr 1 0 0), (20, .recs [.int .i64, .int .i64]), (21, .int .i64), (22, .int .i64)], [.cells [.int .i64, .int .i64, .int .i64, .int .i64, .buf 2 3], .cells [.int .i64, .int .i64, .int .i64, .int .i64, .int .i64, .buf 3 3, .int .i64, .int .i64, .buf 4 4], .recs [.int .i64, .int .i64, .int .i64], .recs [.int .i64, .int .i64, .int .i64], .recs [.int .i64, .int .i64, .int .i64, .int .i64]]⟩, onU F⟩
theorem H10_0 (m : Nat) : ∀ n, HO N10 (S10_0 (L10_0 m n)) := loop_holds KN_none T20.right (fun k => [S10_0 k]) (fun k h => (all1 h all0)) fun k a => by kernel_rfl
noncomputable def t10 (m : Nat) : Int × Int × Int × Int × Int × List Dat × List Dat → Option (List Un) := fun (a0, a1, a2, a3, a4, a5, a6) =>
  chk (decide (a5.length < 1000000)) <|
  L10_0 m m (a6, (a6.length : Int), 0, 0, 0, 0, 0, (⟨a0, a1, a2, a3, a4⟩ : RunN), 0, 0, [], a5, [])
theorem flowL (m : Nat) (z1 z2 z3 z4 : Int) (zl : List Dat) : ∀ (rest pre : List Dat) (n : Nat) (y : RunN) (q kd : Int) (c out : List Dat), rest.length < n → (pre ++ rest).length ≤ 1000000 → runG y = true → claimsG c = true → out.length ≤ 8000 * pre.length →
    L10_0 m n (pre ++ rest, ((pre ++ rest).length : Int), (pre.length : Int), z1, z2, z3, z4, y, q, kd, zl, c, out) = some [.i (runV pre.length rest y c).1.cash, .i (runV pre.length rest y c).1.fee, .i (runV pre.length rest y c).1.recoup, .i (runV pre.length rest y c).1.principal, .i (runV pre.length rest y c).1.room, .d (out ++ (runV pre.length rest y c).2.2), .d (runV pre.length rest y c).2.1] := by
  intro rest
  induction rest with
  | nil =>
    intro pre n y q kd c out hn hl hy hc ho
    obtain ⟨n, rfl⟩ := one_more n (by simp at hn; omega)
    rw [L10_0_succ]; unfold L10_0s; dsimp only
    simp [cond_df, runV]
  | cons x rest ih =>
    intro pre n y q kd c out hn hl hy hc ho
    obtain ⟨n, rfl⟩ := one_more n (by simp at hn; omega)
    simp only [List.length_cons, List.length_append] at hn hl
    obtain ⟨s1, s2, s3, s4⟩ := stepV_ok pre.length (x.i 0) (x.i 1) hy hc
    have := ih (pre ++ [x]) n _ (pre.length : Int) (x.i 0) _ (out ++ (stepV pre.length (x.i 0) (x.i 1) y c).2.2) (by omega) (by simp; omega) s1 s2 (by simp; omega)
    simp only [runV]
    rw [L10_0_succ]; unfold L10_0s; dsimp only
    simp only [hy, hc, Bool.and_self, Bool.and_true]
    simp only [Int.toNat_natCast, rowD_mid, lt_eq]
    generalize stepV pre.length (x.i 0) (x.i 1) y c = u at *
    simp only [hy, hc, Bool.and_self, Bool.and_true, decide_true, true_and]
    simp (disch := omega) only [lt_eq, chk_dec, chk_tt, chk_and, chk_inb, chk_fits, chk_make, chkn_dec, cond_dt, cond_df, cond_bt, cond_bf, cond_nt, cond_nf, cond_not, cond_and, cond_or, cond_tt, cond_ff, wrap_id, min_if', max_if', List.length_append, List.length_cons, List.length_nil, List.length_replicate, List.length_set, List.length_map, List.length_range, Int.natCast_add, Int.cast_ofNat_Int, Int.toNat_natCast, Int.add_assoc, Nat.zero_add, Int.zero_add, List.append_assoc, List.cons_append, List.nil_append, rowD_mid]
    simp only [List.length_append, List.length_cons, List.length_nil, List.length_replicate, List.length_set, List.length_map, List.length_range, Int.natCast_add, Int.cast_ofNat_Int, Int.toNat_natCast, Int.add_assoc, Nat.zero_add, Int.zero_add, List.append_assoc, List.cons_append, List.nil_append] at this ⊢
    exact this
noncomputable def f10 : Int × Int × Int × Int × Int × List Dat × List Dat → Bool × List Un := fun (a0, a1, a2, a3, a4, a5, a6) => (decide (a6.length ≤ 1000000) && (runG ⟨a0, a1, a2, a3, a4⟩ && claimsG a5), [.i ((runV 0 a6 ⟨a0, a1, a2, a3, a4⟩ a5).1.cash), .i ((runV 0 a6 ⟨a0, a1, a2, a3, a4⟩ a5).1.fee), .i ((runV 0 a6 ⟨a0, a1, a2, a3, a4⟩ a5).1.recoup), .i ((runV 0 a6 ⟨a0, a1, a2, a3, a4⟩ a5).1.principal), .i ((runV 0 a6 ⟨a0, a1, a2, a3, a4⟩ a5).1.room), .d ((runV 0 a6 ⟨a0, a1, a2, a3, a4⟩ a5).2.2), .d ((runV 0 a6 ⟨a0, a1, a2, a3, a4⟩ a5).2.1)])
theorem spec10 (a0 : Int) (a1 : Int) (a2 : Int) (a3 : Int) (a4 : Int) (a5 : List Dat) (a6 : List Dat) (hc : (decide (a6.length ≤ 1000000) && (runG ⟨a0, a1, a2, a3, a4⟩ && claimsG a5)) = true) : ∃ m, t10 m (a0, a1, a2, a3, a4, a5, a6) = some ([.i ((runV 0 a6 ⟨a0, a1, a2, a3, a4⟩ a5).1.cash), .i ((runV 0 a6 ⟨a0, a1, a2, a3, a4⟩ a5).1.fee), .i ((runV 0 a6 ⟨a0, a1, a2, a3, a4⟩ a5).1.recoup), .i ((runV 0 a6 ⟨a0, a1, a2, a3, a4⟩ a5).1.principal), .i ((runV 0 a6 ⟨a0, a1, a2, a3, a4⟩ a5).1.room), .d ((runV 0 a6 ⟨a0, a1, a2, a3, a4⟩ a5).2.2), .d ((runV 0 a6 ⟨a0, a1, a2, a3, a4⟩ a5).2.1)]) := by
  simp only [Bool.and_eq_true, decide_eq_true_eq] at hc
  obtain ⟨h1, h2, h3⟩ := hc
  have hl := (claimsG_at h3).1
  refine ⟨a6.length + 1, ?_⟩
  unfold t10
  dsimp only
  rw [chk_dec (by omega)]
  exact flowL _ 0 0 0 0 [] a6 [] (a6.length + 1) _ 0 0 a5 [] (by omega) (by simpa using h1) h2 h3 (by simp)
theorem right10 : ER 10 (mkE N10.en N10.ex f10) := right_of KN_none T20.right (fun m => [S10_0 (L10_0 m m)]) (t := t10) (by kernel_rfl) (fun m => (all1 (H10_0 m m) all0)) (fun m a => by kernel_rfl) fun (a0, a1, a2, a3, a4, a5, a6) hc => spec10 a0 a1 a2 a3 a4 a5 a6 hc
noncomputable def T10 : Tb Try.prog LQ TE := T20.add 10 _ right10

end Go.Proofs.Ytncgbpajngakpaa
