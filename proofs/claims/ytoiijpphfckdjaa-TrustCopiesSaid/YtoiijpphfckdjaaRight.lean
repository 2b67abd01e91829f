/- A part of the walk. -/
import Derived.Test.YtoiijpphfckdjaaDeal
namespace Go.Proofs.Ytoiijpphfckdjaa
open Go Go.Proofs.Ytoiijpphfckdjaa.Ev
set_option linter.unusedVariables false
set_option linter.unusedSimpArgs false
set_option linter.unnecessarySimpa false
theorem kLoansR : ∀ (l : List Int) (i : Nat) (last all : Int), last < 2 * (i : Int) + 1 → i + l.length ≤ 40 → 0 ≤ all → all + 100000 * l.length + 50000 ≤ 1099511627776 →
    loansR last all (loansF i l ++ [.r [.n 99, .n 50000]]) = some (all + sumI 1 (loansF i l ++ [.r [.n 99, .n 50000]]))
  | [], i, last, all, h1, h2, h3, h4 => by
    have e0 : (Dat.r [.n 99, .n 50000]).i 0 = 99 := rfl
    have e1 : (Dat.r [.n 99, .n 50000]).i 1 = 50000 := rfl
    simp only [loansF, List.nil_append, loansR, sumI, e0, e1]
    simp only [List.length_nil] at h2 h4
    rw [if_neg (by omega), if_pos (by omega)]
    rfl
  | x :: l, i, last, all, h1, h2, h3, h4 => by
    have hx := within_le (a := x) (show (0 : Int) ≤ 100000 by decide)
    have e0 : (loanV i x).i 0 = 2 * (i : Int) + 1 := rfl
    have e1 : (loanV i x).i 1 = within x 0 100000 := rfl
    simp only [List.length_cons] at h2 h4
    have := kLoansR l (i + 1) (2 * (i : Int) + 1) (all + within x 0 100000) (by omega) (by omega) (by omega) (by omega)
    simp only [loansF, List.cons_append, loansR, sumI, e0, e1]
    rw [if_neg (by omega), if_pos (by omega), this, Int.add_assoc]
theorem kLoansW (k : KDeal) : loansW (kLoans k) = some (kPool k) := by
  have hl := kLoans_len k
  have h1 : 1 ≤ (kLoans k).length := by simp [kLoans]
  have := kLoansR (k.loans.take 10) 0 0 0 (by decide) (by simp; omega) (by decide) (by simp; omega)
  unfold loansW
  rw [if_pos ⟨h1, by omega⟩]
  simpa [kLoans, loansV, kPool] using this
theorem notesR_all (p q : Int) (hp : 0 ≤ q) : ∀ (l : List Dat) (all : Int), (∀ d ∈ l, (0 ≤ d.i 0 ∧ d.i 0 ≤ 7) ∧ (1 ≤ d.i 1 ∧ d.i 1 ≤ q) ∧ (0 ≤ d.i 2 ∧ d.i 2 ≤ 5000)) → all + l.length * q ≤ p → notesR p all l = some (all + sumI 1 l)
  | [], all, _, _ => by simp [notesR, sumI]
  | d :: l, all, h, hb => by
    have hd := h d (by simp)
    simp only [List.length_cons, Int.natCast_add, Int.add_mul] at hb
    have hl : 0 ≤ (l.length : Int) * q := Int.mul_nonneg (by omega) hp
    have e : ((1 : Nat) : Int) * q = q := by simp
    have := notesR_all p q hp l (all + d.i 1) (fun x hx => h x (by simp [hx])) (by omega)
    simp only [notesR, sumI]
    rw [if_pos ⟨hd.1, ⟨hd.2.1.1, by omega⟩, hd.2.2⟩, this, Int.add_assoc]
theorem kNotes_mem (k : KDeal) : ∀ d ∈ kNotes k, (0 ≤ d.i 0 ∧ d.i 0 ≤ 3) ∧ (1 ≤ d.i 1 ∧ d.i 1 ≤ 1 + kPool k / 6) ∧ (0 ≤ d.i 2 ∧ d.i 2 ≤ 1200) := by
  have hp := kPool_le k
  simp only [kNotes, List.mem_map, List.mem_range]
  rintro d ⟨i, hi, rfl⟩
  have h1 := within_le (a := pickV k.ranks i) (show (0 : Int) ≤ 3 by decide)
  have h2 := within_le (a := pickV k.notes i) (show (0 : Int) ≤ kPool k / 6 by omega)
  have h3 := within_le (a := pickV k.rates i) (show (0 : Int) ≤ 1200 by decide)
  simp only [noteV, fld_i0, fld_i1, fld_i2]
  omega
theorem kNotes_len (k : KDeal) : 1 ≤ (kNotes k).length ∧ (kNotes k).length ≤ 5 := by simp [kNotes]; omega
theorem kNotesW (k : KDeal) : notesW (kPool k) (kNotes k) = some (sumI 1 (kNotes k)) := by
  have hp := kPool_le k
  have hl := kNotes_len k
  unfold notesW
  rw [if_pos ⟨hl.1, by omega⟩]
  refine (notesR_all (kPool k) (1 + kPool k / 6) (by omega) (kNotes k) 0 (fun d hd => ?_) ?_).trans (by rw [Int.zero_add])
  · have := kNotes_mem k d hd; omega
  · have : ((kNotes k).length : Int) * (1 + kPool k / 6) ≤ 5 * (1 + kPool k / 6) := Int.mul_le_mul_of_nonneg_right (by omega) (by omega)
    omega
theorem kTerms (k : KDeal) : termsV (dealV k) = true := by
  have h1 := within_le (a := k.a.year) (show (1990 : Int) ≤ 2040 by decide)
  have h2 := within_le (a := k.a.month) (show (1 : Int) ≤ 12 by decide)
  have h3 := within_le (a := k.a.basis) (show (0 : Int) ≤ 2 by decide)
  have h4 := within_le (a := k.b.fee) (show (0 : Int) ≤ 200 by decide)
  have h5 := within_le (a := k.b.reserve) (show (0 : Int) ≤ 5000 by decide)
  have h6 := within_le (a := k.b.target) (show (0 : Int) ≤ 500 by decide)
  have h7 := within_le (a := k.b.advance) (show (0 : Int) ≤ 3000 by decide)
  have h8 := within_le (a := k.b.cure) (show (0 : Int) ≤ 3 by decide)
  have h9 := within_le (a := k.b.oc) (show (0 : Int) ≤ 12000 by decide)
  have h10 := within_le (a := k.b.ic) (show (0 : Int) ≤ 15000 by decide)
  have h11 := within_le (a := k.b.late) (show (0 : Int) ≤ 5000 by decide)
  have h12 := within_le (a := k.b.loss) (show (0 : Int) ≤ 5000 by decide)
  have h13 := within_le (a := k.b.clean) (show (0 : Int) ≤ 3000 by decide)
  simp only [termsV, Bool.and_eq_true, decide_eq_true_eq]
  simp only [dealV]
  omega
theorem stepsR_snoc (d : Dat) : ∀ (l pre : List Dat), stepsR pre (l ++ [d]) = (stepsR pre l && (stepOk d && !hasStep (pre ++ l) (d.i 0) (d.i 1)))
  | [], pre => by simp [stepsR]
  | x :: l, pre => by
    simp only [List.cons_append, stepsR, stepsR_snoc d l (pre ++ [x]), List.append_assoc, List.nil_append, Bool.and_assoc]
theorem stepsF_ok : ∀ (xs : List Int) (acc : List Dat), stepsR [] acc = true → stepsR [] (stepsF acc xs) = true
  | [], acc, h => h
  | x :: xs, acc, h => by
    simp only [stepsF]
    refine stepsF_ok xs _ ?_
    cases hs : hasStep acc (within x 1 7) (stepR x)
    · have e0 : (Dat.r [.n (within x 1 7), .n (stepR x)]).i 0 = within x 1 7 := rfl
      have e1 : (Dat.r [.n (within x 1 7), .n (stepR x)]).i 1 = stepR x := rfl
      have hx := within_le (a := x) (show (1 : Int) ≤ 7 by decide)
      simp only [Bool.false_eq_true, if_false]
      rw [stepsR_snoc, h, List.nil_append, e0, e1, hs, Bool.true_and, Bool.not_false, Bool.and_true]
      simp only [stepOk, e0, e1, Bool.and_eq_true, decide_eq_true_eq]
      refine ⟨hx, ?_⟩
      unfold stepR
      by_cases h3 : within x 1 7 = 3
      · have := within_le (a := w64 (x.tdiv 7)) (show (0 : Int) ≤ 3 by decide)
        rw [if_pos h3, if_pos h3]; omega
      · rw [if_neg h3, if_neg h3]; omega
    · simp only [if_true]; exact h
theorem stepsV_len (l : List Int) : 1 ≤ (stepsV l).length ∧ (stepsV l).length ≤ 12 := by
  unfold stepsV
  split
  · decide
  · have := stepsF_len (l.take 12) []
    simp at this
    omega
theorem stepsV_ok (l : List Int) : stepsW (stepsV l) = true := by
  have hl := stepsV_len l
  unfold stepsW
  rw [decide_eq_true (by omega), Bool.true_and]
  unfold stepsV
  split
  · decide
  · exact stepsF_ok _ _ rfl
/-- A deal made of numbers is right. -/
theorem dealV_right (k : KDeal) : sumsW (dealV k) = some (kPool k, sumI 1 (kNotes k)) := by
  have h1 : loansW (dealV k).loans = some (kPool k) := kLoansW k
  have h2 : notesW (kPool k) (dealV k).notes = some (sumI 1 (kNotes k)) := kNotesW k
  simp only [sumsW, h1, h2, kTerms, show stepsW (dealV k).s0 = true from stepsV_ok _, show stepsW (dealV k).s1 = true from stepsV_ok _, show stepsW (dealV k).s2 = true from stepsV_ok _, Bool.and_self, if_true]
theorem dealV_short (k : KDeal) : (dealV k).loans.length < 1000000 ∧ (dealV k).notes.length < 1000000 ∧ (dealV k).s0.length < 1000000 ∧ (dealV k).s1.length < 1000000 ∧ (dealV k).s2.length < 1000000 := by
  have h1 := kLoans_len k
  have h2 := kNotes_len k
  have h3 := stepsV_len k.s0
  have h4 := stepsV_len k.s1
  have h5 := stepsV_len k.s2
  simp only [dealV]
  omega

end Go.Proofs.Ytoiijpphfckdjaa
