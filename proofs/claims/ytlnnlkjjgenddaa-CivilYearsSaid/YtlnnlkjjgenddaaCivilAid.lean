/- Dates and their numbers: each right date is its number's. Conditions: none. -/
import Derived.Test.YtlnnlkjjgenddaaCivil
namespace Go.Proofs.Ytlnnlkjjgenddaa
open Go Go.Proofs.Ytlnnlkjjgenddaa.Ev
set_option linter.unusedVariables false
set_option linter.unusedSimpArgs false
set_option linter.unnecessarySimpa false

theorem rightN_iff {n : Int} : rightN n = true ↔ 0 ≤ n ∧ n < 3652059 := by simp [rightN]
theorem date_right {n : Int} (h : rightN n = true) : rightD (dateY n) (dateM n) (dateD n) = true := by
  obtain ⟨y1, y2, y3, y4⟩ := yearOf_is h
  obtain ⟨m1, m2, m3, m4⟩ := monthOf_is h
  rw [before_next y1 y2 m1 m2] at m4
  simp only [dateY, dateM, dateD, h, if_true]
  rw [rightD_iff]
  omega
theorem date_number {n : Int} (h : rightN n = true) : number (dateY n) (dateM n) (dateD n) = n := by
  unfold number
  rw [if_pos (date_right h)]
  simp only [dateY, dateM, dateD, h, if_true]
  omega
theorem number_le {y m d : Int} (h : rightD y m d = true) : ahead0 y ≤ number y m d ∧ number y m d < ahead0 (y + 1) ∧ ahead0 y + before y m ≤ number y m d ∧ number y m d < ahead0 y + before y (m + 1) ∧ number y m d = ahead0 y + before y m + d - 1 := by
  obtain ⟨y1, y2, m1, m2⟩ := rightD_ym h
  obtain ⟨d1, d2⟩ := rightD_iff.1 h
  have e : number y m d = ahead0 y + before y m + d - 1 := by unfold number; rw [if_pos h]
  have hb := before_le (y := y) (m := m)
  have hn := before_next y1 y2 m1 m2
  have ha := ahead_next y1
  have h13 : before y 13 = 365 + leapN y := by simp [before]
  have := before_mono' (a := m + 1) (b := 13) y1 y2 (by omega) (by omega) (by omega)
  omega
theorem number_right {y m d : Int} (h : rightD y m d = true) : rightN (number y m d) = true := by
  obtain ⟨y1, y2, m1, m2⟩ := rightD_ym h
  obtain ⟨h1, h2, _⟩ := number_le h
  have := ahead_le y1 (by omega)
  have := ahead_mono (a := y + 1) (b := 10000) (by omega) (by omega)
  have e : ahead0 10000 = 3652059 := rfl
  rw [rightN_iff]; omega
/-- A right date is its number's. -/
theorem date_of {y m d : Int} (h : rightD y m d = true) : dateY (number y m d) = y ∧ dateM (number y m d) = m ∧ dateD (number y m d) = d := by
  obtain ⟨y1, y2, m1, m2⟩ := rightD_ym h
  obtain ⟨h1, h2, h3, h4, h5⟩ := number_le h
  have hr := number_right h
  have e1 : yearOf (number y m d) = y := yearOf_eq hr y1 h1 h2
  have e2 : monthOf (number y m d) = m := monthOf_eq hr m1 m2 (by rw [e1]; omega) (by rw [e1]; omega)
  refine ⟨by simp [dateY, hr, e1], by simp [dateM, hr, e2], ?_⟩
  simp only [dateD, hr, if_true, e1, e2]
  omega
theorem date_of' {n y m d : Int} (h : rightD y m d = true) (hn : number y m d = n) : dateY n = y ∧ dateM n = m ∧ dateD n = d := by subst hn; exact date_of h
theorem date_none {n : Int} (h : rightN n = false) : dateY n = 0 ∧ dateM n = 0 ∧ dateD n = 0 := by simp [dateY, dateM, dateD, h]
theorem date_in {n : Int} (h : rightN n = true) : 1 ≤ dateY n ∧ dateY n ≤ 9999 ∧ 1 ≤ dateM n ∧ dateM n ≤ 12 ∧ 1 ≤ dateD n ∧ dateD n ≤ lastDay (dateY n) (dateM n) :=
  have a := rightD_ym (date_right h)
  have b := rightD_iff.1 (date_right h)
  ⟨a.1, a.2.1, a.2.2.1, a.2.2.2, b.1, b.2⟩
theorem leap_400 {y : Int} (h : 1 ≤ y) : leap (y + 400) = leap y := by
  have a := leap_iff h; have b := leap_iff (y := y + 400) (by omega)
  rw [Bool.eq_iff_iff, a, b]; omega
theorem lastDay_400 {y m : Int} (h : 1 ≤ y) (h2 : y + 400 ≤ 9999) : lastDay (y + 400) m = lastDay y m := by
  unfold lastDay; rw [leap_400 h]
  simp only [show (y + 400 < 1 ∨ y + 400 > 9999 ∨ m < 1 ∨ m > 12) ↔ (y < 1 ∨ y > 9999 ∨ m < 1 ∨ m > 12) by omega]

end Go.Proofs.Ytlnnlkjjgenddaa
