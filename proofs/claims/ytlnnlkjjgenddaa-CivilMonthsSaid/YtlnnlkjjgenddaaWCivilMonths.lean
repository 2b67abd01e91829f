/- The law 'CivilMonths' answers true, whatever whole numbers it is given. Conditions: none. -/
import Derived.Test.YtlnnlkjjgenddaaCivilAid
namespace Go.Proofs.Ytlnnlkjjgenddaa
open Go Go.Proofs.Ytlnnlkjjgenddaa.Ev
set_option linter.unusedVariables false
set_option linter.unusedSimpArgs false
set_option linter.unnecessarySimpa false
/-! cascade/cascadelaw2.CivilMonths -/
def t6 (m : Nat) (a0 : Int) (a1 : Int) (a2 : Int) : Option Value :=
  let x1 : Int := (dateY (within a0 0 3652058))
  let x2 : Int := (dateM (within a0 0 3652058))
  let x3 : Int := (dateD (within a0 0 3652058))
  let x4 : Int := (within a1 (-2000) 2000)
  bif (!(((shiftY x1 x2 x3 0) == x1) && (((shiftM x1 x2 x3 0) == x2) && (((shiftD x1 x2 x3 0) == x3) && true)))) then
   some (.bool false)
  else
   let x9 : Int := (IntKind.i64.wrap ((IntKind.i64.wrap ((IntKind.i64.wrap ((IntKind.i64.wrap (12 * x1)) + x2)) - 1)) + x4))
   bif decide (x9 < 12) then
    bif (((shiftY x1 x2 x3 x4) == 0) && (((shiftM x1 x2 x3 x4) == 0) && (((shiftD x1 x2 x3 x4) == 0) && true))) then
     some (.bool true)
    else
     some (.bool false)
   else
    bif decide (x9 ≥ 120000) then
     bif (((shiftY x1 x2 x3 x4) == 0) && (((shiftM x1 x2 x3 x4) == 0) && (((shiftD x1 x2 x3 x4) == 0) && true))) then
      some (.bool true)
     else
      some (.bool false)
    else
     let x12 : Int := (IntKind.i64.wrap (0 - x4))
     bif !(rightD (shiftY x1 x2 x3 x4) (shiftM x1 x2 x3 x4) (shiftD x1 x2 x3 x4)) then
      some (.bool false)
     else
      bif (IntKind.i64.wrap ((IntKind.i64.wrap ((IntKind.i64.wrap (12 * (shiftY x1 x2 x3 x4))) + (shiftM x1 x2 x3 x4))) - 1)) != x9 then
       some (.bool false)
      else
       let x20 : Int := (lastDay (shiftY x1 x2 x3 x4) (shiftM x1 x2 x3 x4))
       bif ((shiftD x1 x2 x3 x4) != (if x20 < x3 then x20 else x3)) then
        some (.bool false)
       else
        bif (shiftY (shiftY x1 x2 x3 x4) (shiftM x1 x2 x3 x4) (shiftD x1 x2 x3 x4) x12) != x1 then
         some (.bool false)
        else
         bif (shiftM (shiftY x1 x2 x3 x4) (shiftM x1 x2 x3 x4) (shiftD x1 x2 x3 x4) x12) != x2 then
          some (.bool false)
         else
          bif decide ((shiftD (shiftY x1 x2 x3 x4) (shiftM x1 x2 x3 x4) (shiftD x1 x2 x3 x4) x12) > x3) then
           some (.bool false)
          else
           let x23 : Int := (IntKind.i64.wrap (4611686018427387904 + (within a2 0 9)))
           bif (((shiftY x1 x2 x3 x23) == 0) && (((shiftM x1 x2 x3 x23) == 0) && (((shiftD x1 x2 x3 x23) == 0) && true))) then
            bif (((shiftY x1 x2 x3 (-9223372036854775808)) == 0) && (((shiftM x1 x2 x3 (-9223372036854775808)) == 0) && (((shiftD x1 x2 x3 (-9223372036854775808)) == 0) && true))) then
             bif decide (x4 ≤ 0) then
              some (.bool true)
             else
              bif !(decide (number (shiftY x1 x2 x3 x4) (shiftM x1 x2 x3 x4) (shiftD x1 x2 x3 x4) < number x1 x2 x3)) then
               some (.bool true)
              else
               some (.bool false)
            else
             some (.bool false)
           else
            some (.bool false)
def T6 : Tab := tabOf [(3, e3), (14, e14), (15, e15), (16, e16), (17, e17), (21, e21), (24, e24)]
theorem T6_right : Known.right Try.prog T6 := tab_right (all1 right3 (all1 right14 (all1 right15 (all1 right16 (all1 right17 (all1 right21 (all1 right24 all0)))))))
theorem G6 (m : Nat) (a0 : Int) (a1 : Int) (a2 : Int) : roadIn Try.prog T6 (fun _ => true) (fnOf Try.prog 6) [.int .i64 a0, .int .i64 a1, .int .i64 a2] (kks (fnOf Try.prog 6).results.toList Try.prog []) = t6 m a0 a1 a2 := by kernel_rfl
theorem told6 (m : Nat) (a0 : Int) (a1 : Int) (a2 : Int) {v : Value} (h : t6 m a0 a1 a2 = some v) (hv : plainT v = true) : ToldOk Try.prog 6 [.int .i64 a0, .int .i64 a1, .int .i64 a2] v :=
  told_road' (S := []) Seat.mix Seat.names T6_right (by kernel_rfl) (by kernel_rfl) (by kernel_rfl)
    all0 ((G6 m a0 a1 a2).trans h) rfl hv


theorem spec6 (a0 : Int) (w0 : (Lit.int .i64 a0).wf = true) (a1 : Int) (w1 : (Lit.int .i64 a1).wf = true) (a2 : Int) (w2 : (Lit.int .i64 a2).wf = true) : ∃ m, t6 m a0 a1 a2 = some (.bool true) := by
  refine ⟨0, ?_⟩
  have ha := within_le (a := a0) (lo := 0) (hi := 3652058) (by omega)
  have hk := within_le (a := a1) (lo := -2000) (hi := 2000) (by omega)
  have hj := within_le (a := a2) (lo := 0) (hi := 9) (by omega)
  unfold t6
  generalize within a0 0 3652058 = a at *
  generalize within a1 (-2000) 2000 = k at *
  generalize within a2 0 9 = j at *
  have ra : rightN a = true := rightN_iff.2 (by omega)
  have hr := date_right ra
  obtain ⟨y1, y2, m1, m2, d1, d2⟩ := date_in ra
  generalize dateY a = y at *
  generalize dateM a = m at *
  generalize dateD a = d at *
  simp only []
  have h0 : shiftY y m d 0 = y ∧ shiftM y m d 0 = m ∧ shiftD y m d 0 = d := by
    have hs : shiftOk y m d 0 = true := by simp [shiftOk, hr]; omega
    simp only [shiftY, shiftM, shiftD, hs, if_true]
    have e1 : (12 * y + m - 1 + 0) / 12 = y := by omega
    have e2 : (12 * y + m - 1 + 0) % 12 + 1 = m := by omega
    rw [e1, e2]
    omega
  have far : ∀ n, (n < -1000000 ∨ 1000000 < n) → shiftY y m d n = 0 ∧ shiftM y m d n = 0 ∧ shiftD y m d n = 0 := by
    intro n hn
    have hs : shiftOk y m d n = false := by simp [shiftOk, hr]; omega
    simp [shiftY, shiftM, shiftD, hs]
  rw [wr (n := 12 * y) (by omega) (by omega), wr (n := 12 * y + m) (by omega) (by omega), wr (n := 12 * y + m - 1) (by omega) (by omega), wr (n := 12 * y + m - 1 + k) (by omega) (by omega), wr (n := 0 - k) (by omega) (by omega), wr (n := 4611686018427387904 + j) (by omega) (by omega)]
  by_cases hin : 12 ≤ 12 * y + m - 1 + k ∧ 12 * y + m - 1 + k < 120000
  · have hs : shiftOk y m d k = true := by simp [shiftOk, hr, hin]
    have ey : shiftY y m d k = (12 * y + m - 1 + k) / 12 := by simp [shiftY, hs]
    have em : shiftM y m d k = (12 * y + m - 1 + k) % 12 + 1 := by simp [shiftM, hs]
    have ed : shiftD y m d k = min d (lastDay (shiftY y m d k) (shiftM y m d k)) := by rw [ey, em]; simp [shiftD, hs]
    have hl := lastDay_pos (y := shiftY y m d k) (m := shiftM y m d k) (by omega) (by omega) (by omega) (by omega)
    generalize hY : shiftY y m d k = Y at *
    generalize hM : shiftM y m d k = M at *
    generalize hD : shiftD y m d k = D at *
    have hR : rightD Y M D = true := rightD_iff.2 ⟨by omega, by omega⟩
    have hsb : shiftOk Y M D (0 - k) = true := by simp [shiftOk, hR]; omega
    have b1 : shiftY Y M D (0 - k) = y := by simp only [shiftY, hsb, if_true]; omega
    have b2 : shiftM Y M D (0 - k) = m := by simp only [shiftM, hsb, if_true]; omega
    have b3 : shiftD Y M D (0 - k) ≤ d := by simp only [shiftD, hsb, if_true]; omega
    have f1 := far (4611686018427387904 + j) (by omega)
    have f2 := far (-9223372036854775808) (by omega)
    rw [wr (n := 12 * Y) (by omega) (by omega), wr (n := 12 * Y + M) (by omega) (by omega), wr (n := 12 * Y + M - 1) (by omega) (by omega)]
    have e : 12 * Y + M - 1 = 12 * y + m - 1 + k := by omega
    have nb : 0 < k → ¬ number Y M D < number y m d := by
      intro hk0 hlt
      have n1 := (number_le hR).2.2.2.2
      have n2 := (number_le hr)
      have n3 := (number_le hR)
      rcases Int.lt_trichotomy y Y with h | h | h
      · have := ahead_mono (a := y + 1) (b := Y) (by omega) (by omega); omega
      · subst h
        have := before_mono' (y := y) (a := m + 1) (b := M) (by omega) (by omega) (by omega) (by omega) (by omega)
        omega
      · omega
    simp only [h0, hR, b1, b2, f1, f2, e, show ¬ 12 * y + m - 1 + k < 12 by omega, show ¬ 12 * y + m - 1 + k ≥ 120000 by omega, show ¬ shiftD Y M D (0 - k) > d by omega]
    have em' : (D != if lastDay Y M < d then lastDay Y M else d) = false := by rw [min_if, ed]; simp
    by_cases hk0 : k ≤ 0
    · simp [em', hk0]
    · simp [em', hk0, nb (by omega)]
  · have hs : shiftOk y m d k = false := by simp [shiftOk, hr]; omega
    have z : shiftY y m d k = 0 ∧ shiftM y m d k = 0 ∧ shiftD y m d k = 0 := by simp [shiftY, shiftM, shiftD, hs]
    by_cases h12 : 12 * y + m - 1 + k < 12
    · simp [h0, h12, z]
    · simp [h0, h12, show 12 * y + m - 1 + k ≥ 120000 by omega, z]

theorem toldCivilMonths (a0 : Int) (w0 : (Lit.int .i64 a0).wf = true) (a1 : Int) (w1 : (Lit.int .i64 a1).wf = true) (a2 : Int) (w2 : (Lit.int .i64 a2).wf = true) : ToldOk Try.prog 6 [.int .i64 a0, .int .i64 a1, .int .i64 a2] (.bool true) := by
  obtain ⟨m, hm⟩ := spec6 a0 w0 a1 w1 a2 w2
  exact told6 m a0 a1 a2 hm rfl
theorem walkCivilMonths (a0 : Int) (w0 : (Lit.int .i64 a0).wf = true) (a1 : Int) (w1 : (Lit.int .i64 a1).wf = true) (a2 : Int) (w2 : (Lit.int .i64 a2).wf = true) (w : World) : Calls Try.prog 6 #[.int .i64 a0, .int .i64 a1, .int .i64 a2] w fun e w' => e = .returned (.bool true) ∧ RowKit.Below w.heap.size w w' := (toldCivilMonths a0 w0 a1 w1 a2 w2).walk' w
end Go.Proofs.Ytlnnlkjjgenddaa
