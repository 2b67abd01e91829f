/- The law 'CivilBack' answers true, whatever whole numbers it is given. Conditions: none. -/
import Derived.Test.YtlnnlkjjgenddaaCivilAid
namespace Go.Proofs.Ytlnnlkjjgenddaa
open Go Go.Proofs.Ytlnnlkjjgenddaa.Ev
set_option linter.unusedVariables false
set_option linter.unusedSimpArgs false
set_option linter.unnecessarySimpa false
/-! cascade/cascadelaw2.CivilBack -/
def t5 (m : Nat) (a0 : Int) (a1 : Int) : Option Value :=
  let x1 : Int := (dateY (within a0 0 3652057))
  let x2 : Int := (dateM (within a0 0 3652057))
  let x3 : Int := (dateD (within a0 0 3652057))
  let x4 : Int := (IntKind.i64.wrap ((within a0 0 3652057) + 1))
  bif !(rightD x1 x2 x3) then
   some (.bool false)
  else
   bif ((number x1 x2 x3) != (within a0 0 3652057)) then
    some (.bool false)
   else
    bif !(rightD (dateY x4) (dateM x4) (dateD x4)) then
     some (.bool false)
    else
     bif (number (dateY x4) (dateM x4) (dateD x4)) != (IntKind.i64.wrap ((within a0 0 3652057) + 1)) then
      some (.bool false)
     else
      bif !((decide (number x1 x2 x3 < number (dateY (within a1 0 3652058)) (dateM (within a1 0 3652058)) (dateD (within a1 0 3652058)))) == (decide ((within a0 0 3652057) < (within a1 0 3652058)))) then
       some (.bool false)
      else
       let x14 : Int := (IntKind.i64.wrap (x3 + 1))
       bif x3 == (lastDay x1 x2) then
        let x15 : Int := (IntKind.i64.wrap (x2 + 1))
        bif x2 == 12 then
         let x16 : Int := (IntKind.i64.wrap (x1 + 1))
         bif decide ((IntKind.i64.wrap ((within a0 0 3652057) + 146097)) ≤ 3652058) then
          let x18 : Int := (IntKind.i64.wrap ((within a0 0 3652057) + 146097))
          bif (!(((dateY x18) == (IntKind.i64.wrap (x1 + 400))) && (((dateM x18) == x2) && (((dateD x18) == x3) && true)))) then
           some (.bool false)
          else
           bif (((dateY x4) == x16) && (((dateM x4) == 1) && (((dateD x4) == 1) && true))) then
            bif (((dateY 3652059) == 0) && (((dateM 3652059) == 0) && (((dateD 3652059) == 0) && true))) then
             bif (((dateY (-1)) == 0) && (((dateM (-1)) == 0) && (((dateD (-1)) == 0) && true))) then
              some (.bool true)
             else
              some (.bool false)
            else
             some (.bool false)
           else
            some (.bool false)
         else
          bif (((dateY x4) == x16) && (((dateM x4) == 1) && (((dateD x4) == 1) && true))) then
           bif (((dateY 3652059) == 0) && (((dateM 3652059) == 0) && (((dateD 3652059) == 0) && true))) then
            bif (((dateY (-1)) == 0) && (((dateM (-1)) == 0) && (((dateD (-1)) == 0) && true))) then
             some (.bool true)
            else
             some (.bool false)
           else
            some (.bool false)
          else
           some (.bool false)
        else
         bif decide ((IntKind.i64.wrap ((within a0 0 3652057) + 146097)) ≤ 3652058) then
          let x28 : Int := (IntKind.i64.wrap ((within a0 0 3652057) + 146097))
          bif (!(((dateY x28) == (IntKind.i64.wrap (x1 + 400))) && (((dateM x28) == x2) && (((dateD x28) == x3) && true)))) then
           some (.bool false)
          else
           bif (((dateY x4) == x1) && (((dateM x4) == x15) && (((dateD x4) == 1) && true))) then
            bif (((dateY 3652059) == 0) && (((dateM 3652059) == 0) && (((dateD 3652059) == 0) && true))) then
             bif (((dateY (-1)) == 0) && (((dateM (-1)) == 0) && (((dateD (-1)) == 0) && true))) then
              some (.bool true)
             else
              some (.bool false)
            else
             some (.bool false)
           else
            some (.bool false)
         else
          bif (((dateY x4) == x1) && (((dateM x4) == x15) && (((dateD x4) == 1) && true))) then
           bif (((dateY 3652059) == 0) && (((dateM 3652059) == 0) && (((dateD 3652059) == 0) && true))) then
            bif (((dateY (-1)) == 0) && (((dateM (-1)) == 0) && (((dateD (-1)) == 0) && true))) then
             some (.bool true)
            else
             some (.bool false)
           else
            some (.bool false)
          else
           some (.bool false)
       else
        bif decide ((IntKind.i64.wrap ((within a0 0 3652057) + 146097)) ≤ 3652058) then
         let x38 : Int := (IntKind.i64.wrap ((within a0 0 3652057) + 146097))
         bif (!(((dateY x38) == (IntKind.i64.wrap (x1 + 400))) && (((dateM x38) == x2) && (((dateD x38) == x3) && true)))) then
          some (.bool false)
         else
          bif (((dateY x4) == x1) && (((dateM x4) == x2) && (((dateD x4) == x14) && true))) then
           bif (((dateY 3652059) == 0) && (((dateM 3652059) == 0) && (((dateD 3652059) == 0) && true))) then
            bif (((dateY (-1)) == 0) && (((dateM (-1)) == 0) && (((dateD (-1)) == 0) && true))) then
             some (.bool true)
            else
             some (.bool false)
           else
            some (.bool false)
          else
           some (.bool false)
        else
         bif (((dateY x4) == x1) && (((dateM x4) == x2) && (((dateD x4) == x14) && true))) then
          bif (((dateY 3652059) == 0) && (((dateM 3652059) == 0) && (((dateD 3652059) == 0) && true))) then
           bif (((dateY (-1)) == 0) && (((dateM (-1)) == 0) && (((dateD (-1)) == 0) && true))) then
            some (.bool true)
           else
            some (.bool false)
          else
           some (.bool false)
         else
          some (.bool false)
def T5 : Tab := tabOf [(3, e3), (13, e13), (15, e15), (16, e16), (17, e17), (21, e21), (24, e24)]
theorem T5_right : Known.right Try.prog T5 := tab_right (all1 right3 (all1 right13 (all1 right15 (all1 right16 (all1 right17 (all1 right21 (all1 right24 all0)))))))
theorem G5 (m : Nat) (a0 : Int) (a1 : Int) : roadIn Try.prog T5 (fun _ => true) (fnOf Try.prog 5) [.int .i64 a0, .int .i64 a1] (kks (fnOf Try.prog 5).results.toList Try.prog []) = t5 m a0 a1 := by kernel_rfl
theorem told5 (m : Nat) (a0 : Int) (a1 : Int) {v : Value} (h : t5 m a0 a1 = some v) (hv : plainT v = true) : ToldOk Try.prog 5 [.int .i64 a0, .int .i64 a1] v :=
  told_road' (S := []) Seat.mix Seat.names T5_right (by kernel_rfl) (by kernel_rfl) (by kernel_rfl)
    all0 ((G5 m a0 a1).trans h) rfl hv


theorem spec5 (a0 : Int) (w0 : (Lit.int .i64 a0).wf = true) (a1 : Int) (w1 : (Lit.int .i64 a1).wf = true) : ∃ m, t5 m a0 a1 = some (.bool true) := by
  refine ⟨0, ?_⟩
  have ha := within_le (a := a0) (lo := 0) (hi := 3652057) (by omega)
  have hb := within_le (a := a1) (lo := 0) (hi := 3652058) (by omega)
  unfold t5
  generalize within a0 0 3652057 = a at *
  generalize within a1 0 3652058 = b at *
  have ra : rightN a = true := rightN_iff.2 (by omega)
  have ra' : rightN (a + 1) = true := rightN_iff.2 (by omega)
  have rb : rightN b = true := rightN_iff.2 (by omega)
  obtain ⟨y1, y2, m1, m2, d1, d2⟩ := date_in ra
  have hl := lastDay_le (dateY a) (dateM a)
  have e0 := number_le (date_right ra)
  rw [date_number ra] at e0
  obtain ⟨e1, e2, e3, e4, e5⟩ := e0
  have z1 : dateY 3652059 = 0 ∧ dateM 3652059 = 0 ∧ dateD 3652059 = 0 := date_none rfl
  have z2 : dateY (-1) = 0 ∧ dateM (-1) = 0 ∧ dateD (-1) = 0 := date_none rfl
  simp only []
  rw [wr (n := a + 1) (by omega) (by omega), wr (n := dateD a + 1) (by omega) (by omega), wr (n := dateM a + 1) (by omega) (by omega), wr (n := dateY a + 1) (by omega) (by omega), wr (n := a + 146097) (by omega) (by omega), wr (n := dateY a + 400) (by omega) (by omega)]
  have far : a + 146097 ≤ 3652058 → dateY (a + 146097) = dateY a + 400 ∧ dateM (a + 146097) = dateM a ∧ dateD (a + 146097) = dateD a := by
    intro h
    have hy : dateY a + 400 ≤ 9999 := by
      rcases Int.lt_or_le (dateY a + 400) 10000 with h1 | h1
      · omega
      · have := ahead_mono (a := 10000) (b := dateY a + 400) (by omega) h1
        have e : ahead0 10000 = 3652059 := rfl
        have : ahead0 (dateY a + 400) = ahead0 (dateY a) + 146097 := by unfold ahead0; omega
        omega
    refine date_of' (rightD_iff.2 ⟨d1, by rw [lastDay_400 y1 hy]; exact d2⟩) ?_
    have hr : rightD (dateY a + 400) (dateM a) (dateD a) = true := rightD_iff.2 ⟨d1, by rw [lastDay_400 y1 hy]; exact d2⟩
    have := (number_le hr).2.2.2.2
    have h1 : ahead0 (dateY a + 400) = ahead0 (dateY a) + 146097 := by unfold ahead0; omega
    have h2 : before (dateY a + 400) (dateM a) = before (dateY a) (dateM a) := by unfold before leapN; rw [leap_400 y1]
    omega
  have next : ∀ y m d, rightD y m d = true → number y m d = a + 1 → dateY (a + 1) = y ∧ dateM (a + 1) = m ∧ dateD (a + 1) = d := fun y m d h1 h2 => date_of' h1 h2
  simp only [date_right ra, date_right ra', date_number ra, date_number ra', date_number rb, z1, z2]
  by_cases hd : dateD a = lastDay (dateY a) (dateM a)
  · by_cases hm : dateM a = 12
    · have hy : dateY a ≠ 9999 := by
        intro e
        have h13 : before (dateY a) (dateM a + 1) = 365 + leapN (dateY a) := by rw [hm]; simp [before]
        have := before_next y1 y2 m1 m2
        rw [e] at e5 h13 this d2 hd
        have : leapN 9999 = 0 := rfl
        have : ahead0 9999 = 3651694 := rfl
        omega
      have hr : rightD (dateY a + 1) 1 1 = true := rightD_iff.2 ⟨by omega, by have := lastDay_pos (y := dateY a + 1) (m := 1) (by omega) (by omega) (by omega) (by omega); omega⟩
      have hn := (number_le hr).2.2.2.2
      have hb1 : before (dateY a + 1) 1 = 0 := by simp [before]
      have h13 : before (dateY a) (dateM a + 1) = 365 + leapN (dateY a) := by rw [hm]; simp [before]
      have := before_next y1 y2 m1 m2
      have := ahead_next y1
      have nx := next _ _ _ hr (by omega)
      by_cases hf : a + 146097 ≤ 3652058
      · simp [hd, hm, hf, far hf, nx, ← hd]
      · simp [hd, hm, hf, nx, ← hd]
    · have hr : rightD (dateY a) (dateM a + 1) 1 = true := rightD_iff.2 ⟨by omega, by have := lastDay_pos (y := dateY a) (m := dateM a + 1) (by omega) (by omega) (by omega) (by omega); omega⟩
      have hn := (number_le hr).2.2.2.2
      have := before_next y1 y2 m1 m2
      have nx := next _ _ _ hr (by omega)
      by_cases hf : a + 146097 ≤ 3652058
      · have hm' : (dateM a == 12) = false := by simp [hm]
        simp [← hd, hm', hf, far hf, nx]
      · have hm' : (dateM a == 12) = false := by simp [hm]
        simp [← hd, hm', hf, nx]
  · have hr : rightD (dateY a) (dateM a) (dateD a + 1) = true := rightD_iff.2 ⟨by omega, by omega⟩
    have hn := (number_le hr).2.2.2.2
    have nx := next _ _ _ hr (by omega)
    have hd' : (dateD a == lastDay (dateY a) (dateM a)) = false := by simp [hd]
    by_cases hf : a + 146097 ≤ 3652058
    · simp [hd', hf, far hf, nx]
    · simp [hd', hf, nx]

theorem toldCivilBack (a0 : Int) (w0 : (Lit.int .i64 a0).wf = true) (a1 : Int) (w1 : (Lit.int .i64 a1).wf = true) : ToldOk Try.prog 5 [.int .i64 a0, .int .i64 a1] (.bool true) := by
  obtain ⟨m, hm⟩ := spec5 a0 w0 a1 w1
  exact told5 m a0 a1 hm rfl
theorem walkCivilBack (a0 : Int) (w0 : (Lit.int .i64 a0).wf = true) (a1 : Int) (w1 : (Lit.int .i64 a1).wf = true) (w : World) : Calls Try.prog 5 #[.int .i64 a0, .int .i64 a1] w fun e w' => e = .returned (.bool true) ∧ RowKit.Below w.heap.size w w' := (toldCivilBack a0 w0 a1 w1).walk' w
end Go.Proofs.Ytlnnlkjjgenddaa
