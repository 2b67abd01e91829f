/- Days between dates, by each basis, and what a balance bears: what the program and the document answer. Conditions: none. -/
import Derived.Test.YtibgpjahjdgepaaCivil
import Derived.Test.YtibgpjahjdgepaaCents
namespace Go.Proofs.Ytibgpjahjdgepaa
open Go Go.Proofs.Ytibgpjahjdgepaa.Ev
set_option linter.unusedVariables false
set_option linter.unusedSimpArgs false
set_option linter.unnecessarySimpa false
theorem min_if' (a b : Int) : (if b < a then b else a) = min a b := by omega
theorem number_in {y m d : Int} (h : rightD y m d = true) : 0 ≤ number y m d ∧ number y m d ≤ 10000000 := by
  have h1 := number_le h
  have h2 := rightD_ym h
  have h3 := ahead_le (y := y) (by omega) (by omega)
  have h4 := ahead_le (y := y + 1) (by omega) (by omega)
  omega
/-- The days between two dates, by 30 days a month. -/
def com (y m d y' m' d' : Int) : Int := 360 * (y' - y) + 30 * (m' - m) + (if min d 30 = 30 then min d' 30 else d') - min d 30
/-- The days that count, by a basis; and of how many. -/
def daysN (b y m d y' m' d' : Int) : Int :=
  if rightD y m d = true ∧ rightD y' m' d' = true ∧ number y m d ≤ number y' m' d' then (if b = 0 then com y m d y' m' d' else if b = 1 ∨ b = 2 then number y' m' d' - number y m d else 0) else 0
def perN (b : Int) : Int := if b = 2 then 365 else 360
theorem daysN_le (b y m d y' m' d' : Int) : -10000000 ≤ daysN b y m d y' m' d' ∧ daysN b y m d y' m' d' ≤ 10000000 := by
  unfold daysN
  split
  · rename_i h
    obtain ⟨h1, h2, h3⟩ := h
    have n1 := number_in h1
    have n2 := number_in h2
    have y1 := rightD_ym h1
    have y2 := rightD_ym h2
    have u1 := rightD_iff.1 h1
    have u2 := rightD_iff.1 h2
    have l1 := lastDay_le y m
    have l2 := lastDay_le y' m'
    split
    · unfold com; split <;> omega
    · split <;> omega
  · omega


def q20 : List Sc → Option (Bool × Value)
  | [.i a0, .i a1, .i a2, .i a3, .i a4, .i a5, .i a6] => some (true, .tuple #[.int .i64 (daysN a0 a1 a2 a3 a4 a5 a6), .int .i64 (perN a0)])
  | _ => none
def e20 : List Value → Option (Bool × Value) := entOf [.int .i64, .agg [some .i64, some .i64, some .i64], .agg [some .i64, some .i64, some .i64]] q20

/-! cascade/accrual.Days -/
def t20 (m : Nat) (a0 : Int) (a1 : Int) (a2 : Int) (a3 : Int) (a4 : Int) (a5 : Int) (a6 : Int) : Option Value :=
  bif a0 == 2 then
   bif !(rightD a1 a2 a3) then
    some (.tuple #[.int .i64 0, .int .i64 365])
   else
    bif !(rightD a4 a5 a6) then
     some (.tuple #[.int .i64 0, .int .i64 365])
    else
     bif (decide (number a4 a5 a6 < number a1 a2 a3)) then
      some (.tuple #[.int .i64 0, .int .i64 365])
     else
      bif a0 == 0 then
       let x2 : Int := (if 30 < a3 then 30 else a3)
       bif x2 == 30 then
        some (.tuple #[.int .i64 (IntKind.i64.wrap ((IntKind.i64.wrap ((IntKind.i64.wrap ((IntKind.i64.wrap (360 * (IntKind.i64.wrap (a4 - a1)))) + (IntKind.i64.wrap (30 * (IntKind.i64.wrap (a5 - a2)))))) + (if 30 < a6 then 30 else a6))) - x2)), .int .i64 365])
       else
        some (.tuple #[.int .i64 (IntKind.i64.wrap ((IntKind.i64.wrap ((IntKind.i64.wrap ((IntKind.i64.wrap (360 * (IntKind.i64.wrap (a4 - a1)))) + (IntKind.i64.wrap (30 * (IntKind.i64.wrap (a5 - a2)))))) + a6)) - x2)), .int .i64 365])
      else
       bif a0 == 1 then
        bif a0 == 1 then
         some (.tuple #[.int .i64 (IntKind.i64.wrap ((number a4 a5 a6) - (number a1 a2 a3))), .int .i64 365])
        else
         some (.tuple #[.int .i64 0, .int .i64 365])
       else
        bif a0 == 2 then
         some (.tuple #[.int .i64 (IntKind.i64.wrap ((number a4 a5 a6) - (number a1 a2 a3))), .int .i64 365])
        else
         some (.tuple #[.int .i64 0, .int .i64 365])
  else
   bif !(rightD a1 a2 a3) then
    some (.tuple #[.int .i64 0, .int .i64 360])
   else
    bif !(rightD a4 a5 a6) then
     some (.tuple #[.int .i64 0, .int .i64 360])
    else
     bif (decide (number a4 a5 a6 < number a1 a2 a3)) then
      some (.tuple #[.int .i64 0, .int .i64 360])
     else
      bif a0 == 0 then
       let x21 : Int := (if 30 < a3 then 30 else a3)
       bif x21 == 30 then
        some (.tuple #[.int .i64 (IntKind.i64.wrap ((IntKind.i64.wrap ((IntKind.i64.wrap ((IntKind.i64.wrap (360 * (IntKind.i64.wrap (a4 - a1)))) + (IntKind.i64.wrap (30 * (IntKind.i64.wrap (a5 - a2)))))) + (if 30 < a6 then 30 else a6))) - x21)), .int .i64 360])
       else
        some (.tuple #[.int .i64 (IntKind.i64.wrap ((IntKind.i64.wrap ((IntKind.i64.wrap ((IntKind.i64.wrap (360 * (IntKind.i64.wrap (a4 - a1)))) + (IntKind.i64.wrap (30 * (IntKind.i64.wrap (a5 - a2)))))) + a6)) - x21)), .int .i64 360])
      else
       bif a0 == 1 then
        bif a0 == 1 then
         some (.tuple #[.int .i64 (IntKind.i64.wrap ((number a4 a5 a6) - (number a1 a2 a3))), .int .i64 360])
        else
         some (.tuple #[.int .i64 0, .int .i64 360])
       else
        bif a0 == 2 then
         some (.tuple #[.int .i64 (IntKind.i64.wrap ((number a4 a5 a6) - (number a1 a2 a3))), .int .i64 360])
        else
         some (.tuple #[.int .i64 0, .int .i64 360])
def T20 : Tab := tabOf [(26, e26), (32, e32), (33, e33)]
theorem T20_right : Known.right Try.prog T20 := tab_right (all1 right26 (all1 right32 (all1 right33 all0)))
theorem G20 (m : Nat) (a0 : Int) (a1 : Int) (a2 : Int) (a3 : Int) (a4 : Int) (a5 : Int) (a6 : Int) : roadIn Try.prog T20 (fun _ => true) (fnOf Try.prog 20) [.int .i64 a0, .agg #[.int .i64 a1, .int .i64 a2, .int .i64 a3], .agg #[.int .i64 a4, .int .i64 a5, .int .i64 a6]] (kks (fnOf Try.prog 20).results.toList Try.prog []) = t20 m a0 a1 a2 a3 a4 a5 a6 := by kernel_rfl
theorem told20 (m : Nat) (a0 : Int) (a1 : Int) (a2 : Int) (a3 : Int) (a4 : Int) (a5 : Int) (a6 : Int) {v : Value} (h : t20 m a0 a1 a2 a3 a4 a5 a6 = some v) (hv : plainT v = true) : ToldOk Try.prog 20 [.int .i64 a0, .agg #[.int .i64 a1, .int .i64 a2, .int .i64 a3], .agg #[.int .i64 a4, .int .i64 a5, .int .i64 a6]] v :=
  told_road' (S := []) Seat.mix Seat.names T20_right (by kernel_rfl) (by kernel_rfl) (by kernel_rfl)
    all0 ((G20 m a0 a1 a2 a3 a4 a5 a6).trans h) rfl hv

theorem spec20 (a0 : Int) (a1 : Int) (a2 : Int) (a3 : Int) (a4 : Int) (a5 : Int) (a6 : Int) : ∃ m, t20 m a0 a1 a2 a3 a4 a5 a6 = some (.tuple #[.int .i64 (daysN a0 a1 a2 a3 a4 a5 a6), .int .i64 (perN a0)]) := by
  refine ⟨0, ?_⟩
  unfold t20 daysN perN
  by_cases c2 : a0 = 2
  · subst c2
    by_cases r1 : rightD a1 a2 a3 = true
    · by_cases r2 : rightD a4 a5 a6 = true
      · by_cases hn : number a4 a5 a6 < number a1 a2 a3
        · simp [r1, r2, hn, show ¬ number a1 a2 a3 ≤ number a4 a5 a6 by omega]
        · have n1 := number_in r1
          have n2 := number_in r2
          rw [wr (n := number a4 a5 a6 - number a1 a2 a3) (by omega) (by omega)]
          simp [r1, r2, hn, show number a1 a2 a3 ≤ number a4 a5 a6 by omega]
      · simp [r1, r2]
    · simp [r1]
  have c2' : (a0 == 2) = false := by simpa using c2
  simp only [c2', c2, cond_false, if_false]
  by_cases r1 : rightD a1 a2 a3 = true
  · by_cases r2 : rightD a4 a5 a6 = true
    · by_cases hn : number a4 a5 a6 < number a1 a2 a3
      · by_cases d1 : a0 < 0 <;> by_cases d2 : a0 > 2 <;> simp [r1, r2, hn, d1, d2, show ¬ number a1 a2 a3 ≤ number a4 a5 a6 by omega]
      · have n1 := number_in r1
        have n2 := number_in r2
        have y1 := rightD_ym r1
        have y2 := rightD_ym r2
        have u1 := rightD_iff.1 r1
        have u2 := rightD_iff.1 r2
        have l1 := lastDay_le a1 a2
        have l2 := lastDay_le a4 a5
        rw [wr (n := number a4 a5 a6 - number a1 a2 a3) (by omega) (by omega)]
        by_cases c0 : a0 = 0
        · subst c0
          rw [wr (n := a4 - a1) (by omega) (by omega), wr (n := a5 - a2) (by omega) (by omega), wr (n := 360 * (a4 - a1)) (by omega) (by omega), wr (n := 30 * (a5 - a2)) (by omega) (by omega), wr (n := 360 * (a4 - a1) + 30 * (a5 - a2)) (by omega) (by omega)]
          simp only [min_if']
          rw [wr (n := 360 * (a4 - a1) + 30 * (a5 - a2) + min a6 30) (by omega) (by omega), wr (n := 360 * (a4 - a1) + 30 * (a5 - a2) + a6) (by omega) (by omega), wr (n := 360 * (a4 - a1) + 30 * (a5 - a2) + min a6 30 - min a3 30) (by omega) (by omega), wr (n := 360 * (a4 - a1) + 30 * (a5 - a2) + a6 - min a3 30) (by omega) (by omega)]
          by_cases c30 : min a3 30 = 30
          · simp [r1, r2, hn, c30, com, show number a1 a2 a3 ≤ number a4 a5 a6 by omega]
          · simp [r1, r2, hn, c30, show (min a3 30 == 30) = false by simpa using c30, com, show number a1 a2 a3 ≤ number a4 a5 a6 by omega]
        by_cases c1 : a0 = 1
        · subst c1
          simp [r1, r2, hn, show number a1 a2 a3 ≤ number a4 a5 a6 by omega]
        by_cases d1 : a0 < 0
        · simp [r1, r2, hn, c0, c1, d1, c2, c2', show (a0 == 0) = false by simpa using c0, show (a0 == 1) = false by simpa using c1, show number a1 a2 a3 ≤ number a4 a5 a6 by omega]
        · have d2 : a0 > 2 := by omega
          simp [r1, r2, hn, c0, c1, d1, d2, c2, c2', show (a0 == 0) = false by simpa using c0, show (a0 == 1) = false by simpa using c1, show number a1 a2 a3 ≤ number a4 a5 a6 by omega]
    · simp [r1, r2]
  · simp [r1]

theorem right20 : EntRight Try.prog 20 e20 := ent_right (by
  intro xs v h
  unfold q20 at h
  split at h
  · rename_i a0 a1 a2 a3 a4 a5 a6
    simp only [Option.some.injEq, Prod.mk.injEq, true_and] at h
    obtain rfl := h
    obtain ⟨m, hm⟩ := spec20 a0 a1 a2 a3 a4 a5 a6
    exact told20 m a0 a1 a2 a3 a4 a5 a6 hm rfl
  · cases h)


def q23 : List Sc → Option (Bool × Value)
  | [.i a0, .i a1, .i a2, .i a3, .i a4, .i a5, .i a6] => some (true, .tuple #[.int .i64 (daysN a0 a1 a2 a3 a4 a5 a6), .int .i64 (perN a0)])
  | _ => none
def e23 : List Value → Option (Bool × Value) := entOf [.int .i64, .agg [some .i64, some .i64, some .i64], .agg [some .i64, some .i64, some .i64]] q23

/-! cascade/cascaderef1.Days -/
def t23 (m : Nat) (a0 : Int) (a1 : Int) (a2 : Int) (a3 : Int) (a4 : Int) (a5 : Int) (a6 : Int) : Option Value :=
  bif a0 == 2 then
   bif !(rightD a1 a2 a3) then
    some (.tuple #[.int .i64 0, .int .i64 365])
   else
    bif !(rightD a4 a5 a6) then
     some (.tuple #[.int .i64 0, .int .i64 365])
    else
     bif decide (a0 < 0) then
      some (.tuple #[.int .i64 0, .int .i64 365])
     else
      bif decide (a0 > 2) then
       some (.tuple #[.int .i64 0, .int .i64 365])
      else
       bif (decide ((number a4 a5 a6) < (number a1 a2 a3))) then
        some (.tuple #[.int .i64 0, .int .i64 365])
       else
        bif decide (a0 > 0) then
         some (.tuple #[.int .i64 (IntKind.i64.wrap ((number a4 a5 a6) - (number a1 a2 a3))), .int .i64 365])
        else
         let x3 : Int := (if 30 < a3 then 30 else a3)
         bif x3 == 30 then
          some (.tuple #[.int .i64 (IntKind.i64.wrap ((IntKind.i64.wrap ((IntKind.i64.wrap ((IntKind.i64.wrap (360 * (IntKind.i64.wrap (a4 - a1)))) + (IntKind.i64.wrap (30 * (IntKind.i64.wrap (a5 - a2)))))) + (if 30 < a6 then 30 else a6))) - x3)), .int .i64 365])
         else
          some (.tuple #[.int .i64 (IntKind.i64.wrap ((IntKind.i64.wrap ((IntKind.i64.wrap ((IntKind.i64.wrap (360 * (IntKind.i64.wrap (a4 - a1)))) + (IntKind.i64.wrap (30 * (IntKind.i64.wrap (a5 - a2)))))) + a6)) - x3)), .int .i64 365])
  else
   bif !(rightD a1 a2 a3) then
    some (.tuple #[.int .i64 0, .int .i64 360])
   else
    bif !(rightD a4 a5 a6) then
     some (.tuple #[.int .i64 0, .int .i64 360])
    else
     bif decide (a0 < 0) then
      some (.tuple #[.int .i64 0, .int .i64 360])
     else
      bif decide (a0 > 2) then
       some (.tuple #[.int .i64 0, .int .i64 360])
      else
       bif (decide ((number a4 a5 a6) < (number a1 a2 a3))) then
        some (.tuple #[.int .i64 0, .int .i64 360])
       else
        bif decide (a0 > 0) then
         some (.tuple #[.int .i64 (IntKind.i64.wrap ((number a4 a5 a6) - (number a1 a2 a3))), .int .i64 360])
        else
         let x21 : Int := (if 30 < a3 then 30 else a3)
         bif x21 == 30 then
          some (.tuple #[.int .i64 (IntKind.i64.wrap ((IntKind.i64.wrap ((IntKind.i64.wrap ((IntKind.i64.wrap (360 * (IntKind.i64.wrap (a4 - a1)))) + (IntKind.i64.wrap (30 * (IntKind.i64.wrap (a5 - a2)))))) + (if 30 < a6 then 30 else a6))) - x21)), .int .i64 360])
         else
          some (.tuple #[.int .i64 (IntKind.i64.wrap ((IntKind.i64.wrap ((IntKind.i64.wrap ((IntKind.i64.wrap (360 * (IntKind.i64.wrap (a4 - a1)))) + (IntKind.i64.wrap (30 * (IntKind.i64.wrap (a5 - a2)))))) + a6)) - x21)), .int .i64 360])
def T23 : Tab := tabOf [(36, e36), (37, e37)]
theorem T23_right : Known.right Try.prog T23 := tab_right (all1 right36 (all1 right37 all0))
theorem G23 (m : Nat) (a0 : Int) (a1 : Int) (a2 : Int) (a3 : Int) (a4 : Int) (a5 : Int) (a6 : Int) : roadIn Try.prog T23 (fun _ => true) (fnOf Try.prog 23) [.int .i64 a0, .agg #[.int .i64 a1, .int .i64 a2, .int .i64 a3], .agg #[.int .i64 a4, .int .i64 a5, .int .i64 a6]] (kks (fnOf Try.prog 23).results.toList Try.prog []) = t23 m a0 a1 a2 a3 a4 a5 a6 := by kernel_rfl
theorem told23 (m : Nat) (a0 : Int) (a1 : Int) (a2 : Int) (a3 : Int) (a4 : Int) (a5 : Int) (a6 : Int) {v : Value} (h : t23 m a0 a1 a2 a3 a4 a5 a6 = some v) (hv : plainT v = true) : ToldOk Try.prog 23 [.int .i64 a0, .agg #[.int .i64 a1, .int .i64 a2, .int .i64 a3], .agg #[.int .i64 a4, .int .i64 a5, .int .i64 a6]] v :=
  told_road' (S := []) Seat.mix Seat.names T23_right (by kernel_rfl) (by kernel_rfl) (by kernel_rfl)
    all0 ((G23 m a0 a1 a2 a3 a4 a5 a6).trans h) rfl hv

theorem spec23 (a0 : Int) (a1 : Int) (a2 : Int) (a3 : Int) (a4 : Int) (a5 : Int) (a6 : Int) : ∃ m, t23 m a0 a1 a2 a3 a4 a5 a6 = some (.tuple #[.int .i64 (daysN a0 a1 a2 a3 a4 a5 a6), .int .i64 (perN a0)]) := by
  refine ⟨0, ?_⟩
  unfold t23 daysN perN
  by_cases c2 : a0 = 2
  · subst c2
    by_cases r1 : rightD a1 a2 a3 = true
    · by_cases r2 : rightD a4 a5 a6 = true
      · by_cases hn : number a4 a5 a6 < number a1 a2 a3
        · simp [r1, r2, hn, show ¬ number a1 a2 a3 ≤ number a4 a5 a6 by omega]
        · have n1 := number_in r1
          have n2 := number_in r2
          rw [wr (n := number a4 a5 a6 - number a1 a2 a3) (by omega) (by omega)]
          simp [r1, r2, hn, show number a1 a2 a3 ≤ number a4 a5 a6 by omega]
      · simp [r1, r2]
    · simp [r1]
  have c2' : (a0 == 2) = false := by simpa using c2
  simp only [c2', c2, cond_false, if_false]
  by_cases r1 : rightD a1 a2 a3 = true
  · by_cases r2 : rightD a4 a5 a6 = true
    · by_cases hn : number a4 a5 a6 < number a1 a2 a3
      · by_cases d1 : a0 < 0 <;> by_cases d2 : a0 > 2 <;> simp [r1, r2, hn, d1, d2, show ¬ number a1 a2 a3 ≤ number a4 a5 a6 by omega]
      · have n1 := number_in r1
        have n2 := number_in r2
        have y1 := rightD_ym r1
        have y2 := rightD_ym r2
        have u1 := rightD_iff.1 r1
        have u2 := rightD_iff.1 r2
        have l1 := lastDay_le a1 a2
        have l2 := lastDay_le a4 a5
        rw [wr (n := number a4 a5 a6 - number a1 a2 a3) (by omega) (by omega)]
        by_cases c0 : a0 = 0
        · subst c0
          rw [wr (n := a4 - a1) (by omega) (by omega), wr (n := a5 - a2) (by omega) (by omega), wr (n := 360 * (a4 - a1)) (by omega) (by omega), wr (n := 30 * (a5 - a2)) (by omega) (by omega), wr (n := 360 * (a4 - a1) + 30 * (a5 - a2)) (by omega) (by omega)]
          simp only [min_if']
          rw [wr (n := 360 * (a4 - a1) + 30 * (a5 - a2) + min a6 30) (by omega) (by omega), wr (n := 360 * (a4 - a1) + 30 * (a5 - a2) + a6) (by omega) (by omega), wr (n := 360 * (a4 - a1) + 30 * (a5 - a2) + min a6 30 - min a3 30) (by omega) (by omega), wr (n := 360 * (a4 - a1) + 30 * (a5 - a2) + a6 - min a3 30) (by omega) (by omega)]
          by_cases c30 : min a3 30 = 30
          · simp [r1, r2, hn, c30, com, show number a1 a2 a3 ≤ number a4 a5 a6 by omega]
          · simp [r1, r2, hn, c30, show (min a3 30 == 30) = false by simpa using c30, com, show number a1 a2 a3 ≤ number a4 a5 a6 by omega]
        by_cases c1 : a0 = 1
        · subst c1
          simp [r1, r2, hn, show number a1 a2 a3 ≤ number a4 a5 a6 by omega]
        by_cases d1 : a0 < 0
        · simp [r1, r2, hn, c0, c1, d1, c2, c2', show (a0 == 0) = false by simpa using c0, show (a0 == 1) = false by simpa using c1, show number a1 a2 a3 ≤ number a4 a5 a6 by omega]
        · have d2 : a0 > 2 := by omega
          simp [r1, r2, hn, c0, c1, d1, d2, c2, c2', show (a0 == 0) = false by simpa using c0, show (a0 == 1) = false by simpa using c1, show number a1 a2 a3 ≤ number a4 a5 a6 by omega]
    · simp [r1, r2]
  · simp [r1]

theorem right23 : EntRight Try.prog 23 e23 := ent_right (by
  intro xs v h
  unfold q23 at h
  split at h
  · rename_i a0 a1 a2 a3 a4 a5 a6
    simp only [Option.some.injEq, Prod.mk.injEq, true_and] at h
    obtain rfl := h
    obtain ⟨m, hm⟩ := spec23 a0 a1 a2 a3 a4 a5 a6
    exact told23 m a0 a1 a2 a3 a4 a5 a6 hm rfl
  · cases h)

/-- What a balance bears. -/
def intV (bal r b y m d y' m' d' : Int) : Int := if 0 ≤ r ∧ r ≤ 5000 then mdV bal (r * daysN b y m d y' m' d') (10000 * perN b) 2 else 0
def intOk (bal r b y m d y' m' d' : Int) : Bool := decide (0 ≤ r ∧ r ≤ 5000) && mdOk bal (r * daysN b y m d y' m' d') (10000 * perN b) 2

def q21 : List Sc → Option (Bool × Value)
  | [.i a0, .i a1, .i a2, .i a3, .i a4, .i a5, .i a6, .i a7, .i a8] => some (true, .tuple #[.int .i64 (intV a0 a1 a2 a3 a4 a5 a6 a7 a8), .bool (intOk a0 a1 a2 a3 a4 a5 a6 a7 a8)])
  | _ => none
def e21 : List Value → Option (Bool × Value) := entOf [.int .i64, .int .i64, .int .i64, .agg [some .i64, some .i64, some .i64], .agg [some .i64, some .i64, some .i64]] q21

/-! cascade/accrual.Interest -/
def t21 (m : Nat) (a0 : Int) (a1 : Int) (a2 : Int) (a3 : Int) (a4 : Int) (a5 : Int) (a6 : Int) (a7 : Int) (a8 : Int) : Option Value :=
  bif decide (a1 < 0) then
   some (.tuple #[.int .i64 0, .bool false])
  else
   bif decide (a1 > 5000) then
    some (.tuple #[.int .i64 0, .bool false])
   else
    let x2 : Int := (IntKind.i64.wrap (a1 * (daysN a2 a3 a4 a5 a6 a7 a8)))
    let x3 : Int := (IntKind.i64.wrap (10000 * (perN a2)))
    some (.tuple #[.int .i64 (mdV a0 x2 x3 2), .bool (mdOk a0 x2 x3 2)])
def T21 : Tab := tabOf [(20, e20), (30, e30)]
theorem T21_right : Known.right Try.prog T21 := tab_right (all1 right20 (all1 right30 all0))
theorem G21 (m : Nat) (a0 : Int) (a1 : Int) (a2 : Int) (a3 : Int) (a4 : Int) (a5 : Int) (a6 : Int) (a7 : Int) (a8 : Int) : roadIn Try.prog T21 (fun _ => true) (fnOf Try.prog 21) [.int .i64 a0, .int .i64 a1, .int .i64 a2, .agg #[.int .i64 a3, .int .i64 a4, .int .i64 a5], .agg #[.int .i64 a6, .int .i64 a7, .int .i64 a8]] (kks (fnOf Try.prog 21).results.toList Try.prog []) = t21 m a0 a1 a2 a3 a4 a5 a6 a7 a8 := by kernel_rfl
theorem told21 (m : Nat) (a0 : Int) (a1 : Int) (a2 : Int) (a3 : Int) (a4 : Int) (a5 : Int) (a6 : Int) (a7 : Int) (a8 : Int) {v : Value} (h : t21 m a0 a1 a2 a3 a4 a5 a6 a7 a8 = some v) (hv : plainT v = true) : ToldOk Try.prog 21 [.int .i64 a0, .int .i64 a1, .int .i64 a2, .agg #[.int .i64 a3, .int .i64 a4, .int .i64 a5], .agg #[.int .i64 a6, .int .i64 a7, .int .i64 a8]] v :=
  told_road' (S := []) Seat.mix Seat.names T21_right (by kernel_rfl) (by kernel_rfl) (by kernel_rfl)
    all0 ((G21 m a0 a1 a2 a3 a4 a5 a6 a7 a8).trans h) rfl hv

theorem spec21 (a0 : Int) (a1 : Int) (a2 : Int) (a3 : Int) (a4 : Int) (a5 : Int) (a6 : Int) (a7 : Int) (a8 : Int) : ∃ m, t21 m a0 a1 a2 a3 a4 a5 a6 a7 a8 = some (.tuple #[.int .i64 (intV a0 a1 a2 a3 a4 a5 a6 a7 a8), .bool (intOk a0 a1 a2 a3 a4 a5 a6 a7 a8)]) := by
  refine ⟨0, ?_⟩
  unfold t21 intV intOk
  by_cases c1 : a1 < 0
  · simp [c1, show ¬ (0 ≤ a1 ∧ a1 ≤ 5000) by omega]
  by_cases c2 : a1 > 5000
  · simp [c1, c2, show ¬ (0 ≤ a1 ∧ a1 ≤ 5000) by omega]
  have hd := daysN_le a2 a3 a4 a5 a6 a7 a8
  have hp : perN a2 = 360 ∨ perN a2 = 365 := by unfold perN; split <;> simp
  have hm := Int.mul_le_mul_of_nonneg_left (show daysN a2 a3 a4 a5 a6 a7 a8 ≤ 10000000 by omega) (show 0 ≤ a1 by omega)
  have hm' := Int.mul_le_mul_of_nonneg_left (show -10000000 ≤ daysN a2 a3 a4 a5 a6 a7 a8 by omega) (show 0 ≤ a1 by omega)
  simp only [c1, c2, decide_false, cond_false, show 0 ≤ a1 ∧ a1 ≤ 5000 by omega, and_self, if_true, decide_true, Bool.true_and]
  rw [wr (n := a1 * daysN a2 a3 a4 a5 a6 a7 a8) (by omega) (by omega), wr (n := 10000 * perN a2) (by omega) (by omega)]

theorem right21 : EntRight Try.prog 21 e21 := ent_right (by
  intro xs v h
  unfold q21 at h
  split at h
  · rename_i a0 a1 a2 a3 a4 a5 a6 a7 a8
    simp only [Option.some.injEq, Prod.mk.injEq, true_and] at h
    obtain rfl := h
    obtain ⟨m, hm⟩ := spec21 a0 a1 a2 a3 a4 a5 a6 a7 a8
    exact told21 m a0 a1 a2 a3 a4 a5 a6 a7 a8 hm rfl
  · cases h)


def q24 : List Sc → Option (Bool × Value)
  | [.i a0, .i a1, .i a2, .i a3, .i a4, .i a5, .i a6, .i a7, .i a8] => some (true, .tuple #[.int .i64 (intV a0 a1 a2 a3 a4 a5 a6 a7 a8), .bool (intOk a0 a1 a2 a3 a4 a5 a6 a7 a8)])
  | _ => none
def e24 : List Value → Option (Bool × Value) := entOf [.int .i64, .int .i64, .int .i64, .agg [some .i64, some .i64, some .i64], .agg [some .i64, some .i64, some .i64]] q24

/-! cascade/cascaderef1.Interest -/
def t24 (m : Nat) (a0 : Int) (a1 : Int) (a2 : Int) (a3 : Int) (a4 : Int) (a5 : Int) (a6 : Int) (a7 : Int) (a8 : Int) : Option Value :=
  bif decide (a1 < 0) then
   some (.tuple #[.int .i64 0, .bool false])
  else
   bif decide (a1 > 5000) then
    some (.tuple #[.int .i64 0, .bool false])
   else
    let x2 : Int := (IntKind.i64.wrap (a1 * (daysN a2 a3 a4 a5 a6 a7 a8)))
    let x3 : Int := (IntKind.i64.wrap (10000 * (perN a2)))
    some (.tuple #[.int .i64 (mdV a0 x2 x3 2), .bool (mdOk a0 x2 x3 2)])
def T24 : Tab := tabOf [(23, e23), (38, e38)]
theorem T24_right : Known.right Try.prog T24 := tab_right (all1 right23 (all1 right38 all0))
theorem G24 (m : Nat) (a0 : Int) (a1 : Int) (a2 : Int) (a3 : Int) (a4 : Int) (a5 : Int) (a6 : Int) (a7 : Int) (a8 : Int) : roadIn Try.prog T24 (fun _ => true) (fnOf Try.prog 24) [.int .i64 a0, .int .i64 a1, .int .i64 a2, .agg #[.int .i64 a3, .int .i64 a4, .int .i64 a5], .agg #[.int .i64 a6, .int .i64 a7, .int .i64 a8]] (kks (fnOf Try.prog 24).results.toList Try.prog []) = t24 m a0 a1 a2 a3 a4 a5 a6 a7 a8 := by kernel_rfl
theorem told24 (m : Nat) (a0 : Int) (a1 : Int) (a2 : Int) (a3 : Int) (a4 : Int) (a5 : Int) (a6 : Int) (a7 : Int) (a8 : Int) {v : Value} (h : t24 m a0 a1 a2 a3 a4 a5 a6 a7 a8 = some v) (hv : plainT v = true) : ToldOk Try.prog 24 [.int .i64 a0, .int .i64 a1, .int .i64 a2, .agg #[.int .i64 a3, .int .i64 a4, .int .i64 a5], .agg #[.int .i64 a6, .int .i64 a7, .int .i64 a8]] v :=
  told_road' (S := []) Seat.mix Seat.names T24_right (by kernel_rfl) (by kernel_rfl) (by kernel_rfl)
    all0 ((G24 m a0 a1 a2 a3 a4 a5 a6 a7 a8).trans h) rfl hv

theorem spec24 (a0 : Int) (a1 : Int) (a2 : Int) (a3 : Int) (a4 : Int) (a5 : Int) (a6 : Int) (a7 : Int) (a8 : Int) : ∃ m, t24 m a0 a1 a2 a3 a4 a5 a6 a7 a8 = some (.tuple #[.int .i64 (intV a0 a1 a2 a3 a4 a5 a6 a7 a8), .bool (intOk a0 a1 a2 a3 a4 a5 a6 a7 a8)]) := by
  refine ⟨0, ?_⟩
  unfold t24 intV intOk
  by_cases c1 : a1 < 0
  · simp [c1, show ¬ (0 ≤ a1 ∧ a1 ≤ 5000) by omega]
  by_cases c2 : a1 > 5000
  · simp [c1, c2, show ¬ (0 ≤ a1 ∧ a1 ≤ 5000) by omega]
  have hd := daysN_le a2 a3 a4 a5 a6 a7 a8
  have hp : perN a2 = 360 ∨ perN a2 = 365 := by unfold perN; split <;> simp
  have hm := Int.mul_le_mul_of_nonneg_left (show daysN a2 a3 a4 a5 a6 a7 a8 ≤ 10000000 by omega) (show 0 ≤ a1 by omega)
  have hm' := Int.mul_le_mul_of_nonneg_left (show -10000000 ≤ daysN a2 a3 a4 a5 a6 a7 a8 by omega) (show 0 ≤ a1 by omega)
  simp only [c1, c2, decide_false, cond_false, show 0 ≤ a1 ∧ a1 ≤ 5000 by omega, and_self, if_true, decide_true, Bool.true_and]
  rw [wr (n := a1 * daysN a2 a3 a4 a5 a6 a7 a8) (by omega) (by omega), wr (n := 10000 * perN a2) (by omega) (by omega)]

theorem right24 : EntRight Try.prog 24 e24 := ent_right (by
  intro xs v h
  unfold q24 at h
  split at h
  · rename_i a0 a1 a2 a3 a4 a5 a6 a7 a8
    simp only [Option.some.injEq, Prod.mk.injEq, true_and] at h
    obtain rfl := h
    obtain ⟨m, hm⟩ := spec24 a0 a1 a2 a3 a4 a5 a6 a7 a8
    exact told24 m a0 a1 a2 a3 a4 a5 a6 a7 a8 hm rfl
  · cases h)

end Go.Proofs.Ytibgpjahjdgepaa
