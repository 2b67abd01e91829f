/- Chapter 2's functions, as they are answered by the program and by the document: one date for both. Conditions: none. -/
import Derived.Test.YtlnnlkjjgenddaaS
import Derived.Test.YtlnnlkjjgenddaaE23
namespace Go.Proofs.Ytlnnlkjjgenddaa
open Go Go.Proofs.Ytlnnlkjjgenddaa.Ev
set_option linter.unusedVariables false
set_option linter.unusedSimpArgs false
set_option linter.unnecessarySimpa false

theorem wr {n : Int} (h1 : -9223372036854775808 ≤ n) (h2 : n ≤ 9223372036854775807) : IntKind.i64.wrap n = n := by rw [IntKind.wrap_i64]; omega
theorem td {a : Int} (b : Int) (h : 0 ≤ a) : a.tdiv b = a / b := Int.tdiv_eq_ediv_of_nonneg h
theorem tm {a : Int} (b : Int) (h : 0 ≤ a) : a.tmod b = a % b := Int.tmod_eq_emod_of_nonneg h

def leap (y : Int) : Bool := y.tmod 4 == 0 && (y.tmod 100 != 0 || y.tmod 400 == 0)

def q34 : List Sc → Option (Bool × Value)
  | [.i a0] => some (true, .bool (leap a0))
  | _ => none
def e34 : List Value → Option (Bool × Value) := entOf [.int .i64] q34

/-! cascade/civil.leap -/
def t34 (m : Nat) (a0 : Int) : Option Value :=
  bif (a0.tmod 4) == 0 then
   bif (a0.tmod 100) != 0 then
    some (.bool true)
   else
    some (.bool ((a0.tmod 400) == 0))
  else
   some (.bool false)
def T34 : Tab := tabOf []
theorem T34_right : Known.right Try.prog T34 := tab_right all0
theorem G34 (m : Nat) (a0 : Int) : roadIn Try.prog T34 (fun _ => true) (fnOf Try.prog 34) [.int .i64 a0] (kks (fnOf Try.prog 34).results.toList Try.prog []) = t34 m a0 := by kernel_rfl
theorem told34 (m : Nat) (a0 : Int) {v : Value} (h : t34 m a0 = some v) (hv : plainT v = true) : ToldOk Try.prog 34 [.int .i64 a0] v :=
  told_road' (S := []) Seat.mix Seat.names T34_right (by kernel_rfl) (by kernel_rfl) (by kernel_rfl)
    all0 ((G34 m a0).trans h) rfl hv

theorem spec34 (a0 : Int) : ∃ m, t34 m a0 = some (.bool (leap a0)) := by
  refine ⟨0, ?_⟩
  unfold t34 leap
  cases (a0.tmod 4 == 0) <;> cases (a0.tmod 100 != 0) <;> rfl

theorem right34 : EntRight Try.prog 34 e34 := ent_right (by
  intro xs v h
  unfold q34 at h
  split at h
  · rename_i a0
    simp only [Option.some.injEq, Prod.mk.injEq, true_and] at h
    obtain rfl := h
    obtain ⟨m, hm⟩ := spec34 a0
    exact told34 m a0 hm rfl
  · cases h)


def q35 : List Sc → Option (Bool × Value)
  | [.i a0] => some (true, .bool (leap a0))
  | _ => none
def e35 : List Value → Option (Bool × Value) := entOf [.int .i64] q35

/-! cascade/cascaderef1.leap -/
def t35 (m : Nat) (a0 : Int) : Option Value :=
  bif (a0.tmod 4) == 0 then
   bif (a0.tmod 100) != 0 then
    some (.bool true)
   else
    some (.bool ((a0.tmod 400) == 0))
  else
   some (.bool false)
def T35 : Tab := tabOf []
theorem T35_right : Known.right Try.prog T35 := tab_right all0
theorem G35 (m : Nat) (a0 : Int) : roadIn Try.prog T35 (fun _ => true) (fnOf Try.prog 35) [.int .i64 a0] (kks (fnOf Try.prog 35).results.toList Try.prog []) = t35 m a0 := by kernel_rfl
theorem told35 (m : Nat) (a0 : Int) {v : Value} (h : t35 m a0 = some v) (hv : plainT v = true) : ToldOk Try.prog 35 [.int .i64 a0] v :=
  told_road' (S := []) Seat.mix Seat.names T35_right (by kernel_rfl) (by kernel_rfl) (by kernel_rfl)
    all0 ((G35 m a0).trans h) rfl hv

theorem spec35 (a0 : Int) : ∃ m, t35 m a0 = some (.bool (leap a0)) := by
  refine ⟨0, ?_⟩
  unfold t35 leap
  cases (a0.tmod 4 == 0) <;> cases (a0.tmod 100 != 0) <;> rfl

theorem right35 : EntRight Try.prog 35 e35 := ent_right (by
  intro xs v h
  unfold q35 at h
  split at h
  · rename_i a0
    simp only [Option.some.injEq, Prod.mk.injEq, true_and] at h
    obtain rfl := h
    obtain ⟨m, hm⟩ := spec35 a0
    exact told35 m a0 hm rfl
  · cases h)

def lastDay (y m : Int) : Int :=
  if y < 1 ∨ y > 9999 ∨ m < 1 ∨ m > 12 then 0
  else if m = 2 then (if leap y then 29 else 28)
  else if m = 4 ∨ m = 6 ∨ m = 9 ∨ m = 11 then 30 else 31
theorem lastDay_le (y m : Int) : 0 ≤ lastDay y m ∧ lastDay y m ≤ 31 := by
  unfold lastDay; repeat' split
  all_goals omega

def q16 : List Sc → Option (Bool × Value)
  | [.i a0, .i a1] => some (true, .int .i64 (lastDay a0 a1))
  | _ => none
def e16 : List Value → Option (Bool × Value) := entOf [.int .i64, .int .i64] q16

/-! cascade/civil.Last -/
def t16 (m : Nat) (a0 : Int) (a1 : Int) : Option Value :=
  bif decide (a0 < 1) then
   some (.int .i64 0)
  else
   bif decide (a0 > 9999) then
    some (.int .i64 0)
   else
    bif decide (a1 < 1) then
     some (.int .i64 0)
    else
     bif decide (a1 > 12) then
      some (.int .i64 0)
     else
      bif a1 == 2 then
       bif (leap a0) then
        some (.int .i64 29)
       else
        bif a1 == 2 then
         some (.int .i64 28)
        else
         bif a1 == 4 then
          some (.int .i64 30)
         else
          bif a1 == 6 then
           some (.int .i64 30)
          else
           bif a1 == 9 then
            some (.int .i64 30)
           else
            bif a1 == 11 then
             some (.int .i64 30)
            else
             some (.int .i64 31)
      else
       bif a1 == 2 then
        some (.int .i64 28)
       else
        bif a1 == 4 then
         some (.int .i64 30)
        else
         bif a1 == 6 then
          some (.int .i64 30)
         else
          bif a1 == 9 then
           some (.int .i64 30)
          else
           bif a1 == 11 then
            some (.int .i64 30)
           else
            some (.int .i64 31)
def T16 : Tab := tabOf [(34, e34)]
theorem T16_right : Known.right Try.prog T16 := tab_right (all1 right34 all0)
theorem G16 (m : Nat) (a0 : Int) (a1 : Int) : roadIn Try.prog T16 (fun _ => true) (fnOf Try.prog 16) [.int .i64 a0, .int .i64 a1] (kks (fnOf Try.prog 16).results.toList Try.prog []) = t16 m a0 a1 := by kernel_rfl
theorem told16 (m : Nat) (a0 : Int) (a1 : Int) {v : Value} (h : t16 m a0 a1 = some v) (hv : plainT v = true) : ToldOk Try.prog 16 [.int .i64 a0, .int .i64 a1] v :=
  told_road' (S := []) Seat.mix Seat.names T16_right (by kernel_rfl) (by kernel_rfl) (by kernel_rfl)
    all0 ((G16 m a0 a1).trans h) rfl hv

theorem spec16 (a0 : Int) (a1 : Int) : ∃ m, t16 m a0 a1 = some (.int .i64 (lastDay a0 a1)) := by
  refine ⟨0, ?_⟩
  unfold t16 lastDay
  simp only [beq_iff_eq, Bool.cond_eq_ite]
  grind

theorem right16 : EntRight Try.prog 16 e16 := ent_right (by
  intro xs v h
  unfold q16 at h
  split at h
  · rename_i a0 a1
    simp only [Option.some.injEq, Prod.mk.injEq, true_and] at h
    obtain rfl := h
    obtain ⟨m, hm⟩ := spec16 a0 a1
    exact told16 m a0 a1 hm rfl
  · cases h)


def q20 : List Sc → Option (Bool × Value)
  | [.i a0, .i a1] => some (true, .int .i64 (lastDay a0 a1))
  | _ => none
def e20 : List Value → Option (Bool × Value) := entOf [.int .i64, .int .i64] q20

/-! cascade/cascaderef1.Last -/
def t20 (m : Nat) (a0 : Int) (a1 : Int) : Option Value :=
  bif decide (a0 < 1) then
   some (.int .i64 0)
  else
   bif decide (a0 > 9999) then
    some (.int .i64 0)
   else
    bif decide (a1 < 1) then
     some (.int .i64 0)
    else
     bif decide (a1 > 12) then
      some (.int .i64 0)
     else
      bif a1 == 2 then
       bif (leap a0) then
        some (.int .i64 29)
       else
        bif a1 == 2 then
         some (.int .i64 28)
        else
         bif a1 == 4 then
          some (.int .i64 30)
         else
          bif a1 == 6 then
           some (.int .i64 30)
          else
           bif a1 == 9 then
            some (.int .i64 30)
           else
            bif a1 == 11 then
             some (.int .i64 30)
            else
             some (.int .i64 31)
      else
       bif a1 == 2 then
        some (.int .i64 28)
       else
        bif a1 == 4 then
         some (.int .i64 30)
        else
         bif a1 == 6 then
          some (.int .i64 30)
         else
          bif a1 == 9 then
           some (.int .i64 30)
          else
           bif a1 == 11 then
            some (.int .i64 30)
           else
            some (.int .i64 31)
def T20 : Tab := tabOf [(35, e35)]
theorem T20_right : Known.right Try.prog T20 := tab_right (all1 right35 all0)
theorem G20 (m : Nat) (a0 : Int) (a1 : Int) : roadIn Try.prog T20 (fun _ => true) (fnOf Try.prog 20) [.int .i64 a0, .int .i64 a1] (kks (fnOf Try.prog 20).results.toList Try.prog []) = t20 m a0 a1 := by kernel_rfl
theorem told20 (m : Nat) (a0 : Int) (a1 : Int) {v : Value} (h : t20 m a0 a1 = some v) (hv : plainT v = true) : ToldOk Try.prog 20 [.int .i64 a0, .int .i64 a1] v :=
  told_road' (S := []) Seat.mix Seat.names T20_right (by kernel_rfl) (by kernel_rfl) (by kernel_rfl)
    all0 ((G20 m a0 a1).trans h) rfl hv

theorem spec20 (a0 : Int) (a1 : Int) : ∃ m, t20 m a0 a1 = some (.int .i64 (lastDay a0 a1)) := by
  refine ⟨0, ?_⟩
  unfold t20 lastDay
  simp only [beq_iff_eq, Bool.cond_eq_ite]
  grind

theorem right20 : EntRight Try.prog 20 e20 := ent_right (by
  intro xs v h
  unfold q20 at h
  split at h
  · rename_i a0 a1
    simp only [Option.some.injEq, Prod.mk.injEq, true_and] at h
    obtain rfl := h
    obtain ⟨m, hm⟩ := spec20 a0 a1
    exact told20 m a0 a1 hm rfl
  · cases h)

def rightD (y m d : Int) : Bool := decide (d ≥ 1 ∧ d ≤ lastDay y m)
theorem rightD_iff {y m d : Int} : rightD y m d = true ↔ 1 ≤ d ∧ d ≤ lastDay y m := by simp [rightD]
theorem rightD_ym {y m d : Int} (h : rightD y m d = true) : 1 ≤ y ∧ y ≤ 9999 ∧ 1 ≤ m ∧ m ≤ 12 := by
  obtain ⟨h1, h2⟩ := rightD_iff.1 h
  unfold lastDay at h2
  split at h2 <;> omega

def q21 : List Sc → Option (Bool × Value)
  | [.i a0, .i a1, .i a2] => some (true, .bool (rightD a0 a1 a2))
  | _ => none
def e21 : List Value → Option (Bool × Value) := entOf [.agg [some .i64, some .i64, some .i64]] q21

/-! (cascade/civil.Date).Right -/
def t21 (m : Nat) (a0 : Int) (a1 : Int) (a2 : Int) : Option Value :=
  bif decide (a2 ≥ 1) then
   some (.bool (decide (a2 ≤ (lastDay a0 a1))))
  else
   some (.bool false)
def T21 : Tab := tabOf [(16, e16)]
theorem T21_right : Known.right Try.prog T21 := tab_right (all1 right16 all0)
theorem G21 (m : Nat) (a0 : Int) (a1 : Int) (a2 : Int) : roadIn Try.prog T21 (fun _ => true) (fnOf Try.prog 21) [.agg #[.int .i64 a0, .int .i64 a1, .int .i64 a2]] (kks (fnOf Try.prog 21).results.toList Try.prog []) = t21 m a0 a1 a2 := by kernel_rfl
theorem told21 (m : Nat) (a0 : Int) (a1 : Int) (a2 : Int) {v : Value} (h : t21 m a0 a1 a2 = some v) (hv : plainT v = true) : ToldOk Try.prog 21 [.agg #[.int .i64 a0, .int .i64 a1, .int .i64 a2]] v :=
  told_road' (S := []) Seat.mix Seat.names T21_right (by kernel_rfl) (by kernel_rfl) (by kernel_rfl)
    all0 ((G21 m a0 a1 a2).trans h) rfl hv

theorem spec21 (a0 : Int) (a1 : Int) (a2 : Int) : ∃ m, t21 m a0 a1 a2 = some (.bool (rightD a0 a1 a2)) := by
  refine ⟨0, ?_⟩
  unfold t21 rightD
  by_cases h : a2 ≥ 1 <;> simp [h]

theorem right21 : EntRight Try.prog 21 e21 := ent_right (by
  intro xs v h
  unfold q21 at h
  split at h
  · rename_i a0 a1 a2
    simp only [Option.some.injEq, Prod.mk.injEq, true_and] at h
    obtain rfl := h
    obtain ⟨m, hm⟩ := spec21 a0 a1 a2
    exact told21 m a0 a1 a2 hm rfl
  · cases h)


def q22 : List Sc → Option (Bool × Value)
  | [.i a0, .i a1, .i a2] => some (true, .bool (rightD a0 a1 a2))
  | _ => none
def e22 : List Value → Option (Bool × Value) := entOf [.agg [some .i64, some .i64, some .i64]] q22

/-! cascade/cascaderef1.Right -/
def t22 (m : Nat) (a0 : Int) (a1 : Int) (a2 : Int) : Option Value :=
  bif decide (a2 ≥ 1) then
   some (.bool (decide (a2 ≤ (lastDay a0 a1))))
  else
   some (.bool false)
def T22 : Tab := tabOf [(20, e20)]
theorem T22_right : Known.right Try.prog T22 := tab_right (all1 right20 all0)
theorem G22 (m : Nat) (a0 : Int) (a1 : Int) (a2 : Int) : roadIn Try.prog T22 (fun _ => true) (fnOf Try.prog 22) [.agg #[.int .i64 a0, .int .i64 a1, .int .i64 a2]] (kks (fnOf Try.prog 22).results.toList Try.prog []) = t22 m a0 a1 a2 := by kernel_rfl
theorem told22 (m : Nat) (a0 : Int) (a1 : Int) (a2 : Int) {v : Value} (h : t22 m a0 a1 a2 = some v) (hv : plainT v = true) : ToldOk Try.prog 22 [.agg #[.int .i64 a0, .int .i64 a1, .int .i64 a2]] v :=
  told_road' (S := []) Seat.mix Seat.names T22_right (by kernel_rfl) (by kernel_rfl) (by kernel_rfl)
    all0 ((G22 m a0 a1 a2).trans h) rfl hv

theorem spec22 (a0 : Int) (a1 : Int) (a2 : Int) : ∃ m, t22 m a0 a1 a2 = some (.bool (rightD a0 a1 a2)) := by
  refine ⟨0, ?_⟩
  unfold t22 rightD
  by_cases h : a2 ≥ 1 <;> simp [h]

theorem right22 : EntRight Try.prog 22 e22 := ent_right (by
  intro xs v h
  unfold q22 at h
  split at h
  · rename_i a0 a1 a2
    simp only [Option.some.injEq, Prod.mk.injEq, true_and] at h
    obtain rfl := h
    obtain ⟨m, hm⟩ := spec22 a0 a1 a2
    exact told22 m a0 a1 a2 hm rfl
  · cases h)

/-- The days ahead of a year. -/
def ahead0 (y : Int) : Int := (y - 1) * 365 + (y - 1) / 4 - (y - 1) / 100 + (y - 1) / 400
def aheadW (y : Int) : Int :=
  let x1 : Int := (IntKind.i64.wrap (y - 1))
  IntKind.i64.wrap ((IntKind.i64.wrap ((IntKind.i64.wrap ((IntKind.i64.wrap (x1 * 365)) + (IntKind.i64.wrap (x1.tdiv 4)))) - (IntKind.i64.wrap (x1.tdiv 100)))) + (IntKind.i64.wrap (x1.tdiv 400)))
theorem aheadW_eq {y : Int} (h1 : 1 ≤ y) (h2 : y ≤ 20000) : aheadW y = ahead0 y := by
  unfold aheadW ahead0
  rw [wr (n := y - 1) (by omega) (by omega)]
  simp only [td _ (show 0 ≤ y - 1 by omega)]
  rw [wr (n := (y - 1) * 365) (by omega) (by omega), wr (n := (y - 1) / 4) (by omega) (by omega), wr (n := (y - 1) / 100) (by omega) (by omega), wr (n := (y - 1) / 400) (by omega) (by omega)]
  rw [wr (n := (y - 1) * 365 + (y - 1) / 4) (by omega) (by omega), wr (n := (y - 1) * 365 + (y - 1) / 4 - (y - 1) / 100) (by omega) (by omega), wr (by omega) (by omega)]
/-- Is the year leap, as a number? -/
def leapN (y : Int) : Int := if leap y then 1 else 0
theorem leapN_le (y : Int) : 0 ≤ leapN y ∧ leapN y ≤ 1 := by unfold leapN; split <;> omega
theorem leap_iff {y : Int} (h : 1 ≤ y) : leap y = true ↔ (y % 4 = 0 ∧ (y % 100 ≠ 0 ∨ y % 400 = 0)) := by
  unfold leap
  simp [tm _ (show 0 ≤ y by omega)]
theorem ahead_next {y : Int} (h : 1 ≤ y) : ahead0 (y + 1) = ahead0 y + 365 + leapN y := by
  unfold ahead0 leapN
  by_cases hl : leap y = true
  · rw [if_pos hl]; have := (leap_iff h).1 hl; omega
  · rw [if_neg hl]
    have : ¬ (y % 4 = 0 ∧ (y % 100 ≠ 0 ∨ y % 400 = 0)) := fun h' => hl ((leap_iff h).2 h')
    omega
/-- The days of a year ahead of a month. -/
def before (y m : Int) : Int :=
  if m ≤ 1 then 0 else if m = 2 then 31 else if m = 3 then 59 + leapN y else if m = 4 then 90 + leapN y else if m = 5 then 120 + leapN y else if m = 6 then 151 + leapN y
  else if m = 7 then 181 + leapN y else if m = 8 then 212 + leapN y else if m = 9 then 243 + leapN y else if m = 10 then 273 + leapN y else if m = 11 then 304 + leapN y else if m = 12 then 334 + leapN y else 365 + leapN y
theorem month_cases {m : Int} (h1 : 1 ≤ m) (h2 : m ≤ 12) : m = 1 ∨ m = 2 ∨ m = 3 ∨ m = 4 ∨ m = 5 ∨ m = 6 ∨ m = 7 ∨ m = 8 ∨ m = 9 ∨ m = 10 ∨ m = 11 ∨ m = 12 := by omega
theorem before_next {y m : Int} (hy : 1 ≤ y) (hy' : y ≤ 9999) (h1 : 1 ≤ m) (h2 : m ≤ 12) : before y (m + 1) = before y m + lastDay y m := by
  have := leapN_le y
  unfold before lastDay
  rw [if_neg (by omega)]
  unfold leapN
  rcases month_cases h1 h2 with rfl | rfl | rfl | rfl | rfl | rfl | rfl | rfl | rfl | rfl | rfl | rfl <;> simp [show ¬ y < 1 by omega, show ¬ 9999 < y by omega] <;> (try split) <;> omega
theorem before_le {y m : Int} : 0 ≤ before y m ∧ before y m ≤ 366 := by
  have := leapN_le y
  by_cases h1 : m ≤ 1
  · simp [before, h1]
  by_cases h2 : m ≤ 12
  · rcases month_cases (by omega) h2 with rfl | rfl | rfl | rfl | rfl | rfl | rfl | rfl | rfl | rfl | rfl | rfl <;> simp [before] <;> omega
  · have : before y m = 365 + leapN y := by
      simp [before, h1, show m ≠ 2 by omega, show m ≠ 3 by omega, show m ≠ 4 by omega, show m ≠ 5 by omega, show m ≠ 6 by omega, show m ≠ 7 by omega, show m ≠ 8 by omega, show m ≠ 9 by omega, show m ≠ 10 by omega, show m ≠ 11 by omega, show m ≠ 12 by omega]
    omega

def q33 : List Sc → Option (Bool × Value)
  | [.i a0] => some (true, .int .i64 (aheadW a0))
  | _ => none
def e33 : List Value → Option (Bool × Value) := entOf [.int .i64] q33

/-! cascade/civil.ahead -/
def t33 (m : Nat) (a0 : Int) : Option Value :=
  let x1 : Int := (IntKind.i64.wrap (a0 - 1))
  some (.int .i64 (IntKind.i64.wrap ((IntKind.i64.wrap ((IntKind.i64.wrap ((IntKind.i64.wrap (x1 * 365)) + (IntKind.i64.wrap (x1.tdiv 4)))) - (IntKind.i64.wrap (x1.tdiv 100)))) + (IntKind.i64.wrap (x1.tdiv 400)))))
def T33 : Tab := tabOf []
theorem T33_right : Known.right Try.prog T33 := tab_right all0
theorem G33 (m : Nat) (a0 : Int) : roadIn Try.prog T33 (fun _ => true) (fnOf Try.prog 33) [.int .i64 a0] (kks (fnOf Try.prog 33).results.toList Try.prog []) = t33 m a0 := by kernel_rfl
theorem told33 (m : Nat) (a0 : Int) {v : Value} (h : t33 m a0 = some v) (hv : plainT v = true) : ToldOk Try.prog 33 [.int .i64 a0] v :=
  told_road' (S := []) Seat.mix Seat.names T33_right (by kernel_rfl) (by kernel_rfl) (by kernel_rfl)
    all0 ((G33 m a0).trans h) rfl hv

theorem spec33 (a0 : Int) : ∃ m, t33 m a0 = some (.int .i64 (aheadW a0)) := by
  exact ⟨0, rfl⟩

theorem right33 : EntRight Try.prog 33 e33 := ent_right (by
  intro xs v h
  unfold q33 at h
  split at h
  · rename_i a0
    simp only [Option.some.injEq, Prod.mk.injEq, true_and] at h
    obtain rfl := h
    obtain ⟨m, hm⟩ := spec33 a0
    exact told33 m a0 hm rfl
  · cases h)

/-- The days since the first of the first year; -1: there is no such date. -/
def number (y m d : Int) : Int := if rightD y m d then ahead0 y + before y m + d - 1 else -1

def q13 : List Sc → Option (Bool × Value)
  | [.i a0, .i a1, .i a2] => some (true, .int .i64 (number a0 a1 a2))
  | _ => none
def e13 : List Value → Option (Bool × Value) := entOf [.agg [some .i64, some .i64, some .i64]] q13

/-! (cascade/civil.Date).Number -/
def L13_0s (m : Nat) (k : List Sc → Option Value) : List Sc → Option Value
  | [.i a0, .i a1, .i a2, .i a3, .i a4] =>
    bif decide (a1 < a3) then
     k [.i (IntKind.i64.wrap (a0 + (lastDay a2 a1))), .i (IntKind.i64.wrap (a1 + 1)), .i a2, .i a3, .i a4]
    else
     some (.int .i64 a0)
  | _ => none
def L13_0 (m : Nat) : Nat → List Sc → Option Value := iter (L13_0s m)
theorem L13_0_succ (m : Nat) (n : Nat) : L13_0 m (n + 1) = L13_0s m (L13_0 m n) := rfl
def S13_0 (F : List Sc → Option Value) : Stop := ⟨[.lp [0, 1, 0, 1, 1, 1], .blk 0, .code [1, 1, 1, 1]], ⟨28, [(1, .lit (.pointer (some ⟨0, 0, none⟩))), (3, .int .i64), (4, .int .i64)], 1, (.n (some [.int .i64, .int .i64, .int .i64]) .e .e)⟩, F⟩
def t13 (m : Nat) (a0 : Int) (a1 : Int) (a2 : Int) : Option Value :=
  bif !(rightD a0 a1 a2) then
   some (.int .i64 (-1))
  else
   L13_0 m m [.i (IntKind.i64.wrap ((IntKind.i64.wrap ((aheadW a0) + a2)) - 1)), .i 1, .i a0, .i a1, .i a2]
def T13 : Tab := tabOf [(16, e16), (21, e21), (33, e33)]
theorem T13_right : Known.right Try.prog T13 := tab_right (all1 right16 (all1 right21 (all1 right33 all0)))
theorem G13_0 (m : Nat) (k : List Sc → Option Value) (g : Nat → Value) (a0 : Int) (a1 : Int) (a2 : Int) (a3 : Int) (a4 : Int) : roadFrom Try.prog T13 (fun _ => true) (bodyOf (fnOf Try.prog 13)) [0, 1, 0, 1, 1, 1] [.blk 0, .code [1, 1, 1, 1]] (S13_0 k).pat g [.i a0, .i a1, .i a2, .i a3, .i a4] (kks (fnOf Try.prog 13).results.toList Try.prog [S13_0 k]) = L13_0s m k [.i a0, .i a1, .i a2, .i a3, .i a4] := by kernel_rfl
theorem Y13_0 {m : Nat} {k : List Sc → Option Value} {xs : List Sc} {v : Value} (h : L13_0s m k xs = some v) : ∃ a0 a1 a2 a3 a4, xs = [.i a0, .i a1, .i a2, .i a3, .i a4] := by
  unfold L13_0s at h
  split at h
  · exact ⟨_, _, _, _, _, rfl⟩
  · cases h
theorem H13_0 (m : Nat) : ∀ n, (S13_0 (L13_0 m n)).Holds Try.prog [] (ofTab T13) (fnOf Try.prog 13).results.toList (bodyOf (fnOf Try.prog 13)) :=
  Stop.iter (mk := S13_0) (Fs := L13_0s m) (S := fun k => [S13_0 k]) (p := [0, 1, 0, 1, 1, 1]) (rest := [.blk 0, .code [1, 1, 1, 1]]) (pat := (S13_0 (fun _ => none)).pat) (stop := fun _ => true)
    (fun _ => rfl) (fun _ => rfl) (fun _ => rfl) (by kernel_rfl) (by kernel_rfl)
    (fun k h => (all1 h all0))
    (fun k g xs v h => by
      obtain ⟨a0, a1, a2, a3, a4, rfl⟩ := Y13_0 h
      exact (G13_0 m k g a0 a1 a2 a3 a4).trans h)
theorem G13 (m : Nat) (a0 : Int) (a1 : Int) (a2 : Int) : roadIn Try.prog T13 (fun _ => true) (fnOf Try.prog 13) [.agg #[.int .i64 a0, .int .i64 a1, .int .i64 a2]] (kks (fnOf Try.prog 13).results.toList Try.prog [S13_0 (L13_0 m m)]) = t13 m a0 a1 a2 := by kernel_rfl
theorem told13 (m : Nat) (a0 : Int) (a1 : Int) (a2 : Int) {v : Value} (h : t13 m a0 a1 a2 = some v) (hv : plainT v = true) : ToldOk Try.prog 13 [.agg #[.int .i64 a0, .int .i64 a1, .int .i64 a2]] v :=
  told_road' (S := [S13_0 (L13_0 m m)]) Seat.mix Seat.names T13_right (by kernel_rfl) (by kernel_rfl) (by kernel_rfl)
    (all1 (H13_0 m m) all0) ((G13 m a0 a1 a2).trans h) rfl hv

theorem spec13 (a0 : Int) (a1 : Int) (a2 : Int) : ∃ m, t13 m a0 a1 a2 = some (.int .i64 (number a0 a1 a2)) := by
  refine ⟨13, ?_⟩
  have key : ∀ (k : Nat) (j a : Int), rightD a0 a1 a2 = true → 1 ≤ j → j ≤ a1 → a1 - j < k → 0 ≤ a → a ≤ 100000000 + 31 * j → L13_0 13 k [.i a, .i j, .i a0, .i a1, .i a2] = some (.int .i64 (a + before a0 a1 - before a0 j)) := by
    intro k
    induction k with
    | zero => intro j a hr h1 h2 h3 h4 h5; omega
    | succ k ih =>
      intro j a hr h1 h2 h3 h4 h5
      obtain ⟨hy1, hy2, hm1, hm2⟩ := rightD_ym hr
      have hl := lastDay_le a0 j
      rw [L13_0_succ]; unfold L13_0s
      by_cases hj : j < a1
      · simp only [hj, decide_true, cond_true]
        rw [wr (n := a + lastDay a0 j) (by omega) (by omega), wr (n := j + 1) (by omega) (by omega), ih _ _ hr (by omega) (by omega) (by omega) (by omega) (by omega), before_next hy1 hy2 h1 (by omega)]
        congr 2; omega
      · have : j = a1 := by omega
        subst this
        simp only [hj, decide_false, cond_false]
        congr 2; omega
  unfold t13 number
  by_cases hr : rightD a0 a1 a2 = true
  · obtain ⟨hy1, hy2, hm1, hm2⟩ := rightD_ym hr
    obtain ⟨hd1, hd2⟩ := rightD_iff.1 hr
    have := lastDay_le a0 a1
    have ha : 0 ≤ ahead0 a0 ∧ ahead0 a0 ≤ 10000000 := by unfold ahead0; omega
    rw [hr, if_pos rfl, aheadW_eq hy1 (by omega), wr (n := ahead0 a0 + a2) (by omega) (by omega), wr (n := ahead0 a0 + a2 - 1) (by omega) (by omega)]
    simp only [Bool.not_true, cond_false]
    rw [key 13 1 _ hr (by omega) hm1 (by omega) (by omega) (by omega)]
    simp only [before]
    congr 2
    simp
    omega
  · simp only [Bool.not_eq_true] at hr
    simp [hr]

theorem right13 : EntRight Try.prog 13 e13 := ent_right (by
  intro xs v h
  unfold q13 at h
  split at h
  · rename_i a0 a1 a2
    simp only [Option.some.injEq, Prod.mk.injEq, true_and] at h
    obtain rfl := h
    obtain ⟨m, hm⟩ := spec13 a0 a1 a2
    exact told13 m a0 a1 a2 hm rfl
  · cases h)


def q23 : List Sc → Option (Bool × Value)
  | [.i a0, .i a1, .i a2] => some (true, .int .i64 (number a0 a1 a2))
  | _ => none
def e23 : List Value → Option (Bool × Value) := entOf [.agg [some .i64, some .i64, some .i64]] q23

/-! cascade/cascaderef1.Number -/
def L23_0s (m : Nat) (k : List Sc → Option Value) : List Sc → Option Value
  | [.i a0, .i a1, .i a2, .i a3, .i a4] =>
    bif decide (a1 < a3) then
     k [.i (IntKind.i64.wrap (a0 + (lastDay a2 a1))), .i (IntKind.i64.wrap (a1 + 1)), .i a2, .i a3, .i a4]
    else
     some (.int .i64 (IntKind.i64.wrap ((IntKind.i64.wrap (a0 + a4)) - 1)))
  | _ => none
def L23_0 (m : Nat) : Nat → List Sc → Option Value := iter (L23_0s m)
theorem L23_0_succ (m : Nat) (n : Nat) : L23_0 m (n + 1) = L23_0s m (L23_0 m n) := rfl
def S23_0 (F : List Sc → Option Value) : Stop := ⟨[.lp [0, 1, 0, 1, 1, 1, 1], .blk 0, .code [1, 1, 1, 1, 1]], ⟨40, [(1, .lit (.pointer (some ⟨0, 0, none⟩))), (4, .int .i64), (5, .int .i64)], 1, (.n (some [.int .i64, .int .i64, .int .i64]) .e .e)⟩, F⟩
def t23 (m : Nat) (a0 : Int) (a1 : Int) (a2 : Int) : Option Value :=
  bif !(rightD a0 a1 a2) then
   some (.int .i64 (-1))
  else
   let x1 : Int := (IntKind.i64.wrap (a0 - 1))
   L23_0 m m [.i (IntKind.i64.wrap ((IntKind.i64.wrap ((IntKind.i64.wrap ((IntKind.i64.wrap (365 * x1)) + (IntKind.i64.wrap (x1.tdiv 4)))) - (IntKind.i64.wrap (x1.tdiv 100)))) + (IntKind.i64.wrap (x1.tdiv 400)))), .i 1, .i a0, .i a1, .i a2]
def T23 : Tab := tabOf [(20, e20), (22, e22)]
theorem T23_right : Known.right Try.prog T23 := tab_right (all1 right20 (all1 right22 all0))
theorem G23_0 (m : Nat) (k : List Sc → Option Value) (g : Nat → Value) (a0 : Int) (a1 : Int) (a2 : Int) (a3 : Int) (a4 : Int) : roadFrom Try.prog T23 (fun _ => true) (bodyOf (fnOf Try.prog 23)) [0, 1, 0, 1, 1, 1, 1] [.blk 0, .code [1, 1, 1, 1, 1]] (S23_0 k).pat g [.i a0, .i a1, .i a2, .i a3, .i a4] (kks (fnOf Try.prog 23).results.toList Try.prog [S23_0 k]) = L23_0s m k [.i a0, .i a1, .i a2, .i a3, .i a4] := by kernel_rfl
theorem Y23_0 {m : Nat} {k : List Sc → Option Value} {xs : List Sc} {v : Value} (h : L23_0s m k xs = some v) : ∃ a0 a1 a2 a3 a4, xs = [.i a0, .i a1, .i a2, .i a3, .i a4] := by
  unfold L23_0s at h
  split at h
  · exact ⟨_, _, _, _, _, rfl⟩
  · cases h
theorem H23_0 (m : Nat) : ∀ n, (S23_0 (L23_0 m n)).Holds Try.prog [] (ofTab T23) (fnOf Try.prog 23).results.toList (bodyOf (fnOf Try.prog 23)) :=
  Stop.iter (mk := S23_0) (Fs := L23_0s m) (S := fun k => [S23_0 k]) (p := [0, 1, 0, 1, 1, 1, 1]) (rest := [.blk 0, .code [1, 1, 1, 1, 1]]) (pat := (S23_0 (fun _ => none)).pat) (stop := fun _ => true)
    (fun _ => rfl) (fun _ => rfl) (fun _ => rfl) (by kernel_rfl) (by kernel_rfl)
    (fun k h => (all1 h all0))
    (fun k g xs v h => by
      obtain ⟨a0, a1, a2, a3, a4, rfl⟩ := Y23_0 h
      exact (G23_0 m k g a0 a1 a2 a3 a4).trans h)
theorem G23 (m : Nat) (a0 : Int) (a1 : Int) (a2 : Int) : roadIn Try.prog T23 (fun _ => true) (fnOf Try.prog 23) [.agg #[.int .i64 a0, .int .i64 a1, .int .i64 a2]] (kks (fnOf Try.prog 23).results.toList Try.prog [S23_0 (L23_0 m m)]) = t23 m a0 a1 a2 := by kernel_rfl
theorem told23 (m : Nat) (a0 : Int) (a1 : Int) (a2 : Int) {v : Value} (h : t23 m a0 a1 a2 = some v) (hv : plainT v = true) : ToldOk Try.prog 23 [.agg #[.int .i64 a0, .int .i64 a1, .int .i64 a2]] v :=
  told_road' (S := [S23_0 (L23_0 m m)]) Seat.mix Seat.names T23_right (by kernel_rfl) (by kernel_rfl) (by kernel_rfl)
    (all1 (H23_0 m m) all0) ((G23 m a0 a1 a2).trans h) rfl hv

theorem spec23 (a0 : Int) (a1 : Int) (a2 : Int) : ∃ m, t23 m a0 a1 a2 = some (.int .i64 (number a0 a1 a2)) := by
  refine ⟨13, ?_⟩
  have key : ∀ (k : Nat) (j a : Int), rightD a0 a1 a2 = true → 1 ≤ j → j ≤ a1 → a1 - j < k → 0 ≤ a → a ≤ 100000000 + 31 * j → L23_0 13 k [.i a, .i j, .i a0, .i a1, .i a2] = some (.int .i64 (a + before a0 a1 - before a0 j + a2 - 1)) := by
    intro k
    induction k with
    | zero => intro j a hr h1 h2 h3 h4 h5; omega
    | succ k ih =>
      intro j a hr h1 h2 h3 h4 h5
      obtain ⟨hy1, hy2, hm1, hm2⟩ := rightD_ym hr
      obtain ⟨hd1, hd2⟩ := rightD_iff.1 hr
      have := lastDay_le a0 a1
      have hl := lastDay_le a0 j
      rw [L23_0_succ]; unfold L23_0s
      by_cases hj : j < a1
      · simp only [hj, decide_true, cond_true]
        rw [wr (n := a + lastDay a0 j) (by omega) (by omega), wr (n := j + 1) (by omega) (by omega), ih _ _ hr (by omega) (by omega) (by omega) (by omega) (by omega), before_next hy1 hy2 h1 (by omega)]
        congr 2; omega
      · have : j = a1 := by omega
        subst this
        simp only [hj, decide_false, cond_false]
        rw [wr (n := a + a2) (by omega) (by omega), wr (n := a + a2 - 1) (by omega) (by omega)]
        congr 2; omega
  unfold t23 number
  by_cases hr : rightD a0 a1 a2 = true
  · obtain ⟨hy1, hy2, hm1, hm2⟩ := rightD_ym hr
    obtain ⟨hd1, hd2⟩ := rightD_iff.1 hr
    have := lastDay_le a0 a1
    have ha : 0 ≤ ahead0 a0 ∧ ahead0 a0 ≤ 10000000 := by unfold ahead0; omega
    rw [hr, if_pos rfl]
    simp only [Bool.not_true, cond_false]
    rw [wr (n := a0 - 1) (by omega) (by omega)]
    simp only [td _ (show 0 ≤ a0 - 1 by omega)]
    rw [wr (n := 365 * (a0 - 1)) (by omega) (by omega), wr (n := (a0 - 1) / 4) (by omega) (by omega), wr (n := (a0 - 1) / 100) (by omega) (by omega), wr (n := (a0 - 1) / 400) (by omega) (by omega)]
    rw [wr (n := 365 * (a0 - 1) + (a0 - 1) / 4) (by omega) (by omega), wr (n := 365 * (a0 - 1) + (a0 - 1) / 4 - (a0 - 1) / 100) (by omega) (by omega), wr (n := 365 * (a0 - 1) + (a0 - 1) / 4 - (a0 - 1) / 100 + (a0 - 1) / 400) (by omega) (by omega)]
    have hb : before a0 1 = 0 := by simp [before]
    have he : 365 * (a0 - 1) + (a0 - 1) / 4 - (a0 - 1) / 100 + (a0 - 1) / 400 = ahead0 a0 := by unfold ahead0; omega
    rw [he, key 13 1 _ hr (by omega) hm1 (by omega) (by omega) (by omega), hb]
    congr 2
    omega
  · simp only [Bool.not_eq_true] at hr
    simp [hr]

theorem right23 : EntRight Try.prog 23 e23 := ent_right (by
  intro xs v h
  unfold q23 at h
  split at h
  · rename_i a0 a1 a2
    simp only [Option.some.injEq, Prod.mk.injEq, true_and] at h
    obtain rfl := h
    obtain ⟨m, hm⟩ := spec23 a0 a1 a2
    exact told23 m a0 a1 a2 hm rfl
  · cases h)


def q17 : List Sc → Option (Bool × Value)
  | [.i a0, .i a1, .i a2, .i a3, .i a4, .i a5] => some (true, .bool (decide (number a0 a1 a2 < number a3 a4 a5)))
  | _ => none
def e17 : List Value → Option (Bool × Value) := entOf [.agg [some .i64, some .i64, some .i64], .agg [some .i64, some .i64, some .i64]] q17

/-! (cascade/civil.Date).Before -/
def t17 (m : Nat) (a0 : Int) (a1 : Int) (a2 : Int) (a3 : Int) (a4 : Int) (a5 : Int) : Option Value :=
  some (.bool (decide ((number a0 a1 a2) < (number a3 a4 a5))))
def T17 : Tab := tabOf [(13, e13)]
theorem T17_right : Known.right Try.prog T17 := tab_right (all1 right13 all0)
theorem G17 (m : Nat) (a0 : Int) (a1 : Int) (a2 : Int) (a3 : Int) (a4 : Int) (a5 : Int) : roadIn Try.prog T17 (fun _ => true) (fnOf Try.prog 17) [.agg #[.int .i64 a0, .int .i64 a1, .int .i64 a2], .agg #[.int .i64 a3, .int .i64 a4, .int .i64 a5]] (kks (fnOf Try.prog 17).results.toList Try.prog []) = t17 m a0 a1 a2 a3 a4 a5 := by kernel_rfl
theorem told17 (m : Nat) (a0 : Int) (a1 : Int) (a2 : Int) (a3 : Int) (a4 : Int) (a5 : Int) {v : Value} (h : t17 m a0 a1 a2 a3 a4 a5 = some v) (hv : plainT v = true) : ToldOk Try.prog 17 [.agg #[.int .i64 a0, .int .i64 a1, .int .i64 a2], .agg #[.int .i64 a3, .int .i64 a4, .int .i64 a5]] v :=
  told_road' (S := []) Seat.mix Seat.names T17_right (by kernel_rfl) (by kernel_rfl) (by kernel_rfl)
    all0 ((G17 m a0 a1 a2 a3 a4 a5).trans h) rfl hv

theorem spec17 (a0 : Int) (a1 : Int) (a2 : Int) (a3 : Int) (a4 : Int) (a5 : Int) : ∃ m, t17 m a0 a1 a2 a3 a4 a5 = some (.bool (decide (number a0 a1 a2 < number a3 a4 a5))) := by
  exact ⟨0, rfl⟩

theorem right17 : EntRight Try.prog 17 e17 := ent_right (by
  intro xs v h
  unfold q17 at h
  split at h
  · rename_i a0 a1 a2 a3 a4 a5
    simp only [Option.some.injEq, Prod.mk.injEq, true_and] at h
    obtain rfl := h
    obtain ⟨m, hm⟩ := spec17 a0 a1 a2 a3 a4 a5
    exact told17 m a0 a1 a2 a3 a4 a5 hm rfl
  · cases h)

/-- The year in which a day is. -/
def findY (n : Int) : Nat → Int → Int
  | 0, y => y
  | k + 1, y => if ahead0 (y + 1) ≤ n then findY n k (y + 1) else y
def yearOf (n : Int) : Int := findY n 10000 (n / 366 + 1)
def rightN (n : Int) : Bool := decide (0 ≤ n ∧ n < 3652059)
def monthOf (n : Int) : Int :=
  let r := n - ahead0 (yearOf n); let l := leapN (yearOf n)
  if r < 31 then 1 else if r < 59 + l then 2 else if r < 90 + l then 3 else if r < 120 + l then 4 else if r < 151 + l then 5 else if r < 181 + l then 6
  else if r < 212 + l then 7 else if r < 243 + l then 8 else if r < 273 + l then 9 else if r < 304 + l then 10 else if r < 334 + l then 11 else 12
/-- The date of a number. -/
def dateY (n : Int) : Int := if rightN n then yearOf n else 0
def dateM (n : Int) : Int := if rightN n then monthOf n else 0
def dateD (n : Int) : Int := if rightN n then n - ahead0 (yearOf n) - before (yearOf n) (monthOf n) + 1 else 0
theorem ahead_mono {a b : Int} (h1 : 1 ≤ a) (h : a ≤ b) : ahead0 a ≤ ahead0 b := by unfold ahead0; omega
theorem ahead_step {a b : Int} (h1 : 1 ≤ a) (h : a < b) : ahead0 a + 365 ≤ ahead0 b := by
  have := ahead_next h1
  have := leapN_le a
  have := ahead_mono (a := a + 1) (b := b) (by omega) (by omega)
  omega
theorem findY_is {n : Int} (hn : n < 3652059) : ∀ (k : Nat) (y : Int), 1 ≤ y → y ≤ 9999 → 9999 - y < k → ahead0 y ≤ n →
    1 ≤ findY n k y ∧ findY n k y ≤ 9999 ∧ ahead0 (findY n k y) ≤ n ∧ n < ahead0 (findY n k y + 1)
  | 0, y, h1, h2, h3, h4 => by omega
  | k + 1, y, h1, h2, h3, h4 => by
    unfold findY
    split
    · rename_i h
      have : y ≠ 9999 := by rintro rfl; unfold ahead0 at h; omega
      exact findY_is hn k (y + 1) (by omega) (by omega) (by omega) h
    · rename_i h; exact ⟨h1, h2, h4, by omega⟩
theorem start_le {n : Int} (h : 0 ≤ n) : ahead0 (n / 366 + 1) ≤ n := by unfold ahead0; omega
theorem yearOf_is {n : Int} (h : rightN n = true) : 1 ≤ yearOf n ∧ yearOf n ≤ 9999 ∧ ahead0 (yearOf n) ≤ n ∧ n < ahead0 (yearOf n + 1) := by
  simp only [rightN, decide_eq_true_eq] at h
  exact findY_is h.2 _ _ (by omega) (by omega) (by omega) (start_le h.1)
theorem yearOf_eq {n y : Int} (h : rightN n = true) (h1 : 1 ≤ y) (h2 : ahead0 y ≤ n) (h3 : n < ahead0 (y + 1)) : yearOf n = y := by
  obtain ⟨a, b, c, d⟩ := yearOf_is h
  rcases Int.lt_trichotomy (yearOf n) y with hlt | he | hgt
  · have := ahead_mono (a := yearOf n + 1) (b := y) (by omega) (by omega); omega
  · exact he
  · have := ahead_mono (a := y + 1) (b := yearOf n) (by omega) (by omega); omega
theorem monthOf_is {n : Int} (h : rightN n = true) : 1 ≤ monthOf n ∧ monthOf n ≤ 12 ∧ before (yearOf n) (monthOf n) ≤ n - ahead0 (yearOf n) ∧ n - ahead0 (yearOf n) < before (yearOf n) (monthOf n + 1) := by
  obtain ⟨a, b, c, d⟩ := yearOf_is h
  rw [ahead_next a] at d
  have := leapN_le (yearOf n)
  unfold monthOf
  generalize yearOf n = y at *
  dsimp only
  repeat' (split; · simp [before]; omega)
  simp [before]; omega
theorem before_mono {y : Int} : ∀ (k : Nat) (a : Int), 1 ≤ y → y ≤ 9999 → 1 ≤ a → a + k ≤ 13 → before y a ≤ before y (a + k)
  | 0, a, _, _, _, _ => by simp
  | k + 1, a, h1, h2, h3, h4 => by
    have := before_mono k a h1 h2 h3 (by omega)
    have := before_next h1 h2 (m := a + k) (by omega) (by omega)
    have := lastDay_le y (a + k)
    have : a + ((k + 1 : Nat) : Int) = a + k + 1 := by omega
    rw [this]; omega
theorem before_mono' {y a b : Int} (h1 : 1 ≤ y) (h2 : y ≤ 9999) (h3 : 1 ≤ a) (h : a ≤ b) (h4 : b ≤ 13) : before y a ≤ before y b := by
  have := before_mono (b - a).toNat a h1 h2 h3 (by omega)
  rwa [show a + ((b - a).toNat : Int) = b by omega] at this
theorem monthOf_eq {n m : Int} (h : rightN n = true) (h1 : 1 ≤ m) (h0 : m ≤ 12) (h2 : before (yearOf n) m ≤ n - ahead0 (yearOf n)) (h3 : n - ahead0 (yearOf n) < before (yearOf n) (m + 1)) : monthOf n = m := by
  obtain ⟨a, b, _, _⟩ := yearOf_is h
  obtain ⟨c, d, e, f⟩ := monthOf_is h
  rcases Int.lt_trichotomy (monthOf n) m with hlt | he | hgt
  · have := before_mono' (a := monthOf n + 1) (b := m) a b (by omega) (by omega) (by omega); omega
  · exact he
  · have := before_mono' (a := m + 1) (b := monthOf n) a b (by omega) (by omega) (by omega); omega
theorem ahead_le {y : Int} (h1 : 1 ≤ y) (h2 : y ≤ 20000) : 0 ≤ ahead0 y ∧ ahead0 y ≤ 10000000 := by unfold ahead0; omega


def q15 : List Sc → Option (Bool × Value)
  | [.i a0] => some (true, .agg #[.int .i64 (dateY a0), .int .i64 (dateM a0), .int .i64 (dateD a0)])
  | _ => none
def e15 : List Value → Option (Bool × Value) := entOf [.int .i64] q15

/-! cascade/civil.Of -/
def L15_1s (m : Nat) (k : List Sc → Option Value) : List Sc → Option Value
  | [.i a0, .i a1, .i a2, .i a3, .i a4, .i a5] =>
    bif (decide (a5 > (lastDay a3 a4))) then
     k [.i a0, .i a1, .i a2, .i a3, .i (IntKind.i64.wrap (a4 + 1)), .i (IntKind.i64.wrap (a5 - (lastDay a3 a4)))]
    else
     some (.agg #[.int .i64 a3, .int .i64 a4, .int .i64 a5])
  | _ => none
def L15_1 (m : Nat) : Nat → List Sc → Option Value := iter (L15_1s m)
theorem L15_1_succ (m : Nat) (n : Nat) : L15_1 m (n + 1) = L15_1s m (L15_1 m n) := rfl
def S15_1 (F : List Sc → Option Value) : Stop := ⟨[.lp [0, 0, 1, 1, 1, 1, 1], .blk 2, .code [1, 1, 1, 1, 1, 1]], ⟨52, [(2, .lit (.pointer (some ⟨0, 0, none⟩))), (4, .lit (.pointer (some ⟨1, 0, none⟩)))], 2, (.n (some [.int .i64, .int .i64, .int .i64]) (.n (some [.int .i64, .int .i64, .int .i64]) .e .e) .e)⟩, F⟩
def L15_0s (m : Nat) (k : List Sc → Option Value) : List Sc → Option Value
  | [.i a0, .i a1, .i a2, .i a3, .i a4] =>
    bif (decide ((aheadW (IntKind.i64.wrap (a1 + 1))) ≤ a0)) then
     k [.i a0, .i (IntKind.i64.wrap (a1 + 1)), .i a2, .i a3, .i a4]
    else
     L15_1 m m [.i a2, .i a3, .i a4, .i a1, .i 1, .i (IntKind.i64.wrap ((IntKind.i64.wrap (a0 - (aheadW a1))) + 1))]
  | _ => none
def L15_0 (m : Nat) : Nat → List Sc → Option Value := iter (L15_0s m)
theorem L15_0_succ (m : Nat) (n : Nat) : L15_0 m (n + 1) = L15_0s m (L15_0 m n) := rfl
def S15_0 (F : List Sc → Option Value) : Stop := ⟨[.lp [0, 0, 1, 1, 1], .blk 0, .code [1, 1, 1, 1]], ⟨52, [(0, .int .i64), (2, .lit (.pointer (some ⟨0, 0, none⟩))), (3, .int .i64)], 1, (.n (some [.int .i64, .int .i64, .int .i64]) .e .e)⟩, F⟩
def t15 (m : Nat) (a0 : Int) : Option Value :=
  bif decide (a0 < 0) then
   some (.agg #[.int .i64 0, .int .i64 0, .int .i64 0])
  else
   bif (decide (a0 ≥ (aheadW 10000))) then
    some (.agg #[.int .i64 0, .int .i64 0, .int .i64 0])
   else
    L15_0 m m [.i a0, .i (IntKind.i64.wrap ((IntKind.i64.wrap (a0.tdiv 366)) + 1)), .i 0, .i 0, .i 0]
def T15 : Tab := tabOf [(16, e16), (33, e33)]
theorem T15_right : Known.right Try.prog T15 := tab_right (all1 right16 (all1 right33 all0))
theorem G15_1 (m : Nat) (k : List Sc → Option Value) (g : Nat → Value) (a0 : Int) (a1 : Int) (a2 : Int) (a3 : Int) (a4 : Int) (a5 : Int) : roadFrom Try.prog T15 (fun _ => true) (bodyOf (fnOf Try.prog 15)) [0, 0, 1, 1, 1, 1, 1] [.blk 2, .code [1, 1, 1, 1, 1, 1]] (S15_1 k).pat g [.i a0, .i a1, .i a2, .i a3, .i a4, .i a5] (kks (fnOf Try.prog 15).results.toList Try.prog [S15_1 k]) = L15_1s m k [.i a0, .i a1, .i a2, .i a3, .i a4, .i a5] := by kernel_rfl
theorem Y15_1 {m : Nat} {k : List Sc → Option Value} {xs : List Sc} {v : Value} (h : L15_1s m k xs = some v) : ∃ a0 a1 a2 a3 a4 a5, xs = [.i a0, .i a1, .i a2, .i a3, .i a4, .i a5] := by
  unfold L15_1s at h
  split at h
  · exact ⟨_, _, _, _, _, _, rfl⟩
  · cases h
theorem H15_1 (m : Nat) : ∀ n, (S15_1 (L15_1 m n)).Holds Try.prog [] (ofTab T15) (fnOf Try.prog 15).results.toList (bodyOf (fnOf Try.prog 15)) :=
  Stop.iter (mk := S15_1) (Fs := L15_1s m) (S := fun k => [S15_1 k]) (p := [0, 0, 1, 1, 1, 1, 1]) (rest := [.blk 2, .code [1, 1, 1, 1, 1, 1]]) (pat := (S15_1 (fun _ => none)).pat) (stop := fun _ => true)
    (fun _ => rfl) (fun _ => rfl) (fun _ => rfl) (by kernel_rfl) (by kernel_rfl)
    (fun k h => (all1 h all0))
    (fun k g xs v h => by
      obtain ⟨a0, a1, a2, a3, a4, a5, rfl⟩ := Y15_1 h
      exact (G15_1 m k g a0 a1 a2 a3 a4 a5).trans h)
theorem G15_0 (m : Nat) (k : List Sc → Option Value) (g : Nat → Value) (a0 : Int) (a1 : Int) (a2 : Int) (a3 : Int) (a4 : Int) : roadFrom Try.prog T15 (fun _ => true) (bodyOf (fnOf Try.prog 15)) [0, 0, 1, 1, 1] [.blk 0, .code [1, 1, 1, 1]] (S15_0 k).pat g [.i a0, .i a1, .i a2, .i a3, .i a4] (kks (fnOf Try.prog 15).results.toList Try.prog [S15_0 k, S15_1 (L15_1 m m)]) = L15_0s m k [.i a0, .i a1, .i a2, .i a3, .i a4] := by kernel_rfl
theorem Y15_0 {m : Nat} {k : List Sc → Option Value} {xs : List Sc} {v : Value} (h : L15_0s m k xs = some v) : ∃ a0 a1 a2 a3 a4, xs = [.i a0, .i a1, .i a2, .i a3, .i a4] := by
  unfold L15_0s at h
  split at h
  · exact ⟨_, _, _, _, _, rfl⟩
  · cases h
theorem H15_0 (m : Nat) : ∀ n, (S15_0 (L15_0 m n)).Holds Try.prog [] (ofTab T15) (fnOf Try.prog 15).results.toList (bodyOf (fnOf Try.prog 15)) :=
  Stop.iter (mk := S15_0) (Fs := L15_0s m) (S := fun k => [S15_0 k, S15_1 (L15_1 m m)]) (p := [0, 0, 1, 1, 1]) (rest := [.blk 0, .code [1, 1, 1, 1]]) (pat := (S15_0 (fun _ => none)).pat) (stop := fun _ => true)
    (fun _ => rfl) (fun _ => rfl) (fun _ => rfl) (by kernel_rfl) (by kernel_rfl)
    (fun k h => (all1 h (all1 (H15_1 m m) all0)))
    (fun k g xs v h => by
      obtain ⟨a0, a1, a2, a3, a4, rfl⟩ := Y15_0 h
      exact (G15_0 m k g a0 a1 a2 a3 a4).trans h)
theorem G15 (m : Nat) (a0 : Int) : roadIn Try.prog T15 (fun _ => true) (fnOf Try.prog 15) [.int .i64 a0] (kks (fnOf Try.prog 15).results.toList Try.prog [S15_0 (L15_0 m m)]) = t15 m a0 := by kernel_rfl
theorem told15 (m : Nat) (a0 : Int) {v : Value} (h : t15 m a0 = some v) (hv : plainT v = true) : ToldOk Try.prog 15 [.int .i64 a0] v :=
  told_road' (S := [S15_0 (L15_0 m m)]) Seat.mix Seat.names T15_right (by kernel_rfl) (by kernel_rfl) (by kernel_rfl)
    (all1 (H15_0 m m) all0) ((G15 m a0).trans h) rfl hv

theorem spec15 (a0 : Int) : ∃ m, t15 m a0 = some (.agg #[.int .i64 (dateY a0), .int .i64 (dateM a0), .int .i64 (dateD a0)]) := by
  refine ⟨10001, ?_⟩
  have e : aheadW 10000 = 3652059 := by rw [aheadW_eq (by omega) (by omega)]; rfl
  unfold t15 dateY dateM dateD
  rw [e]
  by_cases h0 : a0 < 0
  · have : rightN a0 = false := by simp [rightN]; omega
    simp [h0, this]
  by_cases h1 : a0 ≥ 3652059
  · have : rightN a0 = false := by simp [rightN]; omega
    simp [h0, h1, this]
  have hr : rightN a0 = true := by simp [rightN]; omega
  have hY : ∀ (k : Nat) (y a b c : Int), 1 ≤ y → y ≤ 9999 → 9999 - y < k → L15_0 10001 (k + 1) [.i a0, .i y, .i a, .i b, .i c] = L15_1 10001 10001 [.i a, .i b, .i c, .i (findY a0 k y), .i 1, .i (a0 - ahead0 (findY a0 k y) + 1)] := by
    intro k
    induction k with
    | zero => intro y a b c h1 h2 h3; omega
    | succ k ih =>
      intro y a b c h1 h2 h3
      rw [L15_0_succ]
      unfold L15_0s findY
      have := ahead_le h1 (by omega)
      simp only []
      rw [wr (n := y + 1) (by omega) (by omega), aheadW_eq (y := y + 1) (by omega) (by omega), aheadW_eq (y := y) h1 (by omega)]
      by_cases hc : ahead0 (y + 1) ≤ a0
      · rw [if_pos hc]
        simp only [hc, decide_true, cond_true]
        have : y ≠ 9999 := by rintro rfl; unfold ahead0 at hc; omega
        exact ih (y + 1) a b c (by omega) (by omega) (by omega)
      · rw [if_neg hc]
        simp only [hc, decide_false, cond_false]
        rw [wr (n := a0 - ahead0 y) (by omega) (by omega), wr (n := a0 - ahead0 y + 1) (by omega) (by omega)]
  have hM : ∀ (k : Nat) (m d a b c : Int), 1 ≤ m → m ≤ 12 → 12 - m < k → d = a0 - ahead0 (yearOf a0) - before (yearOf a0) m + 1 → 1 ≤ d →
      L15_1 10001 k [.i a, .i b, .i c, .i (yearOf a0), .i m, .i d] = some (.agg #[.int .i64 (yearOf a0), .int .i64 (monthOf a0), .int .i64 (a0 - ahead0 (yearOf a0) - before (yearOf a0) (monthOf a0) + 1)]) := by
    obtain ⟨y1, y2, y3, y4⟩ := yearOf_is hr
    obtain ⟨m1, m2, m3, m4⟩ := monthOf_is hr
    rw [ahead_next y1] at y4
    have := leapN_le (yearOf a0)
    intro k
    induction k with
    | zero => intro m d a b c h1 h2 h3; omega
    | succ k ih =>
      intro m d a b c h1 h2 h3 hd hd1
      rw [L15_1_succ]
      unfold L15_1s
      have hl := lastDay_le (yearOf a0) m
      have hn := before_next y1 y2 h1 h2
      have hb := before_le (y := yearOf a0) (m := m)
      by_cases hc : d > lastDay (yearOf a0) m
      · simp only [hc, decide_true, cond_true]
        rw [wr (n := m + 1) (by omega) (by omega), wr (n := d - lastDay (yearOf a0) m) (by omega) (by omega)]
        have : m ≠ 12 := by
          rintro rfl
          have : before (yearOf a0) (12 + 1) = 365 + leapN (yearOf a0) := by simp [before]
          omega
        exact ih _ _ _ _ _ (by omega) (by omega) (by omega) (by omega) (by omega)
      · simp only [hc, decide_false, cond_false]
        have : monthOf a0 = m := monthOf_eq hr h1 h2 (by omega) (by omega)
        rw [this, ← hd]
  obtain ⟨y1, y2, y3, y4⟩ := yearOf_is hr
  simp only [h0, h1, hr, decide_false, cond_false, if_true]
  simp only [td _ (show 0 ≤ a0 by omega)]
  rw [wr (n := a0 / 366) (by omega) (by omega), wr (n := a0 / 366 + 1) (by omega) (by omega), hY 10000 _ _ _ _ (by omega) (by omega) (by omega)]
  exact hM _ _ _ _ _ _ (by omega) (by omega) (by omega) (by simp [yearOf, before]) (by have : findY a0 10000 (a0 / 366 + 1) = yearOf a0 := rfl; rw [this]; omega)

theorem right15 : EntRight Try.prog 15 e15 := ent_right (by
  intro xs v h
  unfold q15 at h
  split at h
  · rename_i a0
    simp only [Option.some.injEq, Prod.mk.injEq, true_and] at h
    obtain rfl := h
    obtain ⟨m, hm⟩ := spec15 a0
    exact told15 m a0 hm rfl
  · cases h)

theorem number_first {y m : Int} (h1 : 1 ≤ y) (h2 : y ≤ 9999) (h3 : 1 ≤ m) (h4 : m ≤ 12) : number y m 1 = ahead0 y + before y m := by
  have : rightD y m 1 = true := by
    rw [rightD_iff]; unfold lastDay
    refine ⟨by omega, ?_⟩
    repeat' split
    all_goals omega
  unfold number
  rw [if_pos this]; omega
theorem number_last : number 9999 12 31 = 3652058 := by decide

def q18 : List Sc → Option (Bool × Value)
  | [.i a0] => some (true, .agg #[.int .i64 (dateY a0), .int .i64 (dateM a0), .int .i64 (dateD a0)])
  | _ => none
def e18 : List Value → Option (Bool × Value) := entOf [.int .i64] q18

/-! cascade/cascaderef1.Of -/
def L18_1s (m : Nat) (k : List Sc → Option Value) : List Sc → Option Value
  | [.i a0, .i a1, .i a2, .i a3, .i a4, .i a5] =>
    bif decide (a2 < 12) then
     bif (decide ((number a1 (IntKind.i64.wrap (a2 + 1)) 1) ≤ a0)) then
      k [.i a0, .i a1, .i (IntKind.i64.wrap (a2 + 1)), .i a3, .i a4, .i a5]
     else
      some (.agg #[.int .i64 a1, .int .i64 a2, .int .i64 (IntKind.i64.wrap ((IntKind.i64.wrap (a0 - (number a1 a2 1))) + 1))])
    else
     some (.agg #[.int .i64 a1, .int .i64 a2, .int .i64 (IntKind.i64.wrap ((IntKind.i64.wrap (a0 - (number a1 a2 1))) + 1))])
  | _ => none
def L18_1 (m : Nat) : Nat → List Sc → Option Value := iter (L18_1s m)
theorem L18_1_succ (m : Nat) (n : Nat) : L18_1 m (n + 1) = L18_1s m (L18_1 m n) := rfl
def S18_1 (F : List Sc → Option Value) : Stop := ⟨[.lp [0, 0, 1, 1, 1, 1, 1], .blk 2, .code [1, 1, 1, 1, 1, 1]], ⟨52, [(0, .int .i64), (2, .lit (.pointer (some ⟨0, 0, none⟩))), (3, .int .i64), (4, .int .i64)], 1, (.n (some [.int .i64, .int .i64, .int .i64]) .e .e)⟩, F⟩
def L18_0s (m : Nat) (k : List Sc → Option Value) : List Sc → Option Value
  | [.i a0, .i a1, .i a2, .i a3, .i a4] =>
    bif decide (a1 < 9999) then
     bif (decide ((number (IntKind.i64.wrap (a1 + 1)) 1 1) ≤ a0)) then
      k [.i a0, .i (IntKind.i64.wrap (a1 + 1)), .i a2, .i a3, .i a4]
     else
      L18_1 m m [.i a0, .i a1, .i 1, .i a2, .i a3, .i a4]
    else
     L18_1 m m [.i a0, .i a1, .i 1, .i a2, .i a3, .i a4]
  | _ => none
def L18_0 (m : Nat) : Nat → List Sc → Option Value := iter (L18_0s m)
theorem L18_0_succ (m : Nat) (n : Nat) : L18_0 m (n + 1) = L18_0s m (L18_0 m n) := rfl
def S18_0 (F : List Sc → Option Value) : Stop := ⟨[.lp [0, 0, 1, 1, 1], .blk 0, .code [1, 1, 1, 1]], ⟨52, [(0, .int .i64), (2, .lit (.pointer (some ⟨0, 0, none⟩))), (3, .int .i64)], 1, (.n (some [.int .i64, .int .i64, .int .i64]) .e .e)⟩, F⟩
def t18 (m : Nat) (a0 : Int) : Option Value :=
  bif decide (a0 < 0) then
   some (.agg #[.int .i64 0, .int .i64 0, .int .i64 0])
  else
   bif (decide (a0 > (number 9999 12 31))) then
    some (.agg #[.int .i64 0, .int .i64 0, .int .i64 0])
   else
    L18_0 m m [.i a0, .i (IntKind.i64.wrap (1 + (IntKind.i64.wrap (a0.tdiv 366)))), .i 0, .i 0, .i 0]
def T18 : Tab := tabOf [(23, e23)]
theorem T18_right : Known.right Try.prog T18 := tab_right (all1 right23 all0)
theorem G18_1 (m : Nat) (k : List Sc → Option Value) (g : Nat → Value) (a0 : Int) (a1 : Int) (a2 : Int) (a3 : Int) (a4 : Int) (a5 : Int) : roadFrom Try.prog T18 (fun _ => true) (bodyOf (fnOf Try.prog 18)) [0, 0, 1, 1, 1, 1, 1] [.blk 2, .code [1, 1, 1, 1, 1, 1]] (S18_1 k).pat g [.i a0, .i a1, .i a2, .i a3, .i a4, .i a5] (kks (fnOf Try.prog 18).results.toList Try.prog [S18_1 k]) = L18_1s m k [.i a0, .i a1, .i a2, .i a3, .i a4, .i a5] := by kernel_rfl
theorem Y18_1 {m : Nat} {k : List Sc → Option Value} {xs : List Sc} {v : Value} (h : L18_1s m k xs = some v) : ∃ a0 a1 a2 a3 a4 a5, xs = [.i a0, .i a1, .i a2, .i a3, .i a4, .i a5] := by
  unfold L18_1s at h
  split at h
  · exact ⟨_, _, _, _, _, _, rfl⟩
  · cases h
theorem H18_1 (m : Nat) : ∀ n, (S18_1 (L18_1 m n)).Holds Try.prog [] (ofTab T18) (fnOf Try.prog 18).results.toList (bodyOf (fnOf Try.prog 18)) :=
  Stop.iter (mk := S18_1) (Fs := L18_1s m) (S := fun k => [S18_1 k]) (p := [0, 0, 1, 1, 1, 1, 1]) (rest := [.blk 2, .code [1, 1, 1, 1, 1, 1]]) (pat := (S18_1 (fun _ => none)).pat) (stop := fun _ => true)
    (fun _ => rfl) (fun _ => rfl) (fun _ => rfl) (by kernel_rfl) (by kernel_rfl)
    (fun k h => (all1 h all0))
    (fun k g xs v h => by
      obtain ⟨a0, a1, a2, a3, a4, a5, rfl⟩ := Y18_1 h
      exact (G18_1 m k g a0 a1 a2 a3 a4 a5).trans h)
theorem G18_0 (m : Nat) (k : List Sc → Option Value) (g : Nat → Value) (a0 : Int) (a1 : Int) (a2 : Int) (a3 : Int) (a4 : Int) : roadFrom Try.prog T18 (fun _ => true) (bodyOf (fnOf Try.prog 18)) [0, 0, 1, 1, 1] [.blk 0, .code [1, 1, 1, 1]] (S18_0 k).pat g [.i a0, .i a1, .i a2, .i a3, .i a4] (kks (fnOf Try.prog 18).results.toList Try.prog [S18_0 k, S18_1 (L18_1 m m)]) = L18_0s m k [.i a0, .i a1, .i a2, .i a3, .i a4] := by kernel_rfl
theorem Y18_0 {m : Nat} {k : List Sc → Option Value} {xs : List Sc} {v : Value} (h : L18_0s m k xs = some v) : ∃ a0 a1 a2 a3 a4, xs = [.i a0, .i a1, .i a2, .i a3, .i a4] := by
  unfold L18_0s at h
  split at h
  · exact ⟨_, _, _, _, _, rfl⟩
  · cases h
theorem H18_0 (m : Nat) : ∀ n, (S18_0 (L18_0 m n)).Holds Try.prog [] (ofTab T18) (fnOf Try.prog 18).results.toList (bodyOf (fnOf Try.prog 18)) :=
  Stop.iter (mk := S18_0) (Fs := L18_0s m) (S := fun k => [S18_0 k, S18_1 (L18_1 m m)]) (p := [0, 0, 1, 1, 1]) (rest := [.blk 0, .code [1, 1, 1, 1]]) (pat := (S18_0 (fun _ => none)).pat) (stop := fun _ => true)
    (fun _ => rfl) (fun _ => rfl) (fun _ => rfl) (by kernel_rfl) (by kernel_rfl)
    (fun k h => (all1 h (all1 (H18_1 m m) all0)))
    (fun k g xs v h => by
      obtain ⟨a0, a1, a2, a3, a4, rfl⟩ := Y18_0 h
      exact (G18_0 m k g a0 a1 a2 a3 a4).trans h)
theorem G18 (m : Nat) (a0 : Int) : roadIn Try.prog T18 (fun _ => true) (fnOf Try.prog 18) [.int .i64 a0] (kks (fnOf Try.prog 18).results.toList Try.prog [S18_0 (L18_0 m m)]) = t18 m a0 := by kernel_rfl
theorem told18 (m : Nat) (a0 : Int) {v : Value} (h : t18 m a0 = some v) (hv : plainT v = true) : ToldOk Try.prog 18 [.int .i64 a0] v :=
  told_road' (S := [S18_0 (L18_0 m m)]) Seat.mix Seat.names T18_right (by kernel_rfl) (by kernel_rfl) (by kernel_rfl)
    (all1 (H18_0 m m) all0) ((G18 m a0).trans h) rfl hv

theorem spec18 (a0 : Int) : ∃ m, t18 m a0 = some (.agg #[.int .i64 (dateY a0), .int .i64 (dateM a0), .int .i64 (dateD a0)]) := by
  refine ⟨10001, ?_⟩
  unfold t18 dateY dateM dateD
  rw [number_last]
  by_cases h0 : a0 < 0
  · have : rightN a0 = false := by simp [rightN]; omega
    simp [h0, this]
  by_cases h1 : a0 > 3652058
  · have : rightN a0 = false := by simp [rightN]; omega
    simp [h0, h1, this]
  have hr : rightN a0 = true := by simp [rightN]; omega
  have hY : ∀ (k : Nat) (y a b c : Int), 1 ≤ y → y ≤ 9999 → 9999 - y < k → L18_0 10001 (k + 1) [.i a0, .i y, .i a, .i b, .i c] = L18_1 10001 10001 [.i a0, .i (findY a0 k y), .i 1, .i a, .i b, .i c] := by
    intro k
    induction k with
    | zero => intro y a b c h1 h2 h3; omega
    | succ k ih =>
      intro y a b c h1 h2 h3
      rw [L18_0_succ]
      unfold L18_0s findY
      have := ahead_le h1 (by omega)
      simp only []
      rw [wr (n := y + 1) (by omega) (by omega)]
      by_cases hy : y < 9999
      · simp only [hy, decide_true, cond_true]
        rw [number_first (by omega) (by omega) (by omega) (by omega)]
        have hb : before (y + 1) 1 = 0 := by simp [before]
        rw [hb, Int.add_zero]
        by_cases hc : ahead0 (y + 1) ≤ a0
        · rw [if_pos hc]
          simp only [hc, decide_true, cond_true]
          exact ih (y + 1) a b c (by omega) (by omega) (by omega)
        · rw [if_neg hc]
          simp only [hc, decide_false, cond_false]
      · have : y = 9999 := by omega
        subst this
        have hc : ¬ ahead0 (9999 + 1) ≤ a0 := by unfold ahead0; omega
        rw [if_neg hc]
        simp only [hy, decide_false, cond_false]
  obtain ⟨y1, y2, y3, y4⟩ := yearOf_is hr
  have hA := ahead_le y1 (by omega)
  have hM : ∀ (k : Nat) (m a b c : Int), 1 ≤ m → m ≤ 12 → 12 - m < k → ahead0 (yearOf a0) + before (yearOf a0) m ≤ a0 →
      L18_1 10001 k [.i a0, .i (yearOf a0), .i m, .i a, .i b, .i c] = some (.agg #[.int .i64 (yearOf a0), .int .i64 (monthOf a0), .int .i64 (a0 - ahead0 (yearOf a0) - before (yearOf a0) (monthOf a0) + 1)]) := by
    obtain ⟨m1, m2, m3, m4⟩ := monthOf_is hr
    rw [ahead_next y1] at y4
    have := leapN_le (yearOf a0)
    intro k
    induction k with
    | zero => intro m a b c h1 h2 h3; omega
    | succ k ih =>
      intro m a b c h1 h2 h3 hd
      rw [L18_1_succ]
      unfold L18_1s
      have hl := lastDay_le (yearOf a0) m
      have hb := before_le (y := yearOf a0) (m := m)
      simp only []
      rw [number_first y1 y2 h1 h2, wr (n := a0 - (ahead0 (yearOf a0) + before (yearOf a0) m)) (by omega) (by omega), wr (n := a0 - (ahead0 (yearOf a0) + before (yearOf a0) m) + 1) (by omega) (by omega), wr (n := m + 1) (by omega) (by omega)]
      have fin : monthOf a0 = m → some (Value.agg #[.int .i64 (yearOf a0), .int .i64 m, .int .i64 (a0 - (ahead0 (yearOf a0) + before (yearOf a0) m) + 1)]) = some (.agg #[.int .i64 (yearOf a0), .int .i64 (monthOf a0), .int .i64 (a0 - ahead0 (yearOf a0) - before (yearOf a0) (monthOf a0) + 1)]) := by
        intro e
        rw [e, show a0 - (ahead0 (yearOf a0) + before (yearOf a0) m) + 1 = a0 - ahead0 (yearOf a0) - before (yearOf a0) m + 1 by omega]
      by_cases hm : m < 12
      · simp only [hm, decide_true, cond_true]
        rw [number_first y1 y2 (by omega) (by omega)]
        by_cases hc : ahead0 (yearOf a0) + before (yearOf a0) (m + 1) ≤ a0
        · simp only [hc, decide_true, cond_true]
          exact ih _ _ _ _ (by omega) (by omega) (by omega) hc
        · simp only [hc, decide_false, cond_false]
          exact fin (monthOf_eq hr h1 h2 (by omega) (by omega))
      · simp only [hm, decide_false, cond_false]
        have e : m = 12 := by omega
        refine fin (monthOf_eq hr h1 h2 (by omega) ?_)
        have : before (yearOf a0) (m + 1) = 365 + leapN (yearOf a0) := by subst e; simp [before]
        omega
  simp only [h0, h1, hr, decide_false, cond_false, if_true]
  simp only [td _ (show 0 ≤ a0 by omega)]
  rw [wr (n := a0 / 366) (by omega) (by omega), wr (n := 1 + a0 / 366) (by omega) (by omega), hY 10000 _ _ _ _ (by omega) (by omega) (by omega)]
  have e : findY a0 10000 (1 + a0 / 366) = yearOf a0 := by rw [Int.add_comm]; rfl
  rw [e]
  exact hM _ _ _ _ _ (by omega) (by omega) (by omega) (by rw [show before (yearOf a0) 1 = 0 by simp [before]]; omega)

theorem right18 : EntRight Try.prog 18 e18 := ent_right (by
  intro xs v h
  unfold q18 at h
  split at h
  · rename_i a0
    simp only [Option.some.injEq, Prod.mk.injEq, true_and] at h
    obtain rfl := h
    obtain ⟨m, hm⟩ := spec18 a0
    exact told18 m a0 hm rfl
  · cases h)

/-- A date, months on. -/
def shiftOk (y m d n : Int) : Bool := rightD y m d && decide (12 ≤ 12 * y + m - 1 + n ∧ 12 * y + m - 1 + n < 120000)
def shiftY (y m d n : Int) : Int := if shiftOk y m d n then (12 * y + m - 1 + n) / 12 else 0
def shiftM (y m d n : Int) : Int := if shiftOk y m d n then (12 * y + m - 1 + n) % 12 + 1 else 0
def shiftD (y m d n : Int) : Int := if shiftOk y m d n then min d (lastDay ((12 * y + m - 1 + n) / 12) ((12 * y + m - 1 + n) % 12 + 1)) else 0
theorem min_if (a b : Int) : (if b < a then b else a) = min a b := by omega
theorem lastDay_pos {y m : Int} (h1 : 1 ≤ y) (h2 : y ≤ 9999) (h3 : 1 ≤ m) (h4 : m ≤ 12) : 28 ≤ lastDay y m := by
  unfold lastDay
  repeat' split
  all_goals omega

def q14 : List Sc → Option (Bool × Value)
  | [.i a0, .i a1, .i a2, .i a3] => some (true, .agg #[.int .i64 (shiftY a0 a1 a2 a3), .int .i64 (shiftM a0 a1 a2 a3), .int .i64 (shiftD a0 a1 a2 a3)])
  | _ => none
def e14 : List Value → Option (Bool × Value) := entOf [.agg [some .i64, some .i64, some .i64], .int .i64] q14

/-! (cascade/civil.Date).Shift -/
def t14 (m : Nat) (a0 : Int) (a1 : Int) (a2 : Int) (a3 : Int) : Option Value :=
  bif !(rightD a0 a1 a2) then
   some (.agg #[.int .i64 0, .int .i64 0, .int .i64 0])
  else
   bif decide (a3 < (-119988)) then
    some (.agg #[.int .i64 0, .int .i64 0, .int .i64 0])
   else
    bif decide (a3 > 119988) then
     some (.agg #[.int .i64 0, .int .i64 0, .int .i64 0])
    else
     let x5 : Int := (IntKind.i64.wrap ((IntKind.i64.wrap ((IntKind.i64.wrap ((IntKind.i64.wrap ((IntKind.i64.wrap (a0 - 1)) * 12)) + a1)) - 1)) + a3))
     bif decide (x5 < 0) then
      some (.agg #[.int .i64 0, .int .i64 0, .int .i64 0])
     else
      let x7 : Int := (IntKind.i64.wrap ((IntKind.i64.wrap (x5.tdiv 12)) + 1))
      let x8 : Int := (IntKind.i64.wrap ((x5.tmod 12) + 1))
      let x9 : Int := (if (lastDay x7 x8) < a2 then (lastDay x7 x8) else a2)
      bif !(rightD x7 x8 x9) then
       some (.agg #[.int .i64 0, .int .i64 0, .int .i64 0])
      else
       some (.agg #[.int .i64 x7, .int .i64 x8, .int .i64 x9])
def T14 : Tab := tabOf [(16, e16), (21, e21)]
theorem T14_right : Known.right Try.prog T14 := tab_right (all1 right16 (all1 right21 all0))
theorem G14 (m : Nat) (a0 : Int) (a1 : Int) (a2 : Int) (a3 : Int) : roadIn Try.prog T14 (fun _ => true) (fnOf Try.prog 14) [.agg #[.int .i64 a0, .int .i64 a1, .int .i64 a2], .int .i64 a3] (kks (fnOf Try.prog 14).results.toList Try.prog []) = t14 m a0 a1 a2 a3 := by kernel_rfl
theorem told14 (m : Nat) (a0 : Int) (a1 : Int) (a2 : Int) (a3 : Int) {v : Value} (h : t14 m a0 a1 a2 a3 = some v) (hv : plainT v = true) : ToldOk Try.prog 14 [.agg #[.int .i64 a0, .int .i64 a1, .int .i64 a2], .int .i64 a3] v :=
  told_road' (S := []) Seat.mix Seat.names T14_right (by kernel_rfl) (by kernel_rfl) (by kernel_rfl)
    all0 ((G14 m a0 a1 a2 a3).trans h) rfl hv

theorem spec14 (a0 : Int) (a1 : Int) (a2 : Int) (a3 : Int) : ∃ m, t14 m a0 a1 a2 a3 = some (.agg #[.int .i64 (shiftY a0 a1 a2 a3), .int .i64 (shiftM a0 a1 a2 a3), .int .i64 (shiftD a0 a1 a2 a3)]) := by
  refine ⟨0, ?_⟩
  unfold t14 shiftY shiftM shiftD
  by_cases hr : rightD a0 a1 a2 = true
  · obtain ⟨y1, y2, m1, m2⟩ := rightD_ym hr
    obtain ⟨d1, d2⟩ := rightD_iff.1 hr
    by_cases hk : 12 ≤ 12 * a0 + a1 - 1 + a3 ∧ 12 * a0 + a1 - 1 + a3 < 120000
    · have hs : shiftOk a0 a1 a2 a3 = true := by simp [shiftOk, hr, hk]
      simp only [hr, hs, if_true, Bool.not_true, cond_false]
      rw [wr (n := a0 - 1) (by omega) (by omega), wr (n := (a0 - 1) * 12) (by omega) (by omega), wr (n := (a0 - 1) * 12 + a1) (by omega) (by omega), wr (n := (a0 - 1) * 12 + a1 - 1) (by omega) (by omega), wr (n := (a0 - 1) * 12 + a1 - 1 + a3) (by omega) (by omega)]
      simp only [td _ (show 0 ≤ (a0 - 1) * 12 + a1 - 1 + a3 by omega), tm _ (show 0 ≤ (a0 - 1) * 12 + a1 - 1 + a3 by omega)]
      rw [wr (n := ((a0 - 1) * 12 + a1 - 1 + a3) / 12) (by omega) (by omega), wr (n := ((a0 - 1) * 12 + a1 - 1 + a3) / 12 + 1) (by omega) (by omega), wr (n := ((a0 - 1) * 12 + a1 - 1 + a3) % 12 + 1) (by omega) (by omega)]
      rw [show ((a0 - 1) * 12 + a1 - 1 + a3) / 12 + 1 = (12 * a0 + a1 - 1 + a3) / 12 by omega, show ((a0 - 1) * 12 + a1 - 1 + a3) % 12 = (12 * a0 + a1 - 1 + a3) % 12 by omega, min_if]
      have hl := lastDay_pos (y := (12 * a0 + a1 - 1 + a3) / 12) (m := (12 * a0 + a1 - 1 + a3) % 12 + 1) (by omega) (by omega) (by omega) (by omega)
      have hR : rightD ((12 * a0 + a1 - 1 + a3) / 12) ((12 * a0 + a1 - 1 + a3) % 12 + 1) (min a2 (lastDay ((12 * a0 + a1 - 1 + a3) / 12) ((12 * a0 + a1 - 1 + a3) % 12 + 1))) = true := rightD_iff.2 ⟨by omega, by omega⟩
      simp [hR, show ¬ a3 < -119988 by omega, show ¬ a3 > 119988 by omega, show ¬ (a0 - 1) * 12 + a1 - 1 + a3 < 0 by omega]
    · have hs : shiftOk a0 a1 a2 a3 = false := by simp [shiftOk, hr]; omega
      simp only [hr, hs, Bool.false_eq_true, if_false, Bool.not_true, cond_false]
      by_cases h1 : a3 < -119988
      · simp [h1]
      by_cases h2 : a3 > 119988
      · simp [h2]
      rw [wr (n := a0 - 1) (by omega) (by omega), wr (n := (a0 - 1) * 12) (by omega) (by omega), wr (n := (a0 - 1) * 12 + a1) (by omega) (by omega), wr (n := (a0 - 1) * 12 + a1 - 1) (by omega) (by omega), wr (n := (a0 - 1) * 12 + a1 - 1 + a3) (by omega) (by omega)]
      by_cases h3 : (a0 - 1) * 12 + a1 - 1 + a3 < 0
      · simp [h1, h2, h3]
      simp only [td _ (show 0 ≤ (a0 - 1) * 12 + a1 - 1 + a3 by omega), tm _ (show 0 ≤ (a0 - 1) * 12 + a1 - 1 + a3 by omega)]
      rw [wr (n := ((a0 - 1) * 12 + a1 - 1 + a3) / 12) (by omega) (by omega), wr (n := ((a0 - 1) * 12 + a1 - 1 + a3) / 12 + 1) (by omega) (by omega), wr (n := ((a0 - 1) * 12 + a1 - 1 + a3) % 12 + 1) (by omega) (by omega)]
      have hy : 9999 < ((a0 - 1) * 12 + a1 - 1 + a3) / 12 + 1 := by omega
      have hz : ∀ d, rightD (((a0 - 1) * 12 + a1 - 1 + a3) / 12 + 1) (((a0 - 1) * 12 + a1 - 1 + a3) % 12 + 1) d = false := by
        intro d
        cases hh : rightD (((a0 - 1) * 12 + a1 - 1 + a3) / 12 + 1) (((a0 - 1) * 12 + a1 - 1 + a3) % 12 + 1) d with
        | false => rfl
        | true => have := rightD_ym hh; omega
      simp [h1, h2, h3, hz]
  · simp only [Bool.not_eq_true] at hr
    have hs : shiftOk a0 a1 a2 a3 = false := by simp [shiftOk, hr]
    simp [hr, hs]

theorem right14 : EntRight Try.prog 14 e14 := ent_right (by
  intro xs v h
  unfold q14 at h
  split at h
  · rename_i a0 a1 a2 a3
    simp only [Option.some.injEq, Prod.mk.injEq, true_and] at h
    obtain rfl := h
    obtain ⟨m, hm⟩ := spec14 a0 a1 a2 a3
    exact told14 m a0 a1 a2 a3 hm rfl
  · cases h)


def q19 : List Sc → Option (Bool × Value)
  | [.i a0, .i a1, .i a2, .i a3] => some (true, .agg #[.int .i64 (shiftY a0 a1 a2 a3), .int .i64 (shiftM a0 a1 a2 a3), .int .i64 (shiftD a0 a1 a2 a3)])
  | _ => none
def e19 : List Value → Option (Bool × Value) := entOf [.agg [some .i64, some .i64, some .i64], .int .i64] q19

/-! cascade/cascaderef1.Shift -/
def t19 (m : Nat) (a0 : Int) (a1 : Int) (a2 : Int) (a3 : Int) : Option Value :=
  bif !(rightD a0 a1 a2) then
   some (.agg #[.int .i64 0, .int .i64 0, .int .i64 0])
  else
   bif decide (a3 > 120000) then
    some (.agg #[.int .i64 0, .int .i64 0, .int .i64 0])
   else
    bif decide (a3 < (-120000)) then
     some (.agg #[.int .i64 0, .int .i64 0, .int .i64 0])
    else
     let x4 : Int := (IntKind.i64.wrap ((IntKind.i64.wrap ((IntKind.i64.wrap ((IntKind.i64.wrap (12 * a0)) + a1)) - 1)) + a3))
     bif decide (x4 < 12) then
      some (.agg #[.int .i64 0, .int .i64 0, .int .i64 0])
     else
      bif decide (x4 ≥ 120000) then
       some (.agg #[.int .i64 0, .int .i64 0, .int .i64 0])
      else
       let x5 : Int := (IntKind.i64.wrap (x4.tdiv 12))
       let x6 : Int := (IntKind.i64.wrap ((x4.tmod 12) + 1))
       some (.agg #[.int .i64 x5, .int .i64 x6, .int .i64 (if (lastDay x5 x6) < a2 then (lastDay x5 x6) else a2)])
def T19 : Tab := tabOf [(20, e20), (22, e22)]
theorem T19_right : Known.right Try.prog T19 := tab_right (all1 right20 (all1 right22 all0))
theorem G19 (m : Nat) (a0 : Int) (a1 : Int) (a2 : Int) (a3 : Int) : roadIn Try.prog T19 (fun _ => true) (fnOf Try.prog 19) [.agg #[.int .i64 a0, .int .i64 a1, .int .i64 a2], .int .i64 a3] (kks (fnOf Try.prog 19).results.toList Try.prog []) = t19 m a0 a1 a2 a3 := by kernel_rfl
theorem told19 (m : Nat) (a0 : Int) (a1 : Int) (a2 : Int) (a3 : Int) {v : Value} (h : t19 m a0 a1 a2 a3 = some v) (hv : plainT v = true) : ToldOk Try.prog 19 [.agg #[.int .i64 a0, .int .i64 a1, .int .i64 a2], .int .i64 a3] v :=
  told_road' (S := []) Seat.mix Seat.names T19_right (by kernel_rfl) (by kernel_rfl) (by kernel_rfl)
    all0 ((G19 m a0 a1 a2 a3).trans h) rfl hv

theorem spec19 (a0 : Int) (a1 : Int) (a2 : Int) (a3 : Int) : ∃ m, t19 m a0 a1 a2 a3 = some (.agg #[.int .i64 (shiftY a0 a1 a2 a3), .int .i64 (shiftM a0 a1 a2 a3), .int .i64 (shiftD a0 a1 a2 a3)]) := by
  refine ⟨0, ?_⟩
  unfold t19 shiftY shiftM shiftD
  by_cases hr : rightD a0 a1 a2 = true
  · obtain ⟨y1, y2, m1, m2⟩ := rightD_ym hr
    obtain ⟨d1, d2⟩ := rightD_iff.1 hr
    by_cases hk : 12 ≤ 12 * a0 + a1 - 1 + a3 ∧ 12 * a0 + a1 - 1 + a3 < 120000
    · have hs : shiftOk a0 a1 a2 a3 = true := by simp [shiftOk, hr, hk]
      simp only [hr, hs, if_true, Bool.not_true, cond_false]
      rw [wr (n := 12 * a0) (by omega) (by omega), wr (n := 12 * a0 + a1) (by omega) (by omega), wr (n := 12 * a0 + a1 - 1) (by omega) (by omega), wr (n := 12 * a0 + a1 - 1 + a3) (by omega) (by omega)]
      simp only [td _ (show 0 ≤ 12 * a0 + a1 - 1 + a3 by omega), tm _ (show 0 ≤ 12 * a0 + a1 - 1 + a3 by omega)]
      rw [wr (n := (12 * a0 + a1 - 1 + a3) / 12) (by omega) (by omega), wr (n := (12 * a0 + a1 - 1 + a3) % 12 + 1) (by omega) (by omega), min_if]
      simp [show ¬ a3 < -120000 by omega, show ¬ a3 > 120000 by omega, show ¬ 12 * a0 + a1 - 1 + a3 < 12 by omega, show ¬ 12 * a0 + a1 - 1 + a3 ≥ 120000 by omega]
    · have hs : shiftOk a0 a1 a2 a3 = false := by simp [shiftOk, hr]; omega
      simp only [hr, hs, Bool.false_eq_true, if_false, Bool.not_true, cond_false]
      by_cases h1 : a3 > 120000
      · simp [h1]
      by_cases h2 : a3 < -120000
      · simp [h2]
      rw [wr (n := 12 * a0) (by omega) (by omega), wr (n := 12 * a0 + a1) (by omega) (by omega), wr (n := 12 * a0 + a1 - 1) (by omega) (by omega), wr (n := 12 * a0 + a1 - 1 + a3) (by omega) (by omega)]
      by_cases h3 : 12 * a0 + a1 - 1 + a3 < 12
      · simp [h1, h2, h3]
      · simp [h1, h2, h3, show 12 * a0 + a1 - 1 + a3 ≥ 120000 by omega]
  · simp only [Bool.not_eq_true] at hr
    have hs : shiftOk a0 a1 a2 a3 = false := by simp [shiftOk, hr]
    simp [hr, hs]

theorem right19 : EntRight Try.prog 19 e19 := ent_right (by
  intro xs v h
  unfold q19 at h
  split at h
  · rename_i a0 a1 a2 a3
    simp only [Option.some.injEq, Prod.mk.injEq, true_and] at h
    obtain rfl := h
    obtain ⟨m, hm⟩ := spec19 a0 a1 a2 a3
    exact told19 m a0 a1 a2 a3 hm rfl
  · cases h)

def within (a lo hi : Int) : Int := lo + a % (hi - lo + 1)
theorem within_le {a lo hi : Int} (h : lo ≤ hi) : lo ≤ within a lo hi ∧ within a lo hi ≤ hi := by
  unfold within
  have := Int.emod_nonneg a (show hi - lo + 1 ≠ 0 by omega)
  have := Int.emod_lt_of_pos a (show 0 < hi - lo + 1 by omega)
  omega

def q24 : List Sc → Option (Bool × Value)
  | [.i a0, .i a1, .i a2] => some (decide (-2305843009213693952 ≤ a1 ∧ a1 ≤ a2 ∧ a2 ≤ 2305843009213693952), .int .i64 (within a0 a1 a2))
  | _ => none
def e24 : List Value → Option (Bool × Value) := entOf [.int .i64, .int .i64, .int .i64] q24

/-! cascade/cascadebook.Within -/
def t24 (m : Nat) (a0 : Int) (a1 : Int) (a2 : Int) : Option Value :=
  let x2 : Int := (IntKind.i64.wrap ((IntKind.i64.wrap (a2 - a1)) + 1))
  bif decide (x2 = 0) then
   none
  else
   bif (decide ((a0.tmod x2) < 0)) then
    some (.int .i64 (IntKind.i64.wrap (a1 + (IntKind.i64.wrap ((IntKind.i64.wrap ((IntKind.i64.wrap ((a0.tmod x2) + a2)) - a1)) + 1)))))
   else
    some (.int .i64 (IntKind.i64.wrap (a1 + (a0.tmod x2))))
def T24 : Tab := tabOf []
theorem T24_right : Known.right Try.prog T24 := tab_right all0
theorem G24 (m : Nat) (a0 : Int) (a1 : Int) (a2 : Int) : roadIn Try.prog T24 (fun _ => true) (fnOf Try.prog 24) [.int .i64 a0, .int .i64 a1, .int .i64 a2] (kks (fnOf Try.prog 24).results.toList Try.prog []) = t24 m a0 a1 a2 := by kernel_rfl
theorem told24 (m : Nat) (a0 : Int) (a1 : Int) (a2 : Int) {v : Value} (h : t24 m a0 a1 a2 = some v) (hv : plainT v = true) : ToldOk Try.prog 24 [.int .i64 a0, .int .i64 a1, .int .i64 a2] v :=
  told_road' (S := []) Seat.mix Seat.names T24_right (by kernel_rfl) (by kernel_rfl) (by kernel_rfl)
    all0 ((G24 m a0 a1 a2).trans h) rfl hv

theorem spec24 (a0 : Int) (a1 : Int) (a2 : Int) (hc : (decide (-2305843009213693952 ≤ a1 ∧ a1 ≤ a2 ∧ a2 ≤ 2305843009213693952)) = true) : ∃ m, t24 m a0 a1 a2 = some (.int .i64 (within a0 a1 a2)) := by
  refine ⟨0, ?_⟩
  unfold t24 within
  obtain ⟨h1, h2, h3⟩ := of_decide_eq_true hc
  simp only []
  rw [wr (n := a2 - a1) (by omega) (by omega), wr (n := a2 - a1 + 1) (by omega) (by omega)]
  generalize hw : a2 - a1 + 1 = w
  have hp : 0 < w := by omega
  have e := Int.emod_nonneg a0 (show w ≠ 0 by omega)
  have e2 := Int.emod_lt_of_pos a0 hp
  simp only [show ¬ w = 0 by omega, decide_false, cond_false]
  by_cases hn : 0 ≤ a0
  · rw [tm _ hn, wr (n := a1 + a0 % w) (by omega) (by omega)]
    simp [show ¬ a0 % w < 0 by omega]
  · have ht : a0.tmod w = if a0 % w = 0 then 0 else a0 % w - w := by
      rw [Int.tmod_eq_emod]
      have hd : (w ∣ a0) ↔ a0 % w = 0 := Int.dvd_iff_emod_eq_zero
      simp only [hn, false_or, hd]
      split <;> omega
    rw [ht]
    by_cases hz : a0 % w = 0
    · rw [if_pos hz, hz, wr (n := a1 + 0) (by omega) (by omega)]
      simp
    · rw [if_neg hz]
      clear ht
      rw [wr (n := a0 % w - w + a2) (by omega) (by omega), wr (n := a0 % w - w + a2 - a1) (by omega) (by omega), wr (n := a0 % w - w + a2 - a1 + 1) (by omega) (by omega)]
      rw [show a0 % w - w + a2 - a1 + 1 = a0 % w by omega, wr (n := a1 + a0 % w) (by omega) (by omega)]
      simp [show a0 % w - w < 0 by omega]

theorem right24 : EntRight Try.prog 24 e24 := ent_right (by
  intro xs v h
  unfold q24 at h
  split at h
  · rename_i a0 a1 a2
    simp only [Option.some.injEq, Prod.mk.injEq] at h
    obtain ⟨hc, rfl⟩ := h
    obtain ⟨m, hm⟩ := spec24 a0 a1 a2 hc
    exact told24 m a0 a1 a2 hm rfl
  · cases h)

def q3 : List Sc → Option (Bool × Value)
  | [] => some (true, .bool (true))
  | _ => none
def e3 : List Value → Option (Bool × Value) := entOf [] q3

theorem runCivilRuns : yes (callE Try.prog [] (fun _ _ => none) 100 3 [] nil) = true := by kernel_rfl
theorem toldCivilRuns : ToldOk Try.prog 3 [] (.bool true) := told_yes Seat.mix Seat.names (fun _ _ _ h => by cases h) runCivilRuns
theorem right3 : EntRight Try.prog 3 e3 := ent_right (by
  intro xs v h
  unfold q3 at h
  split at h
  · simp only [Option.some.injEq, Prod.mk.injEq, true_and] at h
    obtain rfl := h
    exact toldCivilRuns
  · cases h)

end Go.Proofs.Ytlnnlkjjgenddaa
