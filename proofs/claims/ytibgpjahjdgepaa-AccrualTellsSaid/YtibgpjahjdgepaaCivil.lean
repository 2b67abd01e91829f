/- Chapter 2's functions, as they are answered by the program and by the document: one date for both. Conditions: none. -/
import Derived.Test.YtibgpjahjdgepaaBase
namespace Go.Proofs.Ytibgpjahjdgepaa
open Go Go.Proofs.Ytibgpjahjdgepaa.Ev
set_option linter.unusedVariables false
set_option linter.unusedSimpArgs false
set_option linter.unnecessarySimpa false
def leap (y : Int) : Bool := y.tmod 4 == 0 && (y.tmod 100 != 0 || y.tmod 400 == 0)

def q46 : List Sc → Option (Bool × Value)
  | [.i a0] => some (true, .bool (leap a0))
  | _ => none
def e46 : List Value → Option (Bool × Value) := entOf [.int .i64] q46

/-! cascade/civil.leap -/
def t46 (m : Nat) (a0 : Int) : Option Value :=
  bif (a0.tmod 4) == 0 then
   bif (a0.tmod 100) != 0 then
    some (.bool true)
   else
    some (.bool ((a0.tmod 400) == 0))
  else
   some (.bool false)
def T46 : Tab := tabOf []
theorem T46_right : Known.right Try.prog T46 := tab_right all0
theorem G46 (m : Nat) (a0 : Int) : roadIn Try.prog T46 (fun _ => true) (fnOf Try.prog 46) [.int .i64 a0] (kks (fnOf Try.prog 46).results.toList Try.prog []) = t46 m a0 := by kernel_rfl
theorem told46 (m : Nat) (a0 : Int) {v : Value} (h : t46 m a0 = some v) (hv : plainT v = true) : ToldOk Try.prog 46 [.int .i64 a0] v :=
  told_road' (S := []) Seat.mix Seat.names T46_right (by kernel_rfl) (by kernel_rfl) (by kernel_rfl)
    all0 ((G46 m a0).trans h) rfl hv

theorem spec46 (a0 : Int) : ∃ m, t46 m a0 = some (.bool (leap a0)) := by
  refine ⟨0, ?_⟩
  unfold t46 leap
  cases (a0.tmod 4 == 0) <;> cases (a0.tmod 100 != 0) <;> rfl

theorem right46 : EntRight Try.prog 46 e46 := ent_right (by
  intro xs v h
  unfold q46 at h
  split at h
  · rename_i a0
    simp only [Option.some.injEq, Prod.mk.injEq, true_and] at h
    obtain rfl := h
    obtain ⟨m, hm⟩ := spec46 a0
    exact told46 m a0 hm rfl
  · cases h)


def q48 : List Sc → Option (Bool × Value)
  | [.i a0] => some (true, .bool (leap a0))
  | _ => none
def e48 : List Value → Option (Bool × Value) := entOf [.int .i64] q48

/-! cascade/cascaderef1.leap -/
def t48 (m : Nat) (a0 : Int) : Option Value :=
  bif (a0.tmod 4) == 0 then
   bif (a0.tmod 100) != 0 then
    some (.bool true)
   else
    some (.bool ((a0.tmod 400) == 0))
  else
   some (.bool false)
def T48 : Tab := tabOf []
theorem T48_right : Known.right Try.prog T48 := tab_right all0
theorem G48 (m : Nat) (a0 : Int) : roadIn Try.prog T48 (fun _ => true) (fnOf Try.prog 48) [.int .i64 a0] (kks (fnOf Try.prog 48).results.toList Try.prog []) = t48 m a0 := by kernel_rfl
theorem told48 (m : Nat) (a0 : Int) {v : Value} (h : t48 m a0 = some v) (hv : plainT v = true) : ToldOk Try.prog 48 [.int .i64 a0] v :=
  told_road' (S := []) Seat.mix Seat.names T48_right (by kernel_rfl) (by kernel_rfl) (by kernel_rfl)
    all0 ((G48 m a0).trans h) rfl hv

theorem spec48 (a0 : Int) : ∃ m, t48 m a0 = some (.bool (leap a0)) := by
  refine ⟨0, ?_⟩
  unfold t48 leap
  cases (a0.tmod 4 == 0) <;> cases (a0.tmod 100 != 0) <;> rfl

theorem right48 : EntRight Try.prog 48 e48 := ent_right (by
  intro xs v h
  unfold q48 at h
  split at h
  · rename_i a0
    simp only [Option.some.injEq, Prod.mk.injEq, true_and] at h
    obtain rfl := h
    obtain ⟨m, hm⟩ := spec48 a0
    exact told48 m a0 hm rfl
  · cases h)

def lastDay (y m : Int) : Int :=
  if y < 1 ∨ y > 9999 ∨ m < 1 ∨ m > 12 then 0
  else if m = 2 then (if leap y then 29 else 28)
  else if m = 4 ∨ m = 6 ∨ m = 9 ∨ m = 11 then 30 else 31
theorem lastDay_le (y m : Int) : 0 ≤ lastDay y m ∧ lastDay y m ≤ 31 := by
  unfold lastDay; repeat' split
  all_goals omega

def q40 : List Sc → Option (Bool × Value)
  | [.i a0, .i a1] => some (true, .int .i64 (lastDay a0 a1))
  | _ => none
def e40 : List Value → Option (Bool × Value) := entOf [.int .i64, .int .i64] q40

/-! cascade/civil.Last -/
def t40 (m : Nat) (a0 : Int) (a1 : Int) : Option Value :=
  bif decide (a0 < 1) then
   some (.int .i64 0)
  else
   bif decide (a0 > 9999) then
    some (.int .i64 0)
   else
    bif decide (a1 < 1) then
     some (.int .i64 0)
    else
     bif decide (a1 > 12) then
      some (.int .i64 0)
     else
      bif a1 == 2 then
       bif (leap a0) then
        some (.int .i64 29)
       else
        bif a1 == 2 then
         some (.int .i64 28)
        else
         bif a1 == 4 then
          some (.int .i64 30)
         else
          bif a1 == 6 then
           some (.int .i64 30)
          else
           bif a1 == 9 then
            some (.int .i64 30)
           else
            bif a1 == 11 then
             some (.int .i64 30)
            else
             some (.int .i64 31)
      else
       bif a1 == 2 then
        some (.int .i64 28)
       else
        bif a1 == 4 then
         some (.int .i64 30)
        else
         bif a1 == 6 then
          some (.int .i64 30)
         else
          bif a1 == 9 then
           some (.int .i64 30)
          else
           bif a1 == 11 then
            some (.int .i64 30)
           else
            some (.int .i64 31)
def T40 : Tab := tabOf [(46, e46)]
theorem T40_right : Known.right Try.prog T40 := tab_right (all1 right46 all0)
theorem G40 (m : Nat) (a0 : Int) (a1 : Int) : roadIn Try.prog T40 (fun _ => true) (fnOf Try.prog 40) [.int .i64 a0, .int .i64 a1] (kks (fnOf Try.prog 40).results.toList Try.prog []) = t40 m a0 a1 := by kernel_rfl
theorem told40 (m : Nat) (a0 : Int) (a1 : Int) {v : Value} (h : t40 m a0 a1 = some v) (hv : plainT v = true) : ToldOk Try.prog 40 [.int .i64 a0, .int .i64 a1] v :=
  told_road' (S := []) Seat.mix Seat.names T40_right (by kernel_rfl) (by kernel_rfl) (by kernel_rfl)
    all0 ((G40 m a0 a1).trans h) rfl hv

theorem spec40 (a0 : Int) (a1 : Int) : ∃ m, t40 m a0 a1 = some (.int .i64 (lastDay a0 a1)) := by
  refine ⟨0, ?_⟩
  unfold t40 lastDay
  simp only [beq_iff_eq, Bool.cond_eq_ite]
  grind

theorem right40 : EntRight Try.prog 40 e40 := ent_right (by
  intro xs v h
  unfold q40 at h
  split at h
  · rename_i a0 a1
    simp only [Option.some.injEq, Prod.mk.injEq, true_and] at h
    obtain rfl := h
    obtain ⟨m, hm⟩ := spec40 a0 a1
    exact told40 m a0 a1 hm rfl
  · cases h)


def q45 : List Sc → Option (Bool × Value)
  | [.i a0, .i a1] => some (true, .int .i64 (lastDay a0 a1))
  | _ => none
def e45 : List Value → Option (Bool × Value) := entOf [.int .i64, .int .i64] q45

/-! cascade/cascaderef1.Last -/
def t45 (m : Nat) (a0 : Int) (a1 : Int) : Option Value :=
  bif decide (a0 < 1) then
   some (.int .i64 0)
  else
   bif decide (a0 > 9999) then
    some (.int .i64 0)
   else
    bif decide (a1 < 1) then
     some (.int .i64 0)
    else
     bif decide (a1 > 12) then
      some (.int .i64 0)
     else
      bif a1 == 2 then
       bif (leap a0) then
        some (.int .i64 29)
       else
        bif a1 == 2 then
         some (.int .i64 28)
        else
         bif a1 == 4 then
          some (.int .i64 30)
         else
          bif a1 == 6 then
           some (.int .i64 30)
          else
           bif a1 == 9 then
            some (.int .i64 30)
           else
            bif a1 == 11 then
             some (.int .i64 30)
            else
             some (.int .i64 31)
      else
       bif a1 == 2 then
        some (.int .i64 28)
       else
        bif a1 == 4 then
         some (.int .i64 30)
        else
         bif a1 == 6 then
          some (.int .i64 30)
         else
          bif a1 == 9 then
           some (.int .i64 30)
          else
           bif a1 == 11 then
            some (.int .i64 30)
           else
            some (.int .i64 31)
def T45 : Tab := tabOf [(48, e48)]
theorem T45_right : Known.right Try.prog T45 := tab_right (all1 right48 all0)
theorem G45 (m : Nat) (a0 : Int) (a1 : Int) : roadIn Try.prog T45 (fun _ => true) (fnOf Try.prog 45) [.int .i64 a0, .int .i64 a1] (kks (fnOf Try.prog 45).results.toList Try.prog []) = t45 m a0 a1 := by kernel_rfl
theorem told45 (m : Nat) (a0 : Int) (a1 : Int) {v : Value} (h : t45 m a0 a1 = some v) (hv : plainT v = true) : ToldOk Try.prog 45 [.int .i64 a0, .int .i64 a1] v :=
  told_road' (S := []) Seat.mix Seat.names T45_right (by kernel_rfl) (by kernel_rfl) (by kernel_rfl)
    all0 ((G45 m a0 a1).trans h) rfl hv

theorem spec45 (a0 : Int) (a1 : Int) : ∃ m, t45 m a0 a1 = some (.int .i64 (lastDay a0 a1)) := by
  refine ⟨0, ?_⟩
  unfold t45 lastDay
  simp only [beq_iff_eq, Bool.cond_eq_ite]
  grind

theorem right45 : EntRight Try.prog 45 e45 := ent_right (by
  intro xs v h
  unfold q45 at h
  split at h
  · rename_i a0 a1
    simp only [Option.some.injEq, Prod.mk.injEq, true_and] at h
    obtain rfl := h
    obtain ⟨m, hm⟩ := spec45 a0 a1
    exact told45 m a0 a1 hm rfl
  · cases h)

def rightD (y m d : Int) : Bool := decide (d ≥ 1 ∧ d ≤ lastDay y m)
theorem rightD_iff {y m d : Int} : rightD y m d = true ↔ 1 ≤ d ∧ d ≤ lastDay y m := by simp [rightD]
theorem rightD_ym {y m d : Int} (h : rightD y m d = true) : 1 ≤ y ∧ y ≤ 9999 ∧ 1 ≤ m ∧ m ≤ 12 := by
  obtain ⟨h1, h2⟩ := rightD_iff.1 h
  unfold lastDay at h2
  split at h2 <;> omega

def q32 : List Sc → Option (Bool × Value)
  | [.i a0, .i a1, .i a2] => some (true, .bool (rightD a0 a1 a2))
  | _ => none
def e32 : List Value → Option (Bool × Value) := entOf [.agg [some .i64, some .i64, some .i64]] q32

/-! (cascade/civil.Date).Right -/
def t32 (m : Nat) (a0 : Int) (a1 : Int) (a2 : Int) : Option Value :=
  bif decide (a2 ≥ 1) then
   some (.bool (decide (a2 ≤ (lastDay a0 a1))))
  else
   some (.bool false)
def T32 : Tab := tabOf [(40, e40)]
theorem T32_right : Known.right Try.prog T32 := tab_right (all1 right40 all0)
theorem G32 (m : Nat) (a0 : Int) (a1 : Int) (a2 : Int) : roadIn Try.prog T32 (fun _ => true) (fnOf Try.prog 32) [.agg #[.int .i64 a0, .int .i64 a1, .int .i64 a2]] (kks (fnOf Try.prog 32).results.toList Try.prog []) = t32 m a0 a1 a2 := by kernel_rfl
theorem told32 (m : Nat) (a0 : Int) (a1 : Int) (a2 : Int) {v : Value} (h : t32 m a0 a1 a2 = some v) (hv : plainT v = true) : ToldOk Try.prog 32 [.agg #[.int .i64 a0, .int .i64 a1, .int .i64 a2]] v :=
  told_road' (S := []) Seat.mix Seat.names T32_right (by kernel_rfl) (by kernel_rfl) (by kernel_rfl)
    all0 ((G32 m a0 a1 a2).trans h) rfl hv

theorem spec32 (a0 : Int) (a1 : Int) (a2 : Int) : ∃ m, t32 m a0 a1 a2 = some (.bool (rightD a0 a1 a2)) := by
  refine ⟨0, ?_⟩
  unfold t32 rightD
  by_cases h : a2 ≥ 1 <;> simp [h]

theorem right32 : EntRight Try.prog 32 e32 := ent_right (by
  intro xs v h
  unfold q32 at h
  split at h
  · rename_i a0 a1 a2
    simp only [Option.some.injEq, Prod.mk.injEq, true_and] at h
    obtain rfl := h
    obtain ⟨m, hm⟩ := spec32 a0 a1 a2
    exact told32 m a0 a1 a2 hm rfl
  · cases h)


def q36 : List Sc → Option (Bool × Value)
  | [.i a0, .i a1, .i a2] => some (true, .bool (rightD a0 a1 a2))
  | _ => none
def e36 : List Value → Option (Bool × Value) := entOf [.agg [some .i64, some .i64, some .i64]] q36

/-! cascade/cascaderef1.Right -/
def t36 (m : Nat) (a0 : Int) (a1 : Int) (a2 : Int) : Option Value :=
  bif decide (a2 ≥ 1) then
   some (.bool (decide (a2 ≤ (lastDay a0 a1))))
  else
   some (.bool false)
def T36 : Tab := tabOf [(45, e45)]
theorem T36_right : Known.right Try.prog T36 := tab_right (all1 right45 all0)
theorem G36 (m : Nat) (a0 : Int) (a1 : Int) (a2 : Int) : roadIn Try.prog T36 (fun _ => true) (fnOf Try.prog 36) [.agg #[.int .i64 a0, .int .i64 a1, .int .i64 a2]] (kks (fnOf Try.prog 36).results.toList Try.prog []) = t36 m a0 a1 a2 := by kernel_rfl
theorem told36 (m : Nat) (a0 : Int) (a1 : Int) (a2 : Int) {v : Value} (h : t36 m a0 a1 a2 = some v) (hv : plainT v = true) : ToldOk Try.prog 36 [.agg #[.int .i64 a0, .int .i64 a1, .int .i64 a2]] v :=
  told_road' (S := []) Seat.mix Seat.names T36_right (by kernel_rfl) (by kernel_rfl) (by kernel_rfl)
    all0 ((G36 m a0 a1 a2).trans h) rfl hv

theorem spec36 (a0 : Int) (a1 : Int) (a2 : Int) : ∃ m, t36 m a0 a1 a2 = some (.bool (rightD a0 a1 a2)) := by
  refine ⟨0, ?_⟩
  unfold t36 rightD
  by_cases h : a2 ≥ 1 <;> simp [h]

theorem right36 : EntRight Try.prog 36 e36 := ent_right (by
  intro xs v h
  unfold q36 at h
  split at h
  · rename_i a0 a1 a2
    simp only [Option.some.injEq, Prod.mk.injEq, true_and] at h
    obtain rfl := h
    obtain ⟨m, hm⟩ := spec36 a0 a1 a2
    exact told36 m a0 a1 a2 hm rfl
  · cases h)

/-- The days ahead of a year. -/
def ahead0 (y : Int) : Int := (y - 1) * 365 + (y - 1) / 4 - (y - 1) / 100 + (y - 1) / 400
def aheadW (y : Int) : Int :=
  let x1 : Int := (IntKind.i64.wrap (y - 1))
  IntKind.i64.wrap ((IntKind.i64.wrap ((IntKind.i64.wrap ((IntKind.i64.wrap (x1 * 365)) + (IntKind.i64.wrap (x1.tdiv 4)))) - (IntKind.i64.wrap (x1.tdiv 100)))) + (IntKind.i64.wrap (x1.tdiv 400)))
theorem aheadW_eq {y : Int} (h1 : 1 ≤ y) (h2 : y ≤ 20000) : aheadW y = ahead0 y := by
  unfold aheadW ahead0
  rw [wr (n := y - 1) (by omega) (by omega)]
  simp only [td _ (show 0 ≤ y - 1 by omega)]
  rw [wr (n := (y - 1) * 365) (by omega) (by omega), wr (n := (y - 1) / 4) (by omega) (by omega), wr (n := (y - 1) / 100) (by omega) (by omega), wr (n := (y - 1) / 400) (by omega) (by omega)]
  rw [wr (n := (y - 1) * 365 + (y - 1) / 4) (by omega) (by omega), wr (n := (y - 1) * 365 + (y - 1) / 4 - (y - 1) / 100) (by omega) (by omega), wr (by omega) (by omega)]
/-- Is the year leap, as a number? -/
def leapN (y : Int) : Int := if leap y then 1 else 0
theorem leapN_le (y : Int) : 0 ≤ leapN y ∧ leapN y ≤ 1 := by unfold leapN; split <;> omega
theorem leap_iff {y : Int} (h : 1 ≤ y) : leap y = true ↔ (y % 4 = 0 ∧ (y % 100 ≠ 0 ∨ y % 400 = 0)) := by
  unfold leap
  simp [tm _ (show 0 ≤ y by omega)]
theorem ahead_next {y : Int} (h : 1 ≤ y) : ahead0 (y + 1) = ahead0 y + 365 + leapN y := by
  unfold ahead0 leapN
  by_cases hl : leap y = true
  · rw [if_pos hl]; have := (leap_iff h).1 hl; omega
  · rw [if_neg hl]
    have : ¬ (y % 4 = 0 ∧ (y % 100 ≠ 0 ∨ y % 400 = 0)) := fun h' => hl ((leap_iff h).2 h')
    omega
/-- The days of a year ahead of a month. -/
def before (y m : Int) : Int :=
  if m ≤ 1 then 0 else if m = 2 then 31 else if m = 3 then 59 + leapN y else if m = 4 then 90 + leapN y else if m = 5 then 120 + leapN y else if m = 6 then 151 + leapN y
  else if m = 7 then 181 + leapN y else if m = 8 then 212 + leapN y else if m = 9 then 243 + leapN y else if m = 10 then 273 + leapN y else if m = 11 then 304 + leapN y else if m = 12 then 334 + leapN y else 365 + leapN y
theorem month_cases {m : Int} (h1 : 1 ≤ m) (h2 : m ≤ 12) : m = 1 ∨ m = 2 ∨ m = 3 ∨ m = 4 ∨ m = 5 ∨ m = 6 ∨ m = 7 ∨ m = 8 ∨ m = 9 ∨ m = 10 ∨ m = 11 ∨ m = 12 := by omega
theorem before_next {y m : Int} (hy : 1 ≤ y) (hy' : y ≤ 9999) (h1 : 1 ≤ m) (h2 : m ≤ 12) : before y (m + 1) = before y m + lastDay y m := by
  have := leapN_le y
  unfold before lastDay
  rw [if_neg (by omega)]
  unfold leapN
  rcases month_cases h1 h2 with rfl | rfl | rfl | rfl | rfl | rfl | rfl | rfl | rfl | rfl | rfl | rfl <;> simp [show ¬ y < 1 by omega, show ¬ 9999 < y by omega] <;> (try split) <;> omega
theorem before_le {y m : Int} : 0 ≤ before y m ∧ before y m ≤ 366 := by
  have := leapN_le y
  by_cases h1 : m ≤ 1
  · simp [before, h1]
  by_cases h2 : m ≤ 12
  · rcases month_cases (by omega) h2 with rfl | rfl | rfl | rfl | rfl | rfl | rfl | rfl | rfl | rfl | rfl | rfl <;> simp [before] <;> omega
  · have : before y m = 365 + leapN y := by
      simp [before, h1, show m ≠ 2 by omega, show m ≠ 3 by omega, show m ≠ 4 by omega, show m ≠ 5 by omega, show m ≠ 6 by omega, show m ≠ 7 by omega, show m ≠ 8 by omega, show m ≠ 9 by omega, show m ≠ 10 by omega, show m ≠ 11 by omega, show m ≠ 12 by omega]
    omega

def q39 : List Sc → Option (Bool × Value)
  | [.i a0] => some (true, .int .i64 (aheadW a0))
  | _ => none
def e39 : List Value → Option (Bool × Value) := entOf [.int .i64] q39

/-! cascade/civil.ahead -/
def t39 (m : Nat) (a0 : Int) : Option Value :=
  let x1 : Int := (IntKind.i64.wrap (a0 - 1))
  some (.int .i64 (IntKind.i64.wrap ((IntKind.i64.wrap ((IntKind.i64.wrap ((IntKind.i64.wrap (x1 * 365)) + (IntKind.i64.wrap (x1.tdiv 4)))) - (IntKind.i64.wrap (x1.tdiv 100)))) + (IntKind.i64.wrap (x1.tdiv 400)))))
def T39 : Tab := tabOf []
theorem T39_right : Known.right Try.prog T39 := tab_right all0
theorem G39 (m : Nat) (a0 : Int) : roadIn Try.prog T39 (fun _ => true) (fnOf Try.prog 39) [.int .i64 a0] (kks (fnOf Try.prog 39).results.toList Try.prog []) = t39 m a0 := by kernel_rfl
theorem told39 (m : Nat) (a0 : Int) {v : Value} (h : t39 m a0 = some v) (hv : plainT v = true) : ToldOk Try.prog 39 [.int .i64 a0] v :=
  told_road' (S := []) Seat.mix Seat.names T39_right (by kernel_rfl) (by kernel_rfl) (by kernel_rfl)
    all0 ((G39 m a0).trans h) rfl hv

theorem spec39 (a0 : Int) : ∃ m, t39 m a0 = some (.int .i64 (aheadW a0)) := by
  exact ⟨0, rfl⟩

theorem right39 : EntRight Try.prog 39 e39 := ent_right (by
  intro xs v h
  unfold q39 at h
  split at h
  · rename_i a0
    simp only [Option.some.injEq, Prod.mk.injEq, true_and] at h
    obtain rfl := h
    obtain ⟨m, hm⟩ := spec39 a0
    exact told39 m a0 hm rfl
  · cases h)

/-- The days since the first of the first year; -1: there is no such date. -/
def number (y m d : Int) : Int := if rightD y m d then ahead0 y + before y m + d - 1 else -1

def q26 : List Sc → Option (Bool × Value)
  | [.i a0, .i a1, .i a2] => some (true, .int .i64 (number a0 a1 a2))
  | _ => none
def e26 : List Value → Option (Bool × Value) := entOf [.agg [some .i64, some .i64, some .i64]] q26

/-! (cascade/civil.Date).Number -/
def L26_0s (m : Nat) (k : List Sc → Option Value) : List Sc → Option Value
  | [.i a0, .i a1, .i a2, .i a3, .i a4] =>
    bif decide (a1 < a3) then
     k [.i (IntKind.i64.wrap (a0 + (lastDay a2 a1))), .i (IntKind.i64.wrap (a1 + 1)), .i a2, .i a3, .i a4]
    else
     some (.int .i64 a0)
  | _ => none
def L26_0 (m : Nat) : Nat → List Sc → Option Value := iter (L26_0s m)
theorem L26_0_succ (m : Nat) (n : Nat) : L26_0 m (n + 1) = L26_0s m (L26_0 m n) := rfl
def S26_0 (F : List Sc → Option Value) : Stop := ⟨[.lp [0, 1, 0, 1, 1, 1], .blk 0, .code [1, 1, 1, 1]], ⟨28, [(1, .lit (.pointer (some ⟨0, 0, none⟩))), (3, .int .i64), (4, .int .i64)], 1, (.n (some [.int .i64, .int .i64, .int .i64]) .e .e)⟩, F⟩
def t26 (m : Nat) (a0 : Int) (a1 : Int) (a2 : Int) : Option Value :=
  bif !(rightD a0 a1 a2) then
   some (.int .i64 (-1))
  else
   L26_0 m m [.i (IntKind.i64.wrap ((IntKind.i64.wrap ((aheadW a0) + a2)) - 1)), .i 1, .i a0, .i a1, .i a2]
def T26 : Tab := tabOf [(32, e32), (39, e39), (40, e40)]
theorem T26_right : Known.right Try.prog T26 := tab_right (all1 right32 (all1 right39 (all1 right40 all0)))
theorem G26_0 (m : Nat) (k : List Sc → Option Value) (g : Nat → Value) (a0 : Int) (a1 : Int) (a2 : Int) (a3 : Int) (a4 : Int) : roadFrom Try.prog T26 (fun _ => true) (bodyOf (fnOf Try.prog 26)) [0, 1, 0, 1, 1, 1] [.blk 0, .code [1, 1, 1, 1]] (S26_0 k).pat g [.i a0, .i a1, .i a2, .i a3, .i a4] (kks (fnOf Try.prog 26).results.toList Try.prog [S26_0 k]) = L26_0s m k [.i a0, .i a1, .i a2, .i a3, .i a4] := by kernel_rfl
theorem Y26_0 {m : Nat} {k : List Sc → Option Value} {xs : List Sc} {v : Value} (h : L26_0s m k xs = some v) : ∃ a0 a1 a2 a3 a4, xs = [.i a0, .i a1, .i a2, .i a3, .i a4] := by
  unfold L26_0s at h
  split at h
  · exact ⟨_, _, _, _, _, rfl⟩
  · cases h
theorem H26_0 (m : Nat) : ∀ n, (S26_0 (L26_0 m n)).Holds Try.prog [] (ofTab T26) (fnOf Try.prog 26).results.toList (bodyOf (fnOf Try.prog 26)) :=
  Stop.iter (mk := S26_0) (Fs := L26_0s m) (S := fun k => [S26_0 k]) (p := [0, 1, 0, 1, 1, 1]) (rest := [.blk 0, .code [1, 1, 1, 1]]) (pat := (S26_0 (fun _ => none)).pat) (stop := fun _ => true)
    (fun _ => rfl) (fun _ => rfl) (fun _ => rfl) (by kernel_rfl) (by kernel_rfl)
    (fun k h => (all1 h all0))
    (fun k g xs v h => by
      obtain ⟨a0, a1, a2, a3, a4, rfl⟩ := Y26_0 h
      exact (G26_0 m k g a0 a1 a2 a3 a4).trans h)
theorem G26 (m : Nat) (a0 : Int) (a1 : Int) (a2 : Int) : roadIn Try.prog T26 (fun _ => true) (fnOf Try.prog 26) [.agg #[.int .i64 a0, .int .i64 a1, .int .i64 a2]] (kks (fnOf Try.prog 26).results.toList Try.prog [S26_0 (L26_0 m m)]) = t26 m a0 a1 a2 := by kernel_rfl
theorem told26 (m : Nat) (a0 : Int) (a1 : Int) (a2 : Int) {v : Value} (h : t26 m a0 a1 a2 = some v) (hv : plainT v = true) : ToldOk Try.prog 26 [.agg #[.int .i64 a0, .int .i64 a1, .int .i64 a2]] v :=
  told_road' (S := [S26_0 (L26_0 m m)]) Seat.mix Seat.names T26_right (by kernel_rfl) (by kernel_rfl) (by kernel_rfl)
    (all1 (H26_0 m m) all0) ((G26 m a0 a1 a2).trans h) rfl hv

theorem spec26 (a0 : Int) (a1 : Int) (a2 : Int) : ∃ m, t26 m a0 a1 a2 = some (.int .i64 (number a0 a1 a2)) := by
  refine ⟨13, ?_⟩
  have key : ∀ (k : Nat) (j a : Int), rightD a0 a1 a2 = true → 1 ≤ j → j ≤ a1 → a1 - j < k → 0 ≤ a → a ≤ 100000000 + 31 * j → L26_0 13 k [.i a, .i j, .i a0, .i a1, .i a2] = some (.int .i64 (a + before a0 a1 - before a0 j)) := by
    intro k
    induction k with
    | zero => intro j a hr h1 h2 h3 h4 h5; omega
    | succ k ih =>
      intro j a hr h1 h2 h3 h4 h5
      obtain ⟨hy1, hy2, hm1, hm2⟩ := rightD_ym hr
      have hl := lastDay_le a0 j
      rw [L26_0_succ]; unfold L26_0s
      by_cases hj : j < a1
      · simp only [hj, decide_true, cond_true]
        rw [wr (n := a + lastDay a0 j) (by omega) (by omega), wr (n := j + 1) (by omega) (by omega), ih _ _ hr (by omega) (by omega) (by omega) (by omega) (by omega), before_next hy1 hy2 h1 (by omega)]
        congr 2; omega
      · have : j = a1 := by omega
        subst this
        simp only [hj, decide_false, cond_false]
        congr 2; omega
  unfold t26 number
  by_cases hr : rightD a0 a1 a2 = true
  · obtain ⟨hy1, hy2, hm1, hm2⟩ := rightD_ym hr
    obtain ⟨hd1, hd2⟩ := rightD_iff.1 hr
    have := lastDay_le a0 a1
    have ha : 0 ≤ ahead0 a0 ∧ ahead0 a0 ≤ 10000000 := by unfold ahead0; omega
    rw [hr, if_pos rfl, aheadW_eq hy1 (by omega), wr (n := ahead0 a0 + a2) (by omega) (by omega), wr (n := ahead0 a0 + a2 - 1) (by omega) (by omega)]
    simp only [Bool.not_true, cond_false]
    rw [key 13 1 _ hr (by omega) hm1 (by omega) (by omega) (by omega)]
    simp only [before]
    congr 2
    simp
    omega
  · simp only [Bool.not_eq_true] at hr
    simp [hr]

theorem right26 : EntRight Try.prog 26 e26 := ent_right (by
  intro xs v h
  unfold q26 at h
  split at h
  · rename_i a0 a1 a2
    simp only [Option.some.injEq, Prod.mk.injEq, true_and] at h
    obtain rfl := h
    obtain ⟨m, hm⟩ := spec26 a0 a1 a2
    exact told26 m a0 a1 a2 hm rfl
  · cases h)


def q37 : List Sc → Option (Bool × Value)
  | [.i a0, .i a1, .i a2] => some (true, .int .i64 (number a0 a1 a2))
  | _ => none
def e37 : List Value → Option (Bool × Value) := entOf [.agg [some .i64, some .i64, some .i64]] q37

/-! cascade/cascaderef1.Number -/
def L37_0s (m : Nat) (k : List Sc → Option Value) : List Sc → Option Value
  | [.i a0, .i a1, .i a2, .i a3, .i a4] =>
    bif decide (a1 < a3) then
     k [.i (IntKind.i64.wrap (a0 + (lastDay a2 a1))), .i (IntKind.i64.wrap (a1 + 1)), .i a2, .i a3, .i a4]
    else
     some (.int .i64 (IntKind.i64.wrap ((IntKind.i64.wrap (a0 + a4)) - 1)))
  | _ => none
def L37_0 (m : Nat) : Nat → List Sc → Option Value := iter (L37_0s m)
theorem L37_0_succ (m : Nat) (n : Nat) : L37_0 m (n + 1) = L37_0s m (L37_0 m n) := rfl
def S37_0 (F : List Sc → Option Value) : Stop := ⟨[.lp [0, 1, 0, 1, 1, 1, 1], .blk 0, .code [1, 1, 1, 1, 1]], ⟨40, [(1, .lit (.pointer (some ⟨0, 0, none⟩))), (4, .int .i64), (5, .int .i64)], 1, (.n (some [.int .i64, .int .i64, .int .i64]) .e .e)⟩, F⟩
def t37 (m : Nat) (a0 : Int) (a1 : Int) (a2 : Int) : Option Value :=
  bif !(rightD a0 a1 a2) then
   some (.int .i64 (-1))
  else
   let x1 : Int := (IntKind.i64.wrap (a0 - 1))
   L37_0 m m [.i (IntKind.i64.wrap ((IntKind.i64.wrap ((IntKind.i64.wrap ((IntKind.i64.wrap (365 * x1)) + (IntKind.i64.wrap (x1.tdiv 4)))) - (IntKind.i64.wrap (x1.tdiv 100)))) + (IntKind.i64.wrap (x1.tdiv 400)))), .i 1, .i a0, .i a1, .i a2]
def T37 : Tab := tabOf [(36, e36), (45, e45)]
theorem T37_right : Known.right Try.prog T37 := tab_right (all1 right36 (all1 right45 all0))
theorem G37_0 (m : Nat) (k : List Sc → Option Value) (g : Nat → Value) (a0 : Int) (a1 : Int) (a2 : Int) (a3 : Int) (a4 : Int) : roadFrom Try.prog T37 (fun _ => true) (bodyOf (fnOf Try.prog 37)) [0, 1, 0, 1, 1, 1, 1] [.blk 0, .code [1, 1, 1, 1, 1]] (S37_0 k).pat g [.i a0, .i a1, .i a2, .i a3, .i a4] (kks (fnOf Try.prog 37).results.toList Try.prog [S37_0 k]) = L37_0s m k [.i a0, .i a1, .i a2, .i a3, .i a4] := by kernel_rfl
theorem Y37_0 {m : Nat} {k : List Sc → Option Value} {xs : List Sc} {v : Value} (h : L37_0s m k xs = some v) : ∃ a0 a1 a2 a3 a4, xs = [.i a0, .i a1, .i a2, .i a3, .i a4] := by
  unfold L37_0s at h
  split at h
  · exact ⟨_, _, _, _, _, rfl⟩
  · cases h
theorem H37_0 (m : Nat) : ∀ n, (S37_0 (L37_0 m n)).Holds Try.prog [] (ofTab T37) (fnOf Try.prog 37).results.toList (bodyOf (fnOf Try.prog 37)) :=
  Stop.iter (mk := S37_0) (Fs := L37_0s m) (S := fun k => [S37_0 k]) (p := [0, 1, 0, 1, 1, 1, 1]) (rest := [.blk 0, .code [1, 1, 1, 1, 1]]) (pat := (S37_0 (fun _ => none)).pat) (stop := fun _ => true)
    (fun _ => rfl) (fun _ => rfl) (fun _ => rfl) (by kernel_rfl) (by kernel_rfl)
    (fun k h => (all1 h all0))
    (fun k g xs v h => by
      obtain ⟨a0, a1, a2, a3, a4, rfl⟩ := Y37_0 h
      exact (G37_0 m k g a0 a1 a2 a3 a4).trans h)
theorem G37 (m : Nat) (a0 : Int) (a1 : Int) (a2 : Int) : roadIn Try.prog T37 (fun _ => true) (fnOf Try.prog 37) [.agg #[.int .i64 a0, .int .i64 a1, .int .i64 a2]] (kks (fnOf Try.prog 37).results.toList Try.prog [S37_0 (L37_0 m m)]) = t37 m a0 a1 a2 := by kernel_rfl
theorem told37 (m : Nat) (a0 : Int) (a1 : Int) (a2 : Int) {v : Value} (h : t37 m a0 a1 a2 = some v) (hv : plainT v = true) : ToldOk Try.prog 37 [.agg #[.int .i64 a0, .int .i64 a1, .int .i64 a2]] v :=
  told_road' (S := [S37_0 (L37_0 m m)]) Seat.mix Seat.names T37_right (by kernel_rfl) (by kernel_rfl) (by kernel_rfl)
    (all1 (H37_0 m m) all0) ((G37 m a0 a1 a2).trans h) rfl hv

theorem spec37 (a0 : Int) (a1 : Int) (a2 : Int) : ∃ m, t37 m a0 a1 a2 = some (.int .i64 (number a0 a1 a2)) := by
  refine ⟨13, ?_⟩
  have key : ∀ (k : Nat) (j a : Int), rightD a0 a1 a2 = true → 1 ≤ j → j ≤ a1 → a1 - j < k → 0 ≤ a → a ≤ 100000000 + 31 * j → L37_0 13 k [.i a, .i j, .i a0, .i a1, .i a2] = some (.int .i64 (a + before a0 a1 - before a0 j + a2 - 1)) := by
    intro k
    induction k with
    | zero => intro j a hr h1 h2 h3 h4 h5; omega
    | succ k ih =>
      intro j a hr h1 h2 h3 h4 h5
      obtain ⟨hy1, hy2, hm1, hm2⟩ := rightD_ym hr
      obtain ⟨hd1, hd2⟩ := rightD_iff.1 hr
      have := lastDay_le a0 a1
      have hl := lastDay_le a0 j
      rw [L37_0_succ]; unfold L37_0s
      by_cases hj : j < a1
      · simp only [hj, decide_true, cond_true]
        rw [wr (n := a + lastDay a0 j) (by omega) (by omega), wr (n := j + 1) (by omega) (by omega), ih _ _ hr (by omega) (by omega) (by omega) (by omega) (by omega), before_next hy1 hy2 h1 (by omega)]
        congr 2; omega
      · have : j = a1 := by omega
        subst this
        simp only [hj, decide_false, cond_false]
        rw [wr (n := a + a2) (by omega) (by omega), wr (n := a + a2 - 1) (by omega) (by omega)]
        congr 2; omega
  unfold t37 number
  by_cases hr : rightD a0 a1 a2 = true
  · obtain ⟨hy1, hy2, hm1, hm2⟩ := rightD_ym hr
    obtain ⟨hd1, hd2⟩ := rightD_iff.1 hr
    have := lastDay_le a0 a1
    have ha : 0 ≤ ahead0 a0 ∧ ahead0 a0 ≤ 10000000 := by unfold ahead0; omega
    rw [hr, if_pos rfl]
    simp only [Bool.not_true, cond_false]
    rw [wr (n := a0 - 1) (by omega) (by omega)]
    simp only [td _ (show 0 ≤ a0 - 1 by omega)]
    rw [wr (n := 365 * (a0 - 1)) (by omega) (by omega), wr (n := (a0 - 1) / 4) (by omega) (by omega), wr (n := (a0 - 1) / 100) (by omega) (by omega), wr (n := (a0 - 1) / 400) (by omega) (by omega)]
    rw [wr (n := 365 * (a0 - 1) + (a0 - 1) / 4) (by omega) (by omega), wr (n := 365 * (a0 - 1) + (a0 - 1) / 4 - (a0 - 1) / 100) (by omega) (by omega), wr (n := 365 * (a0 - 1) + (a0 - 1) / 4 - (a0 - 1) / 100 + (a0 - 1) / 400) (by omega) (by omega)]
    have hb : before a0 1 = 0 := by simp [before]
    have he : 365 * (a0 - 1) + (a0 - 1) / 4 - (a0 - 1) / 100 + (a0 - 1) / 400 = ahead0 a0 := by unfold ahead0; omega
    rw [he, key 13 1 _ hr (by omega) hm1 (by omega) (by omega) (by omega), hb]
    congr 2
    omega
  · simp only [Bool.not_eq_true] at hr
    simp [hr]

theorem right37 : EntRight Try.prog 37 e37 := ent_right (by
  intro xs v h
  unfold q37 at h
  split at h
  · rename_i a0 a1 a2
    simp only [Option.some.injEq, Prod.mk.injEq, true_and] at h
    obtain rfl := h
    obtain ⟨m, hm⟩ := spec37 a0 a1 a2
    exact told37 m a0 a1 a2 hm rfl
  · cases h)


def q33 : List Sc → Option (Bool × Value)
  | [.i a0, .i a1, .i a2, .i a3, .i a4, .i a5] => some (true, .bool (decide (number a0 a1 a2 < number a3 a4 a5)))
  | _ => none
def e33 : List Value → Option (Bool × Value) := entOf [.agg [some .i64, some .i64, some .i64], .agg [some .i64, some .i64, some .i64]] q33

/-! (cascade/civil.Date).Before -/
def t33 (m : Nat) (a0 : Int) (a1 : Int) (a2 : Int) (a3 : Int) (a4 : Int) (a5 : Int) : Option Value :=
  some (.bool (decide ((number a0 a1 a2) < (number a3 a4 a5))))
def T33 : Tab := tabOf [(26, e26)]
theorem T33_right : Known.right Try.prog T33 := tab_right (all1 right26 all0)
theorem G33 (m : Nat) (a0 : Int) (a1 : Int) (a2 : Int) (a3 : Int) (a4 : Int) (a5 : Int) : roadIn Try.prog T33 (fun _ => true) (fnOf Try.prog 33) [.agg #[.int .i64 a0, .int .i64 a1, .int .i64 a2], .agg #[.int .i64 a3, .int .i64 a4, .int .i64 a5]] (kks (fnOf Try.prog 33).results.toList Try.prog []) = t33 m a0 a1 a2 a3 a4 a5 := by kernel_rfl
theorem told33 (m : Nat) (a0 : Int) (a1 : Int) (a2 : Int) (a3 : Int) (a4 : Int) (a5 : Int) {v : Value} (h : t33 m a0 a1 a2 a3 a4 a5 = some v) (hv : plainT v = true) : ToldOk Try.prog 33 [.agg #[.int .i64 a0, .int .i64 a1, .int .i64 a2], .agg #[.int .i64 a3, .int .i64 a4, .int .i64 a5]] v :=
  told_road' (S := []) Seat.mix Seat.names T33_right (by kernel_rfl) (by kernel_rfl) (by kernel_rfl)
    all0 ((G33 m a0 a1 a2 a3 a4 a5).trans h) rfl hv

theorem spec33 (a0 : Int) (a1 : Int) (a2 : Int) (a3 : Int) (a4 : Int) (a5 : Int) : ∃ m, t33 m a0 a1 a2 a3 a4 a5 = some (.bool (decide (number a0 a1 a2 < number a3 a4 a5))) := by
  exact ⟨0, rfl⟩

theorem right33 : EntRight Try.prog 33 e33 := ent_right (by
  intro xs v h
  unfold q33 at h
  split at h
  · rename_i a0 a1 a2 a3 a4 a5
    simp only [Option.some.injEq, Prod.mk.injEq, true_and] at h
    obtain rfl := h
    obtain ⟨m, hm⟩ := spec33 a0 a1 a2 a3 a4 a5
    exact told33 m a0 a1 a2 a3 a4 a5 hm rfl
  · cases h)

/-- The year in which a day is. -/
def findY (n : Int) : Nat → Int → Int
  | 0, y => y
  | k + 1, y => if ahead0 (y + 1) ≤ n then findY n k (y + 1) else y
def yearOf (n : Int) : Int := findY n 10000 (n / 366 + 1)
def rightN (n : Int) : Bool := decide (0 ≤ n ∧ n < 3652059)
def monthOf (n : Int) : Int :=
  let r := n - ahead0 (yearOf n); let l := leapN (yearOf n)
  if r < 31 then 1 else if r < 59 + l then 2 else if r < 90 + l then 3 else if r < 120 + l then 4 else if r < 151 + l then 5 else if r < 181 + l then 6
  else if r < 212 + l then 7 else if r < 243 + l then 8 else if r < 273 + l then 9 else if r < 304 + l then 10 else if r < 334 + l then 11 else 12
/-- The date of a number. -/
def dateY (n : Int) : Int := if rightN n then yearOf n else 0
def dateM (n : Int) : Int := if rightN n then monthOf n else 0
def dateD (n : Int) : Int := if rightN n then n - ahead0 (yearOf n) - before (yearOf n) (monthOf n) + 1 else 0
theorem ahead_mono {a b : Int} (h1 : 1 ≤ a) (h : a ≤ b) : ahead0 a ≤ ahead0 b := by unfold ahead0; omega
theorem ahead_step {a b : Int} (h1 : 1 ≤ a) (h : a < b) : ahead0 a + 365 ≤ ahead0 b := by
  have := ahead_next h1
  have := leapN_le a
  have := ahead_mono (a := a + 1) (b := b) (by omega) (by omega)
  omega
theorem findY_is {n : Int} (hn : n < 3652059) : ∀ (k : Nat) (y : Int), 1 ≤ y → y ≤ 9999 → 9999 - y < k → ahead0 y ≤ n →
    1 ≤ findY n k y ∧ findY n k y ≤ 9999 ∧ ahead0 (findY n k y) ≤ n ∧ n < ahead0 (findY n k y + 1)
  | 0, y, h1, h2, h3, h4 => by omega
  | k + 1, y, h1, h2, h3, h4 => by
    unfold findY
    split
    · rename_i h
      have : y ≠ 9999 := by rintro rfl; unfold ahead0 at h; omega
      exact findY_is hn k (y + 1) (by omega) (by omega) (by omega) h
    · rename_i h; exact ⟨h1, h2, h4, by omega⟩
theorem start_le {n : Int} (h : 0 ≤ n) : ahead0 (n / 366 + 1) ≤ n := by unfold ahead0; omega
theorem yearOf_is {n : Int} (h : rightN n = true) : 1 ≤ yearOf n ∧ yearOf n ≤ 9999 ∧ ahead0 (yearOf n) ≤ n ∧ n < ahead0 (yearOf n + 1) := by
  simp only [rightN, decide_eq_true_eq] at h
  exact findY_is h.2 _ _ (by omega) (by omega) (by omega) (start_le h.1)
theorem yearOf_eq {n y : Int} (h : rightN n = true) (h1 : 1 ≤ y) (h2 : ahead0 y ≤ n) (h3 : n < ahead0 (y + 1)) : yearOf n = y := by
  obtain ⟨a, b, c, d⟩ := yearOf_is h
  rcases Int.lt_trichotomy (yearOf n) y with hlt | he | hgt
  · have := ahead_mono (a := yearOf n + 1) (b := y) (by omega) (by omega); omega
  · exact he
  · have := ahead_mono (a := y + 1) (b := yearOf n) (by omega) (by omega); omega
theorem monthOf_is {n : Int} (h : rightN n = true) : 1 ≤ monthOf n ∧ monthOf n ≤ 12 ∧ before (yearOf n) (monthOf n) ≤ n - ahead0 (yearOf n) ∧ n - ahead0 (yearOf n) < before (yearOf n) (monthOf n + 1) := by
  obtain ⟨a, b, c, d⟩ := yearOf_is h
  rw [ahead_next a] at d
  have := leapN_le (yearOf n)
  unfold monthOf
  generalize yearOf n = y at *
  dsimp only
  repeat' (split; · simp [before]; omega)
  simp [before]; omega
theorem before_mono {y : Int} : ∀ (k : Nat) (a : Int), 1 ≤ y → y ≤ 9999 → 1 ≤ a → a + k ≤ 13 → before y a ≤ before y (a + k)
  | 0, a, _, _, _, _ => by simp
  | k + 1, a, h1, h2, h3, h4 => by
    have := before_mono k a h1 h2 h3 (by omega)
    have := before_next h1 h2 (m := a + k) (by omega) (by omega)
    have := lastDay_le y (a + k)
    have : a + ((k + 1 : Nat) : Int) = a + k + 1 := by omega
    rw [this]; omega
theorem before_mono' {y a b : Int} (h1 : 1 ≤ y) (h2 : y ≤ 9999) (h3 : 1 ≤ a) (h : a ≤ b) (h4 : b ≤ 13) : before y a ≤ before y b := by
  have := before_mono (b - a).toNat a h1 h2 h3 (by omega)
  rwa [show a + ((b - a).toNat : Int) = b by omega] at this
theorem monthOf_eq {n m : Int} (h : rightN n = true) (h1 : 1 ≤ m) (h0 : m ≤ 12) (h2 : before (yearOf n) m ≤ n - ahead0 (yearOf n)) (h3 : n - ahead0 (yearOf n) < before (yearOf n) (m + 1)) : monthOf n = m := by
  obtain ⟨a, b, _, _⟩ := yearOf_is h
  obtain ⟨c, d, e, f⟩ := monthOf_is h
  rcases Int.lt_trichotomy (monthOf n) m with hlt | he | hgt
  · have := before_mono' (a := monthOf n + 1) (b := m) a b (by omega) (by omega) (by omega); omega
  · exact he
  · have := before_mono' (a := m + 1) (b := monthOf n) a b (by omega) (by omega) (by omega); omega
theorem ahead_le {y : Int} (h1 : 1 ≤ y) (h2 : y ≤ 20000) : 0 ≤ ahead0 y ∧ ahead0 y ≤ 10000000 := by unfold ahead0; omega


def q25 : List Sc → Option (Bool × Value)
  | [.i a0] => some (true, .agg #[.int .i64 (dateY a0), .int .i64 (dateM a0), .int .i64 (dateD a0)])
  | _ => none
def e25 : List Value → Option (Bool × Value) := entOf [.int .i64] q25

/-! cascade/civil.Of -/
def L25_1s (m : Nat) (k : List Sc → Option Value) : List Sc → Option Value
  | [.i a0, .i a1, .i a2, .i a3, .i a4, .i a5] =>
    bif (decide (a5 > (lastDay a3 a4))) then
     k [.i a0, .i a1, .i a2, .i a3, .i (IntKind.i64.wrap (a4 + 1)), .i (IntKind.i64.wrap (a5 - (lastDay a3 a4)))]
    else
     some (.agg #[.int .i64 a3, .int .i64 a4, .int .i64 a5])
  | _ => none
def L25_1 (m : Nat) : Nat → List Sc → Option Value := iter (L25_1s m)
theorem L25_1_succ (m : Nat) (n : Nat) : L25_1 m (n + 1) = L25_1s m (L25_1 m n) := rfl
def S25_1 (F : List Sc → Option Value) : Stop := ⟨[.lp [0, 0, 1, 1, 1, 1, 1], .blk 2, .code [1, 1, 1, 1, 1, 1]], ⟨52, [(2, .lit (.pointer (some ⟨0, 0, none⟩))), (4, .lit (.pointer (some ⟨1, 0, none⟩)))], 2, (.n (some [.int .i64, .int .i64, .int .i64]) (.n (some [.int .i64, .int .i64, .int .i64]) .e .e) .e)⟩, F⟩
def L25_0s (m : Nat) (k : List Sc → Option Value) : List Sc → Option Value
  | [.i a0, .i a1, .i a2, .i a3, .i a4] =>
    bif (decide ((aheadW (IntKind.i64.wrap (a1 + 1))) ≤ a0)) then
     k [.i a0, .i (IntKind.i64.wrap (a1 + 1)), .i a2, .i a3, .i a4]
    else
     L25_1 m m [.i a2, .i a3, .i a4, .i a1, .i 1, .i (IntKind.i64.wrap ((IntKind.i64.wrap (a0 - (aheadW a1))) + 1))]
  | _ => none
def L25_0 (m : Nat) : Nat → List Sc → Option Value := iter (L25_0s m)
theorem L25_0_succ (m : Nat) (n : Nat) : L25_0 m (n + 1) = L25_0s m (L25_0 m n) := rfl
def S25_0 (F : List Sc → Option Value) : Stop := ⟨[.lp [0, 0, 1, 1, 1], .blk 0, .code [1, 1, 1, 1]], ⟨52, [(0, .int .i64), (2, .lit (.pointer (some ⟨0, 0, none⟩))), (3, .int .i64)], 1, (.n (some [.int .i64, .int .i64, .int .i64]) .e .e)⟩, F⟩
def t25 (m : Nat) (a0 : Int) : Option Value :=
  bif decide (a0 < 0) then
   some (.agg #[.int .i64 0, .int .i64 0, .int .i64 0])
  else
   bif (decide (a0 ≥ (aheadW 10000))) then
    some (.agg #[.int .i64 0, .int .i64 0, .int .i64 0])
   else
    L25_0 m m [.i a0, .i (IntKind.i64.wrap ((IntKind.i64.wrap (a0.tdiv 366)) + 1)), .i 0, .i 0, .i 0]
def T25 : Tab := tabOf [(39, e39), (40, e40)]
theorem T25_right : Known.right Try.prog T25 := tab_right (all1 right39 (all1 right40 all0))
theorem G25_1 (m : Nat) (k : List Sc → Option Value) (g : Nat → Value) (a0 : Int) (a1 : Int) (a2 : Int) (a3 : Int) (a4 : Int) (a5 : Int) : roadFrom Try.prog T25 (fun _ => true) (bodyOf (fnOf Try.prog 25)) [0, 0, 1, 1, 1, 1, 1] [.blk 2, .code [1, 1, 1, 1, 1, 1]] (S25_1 k).pat g [.i a0, .i a1, .i a2, .i a3, .i a4, .i a5] (kks (fnOf Try.prog 25).results.toList Try.prog [S25_1 k]) = L25_1s m k [.i a0, .i a1, .i a2, .i a3, .i a4, .i a5] := by kernel_rfl
theorem Y25_1 {m : Nat} {k : List Sc → Option Value} {xs : List Sc} {v : Value} (h : L25_1s m k xs = some v) : ∃ a0 a1 a2 a3 a4 a5, xs = [.i a0, .i a1, .i a2, .i a3, .i a4, .i a5] := by
  unfold L25_1s at h
  split at h
  · exact ⟨_, _, _, _, _, _, rfl⟩
  · cases h
theorem H25_1 (m : Nat) : ∀ n, (S25_1 (L25_1 m n)).Holds Try.prog [] (ofTab T25) (fnOf Try.prog 25).results.toList (bodyOf (fnOf Try.prog 25)) :=
  Stop.iter (mk := S25_1) (Fs := L25_1s m) (S := fun k => [S25_1 k]) (p := [0, 0, 1, 1, 1, 1, 1]) (rest := [.blk 2, .code [1, 1, 1, 1, 1, 1]]) (pat := (S25_1 (fun _ => none)).pat) (stop := fun _ => true)
    (fun _ => rfl) (fun _ => rfl) (fun _ => rfl) (by kernel_rfl) (by kernel_rfl)
    (fun k h => (all1 h all0))
    (fun k g xs v h => by
      obtain ⟨a0, a1, a2, a3, a4, a5, rfl⟩ := Y25_1 h
      exact (G25_1 m k g a0 a1 a2 a3 a4 a5).trans h)
theorem G25_0 (m : Nat) (k : List Sc → Option Value) (g : Nat → Value) (a0 : Int) (a1 : Int) (a2 : Int) (a3 : Int) (a4 : Int) : roadFrom Try.prog T25 (fun _ => true) (bodyOf (fnOf Try.prog 25)) [0, 0, 1, 1, 1] [.blk 0, .code [1, 1, 1, 1]] (S25_0 k).pat g [.i a0, .i a1, .i a2, .i a3, .i a4] (kks (fnOf Try.prog 25).results.toList Try.prog [S25_0 k, S25_1 (L25_1 m m)]) = L25_0s m k [.i a0, .i a1, .i a2, .i a3, .i a4] := by kernel_rfl
theorem Y25_0 {m : Nat} {k : List Sc → Option Value} {xs : List Sc} {v : Value} (h : L25_0s m k xs = some v) : ∃ a0 a1 a2 a3 a4, xs = [.i a0, .i a1, .i a2, .i a3, .i a4] := by
  unfold L25_0s at h
  split at h
  · exact ⟨_, _, _, _, _, rfl⟩
  · cases h
theorem H25_0 (m : Nat) : ∀ n, (S25_0 (L25_0 m n)).Holds Try.prog [] (ofTab T25) (fnOf Try.prog 25).results.toList (bodyOf (fnOf Try.prog 25)) :=
  Stop.iter (mk := S25_0) (Fs := L25_0s m) (S := fun k => [S25_0 k, S25_1 (L25_1 m m)]) (p := [0, 0, 1, 1, 1]) (rest := [.blk 0, .code [1, 1, 1, 1]]) (pat := (S25_0 (fun _ => none)).pat) (stop := fun _ => true)
    (fun _ => rfl) (fun _ => rfl) (fun _ => rfl) (by kernel_rfl) (by kernel_rfl)
    (fun k h => (all1 h (all1 (H25_1 m m) all0)))
    (fun k g xs v h => by
      obtain ⟨a0, a1, a2, a3, a4, rfl⟩ := Y25_0 h
      exact (G25_0 m k g a0 a1 a2 a3 a4).trans h)
theorem G25 (m : Nat) (a0 : Int) : roadIn Try.prog T25 (fun _ => true) (fnOf Try.prog 25) [.int .i64 a0] (kks (fnOf Try.prog 25).results.toList Try.prog [S25_0 (L25_0 m m)]) = t25 m a0 := by kernel_rfl
theorem told25 (m : Nat) (a0 : Int) {v : Value} (h : t25 m a0 = some v) (hv : plainT v = true) : ToldOk Try.prog 25 [.int .i64 a0] v :=
  told_road' (S := [S25_0 (L25_0 m m)]) Seat.mix Seat.names T25_right (by kernel_rfl) (by kernel_rfl) (by kernel_rfl)
    (all1 (H25_0 m m) all0) ((G25 m a0).trans h) rfl hv

theorem spec25 (a0 : Int) : ∃ m, t25 m a0 = some (.agg #[.int .i64 (dateY a0), .int .i64 (dateM a0), .int .i64 (dateD a0)]) := by
  refine ⟨10001, ?_⟩
  have e : aheadW 10000 = 3652059 := by rw [aheadW_eq (by omega) (by omega)]; rfl
  unfold t25 dateY dateM dateD
  rw [e]
  by_cases h0 : a0 < 0
  · have : rightN a0 = false := by simp [rightN]; omega
    simp [h0, this]
  by_cases h1 : a0 ≥ 3652059
  · have : rightN a0 = false := by simp [rightN]; omega
    simp [h0, h1, this]
  have hr : rightN a0 = true := by simp [rightN]; omega
  have hY : ∀ (k : Nat) (y a b c : Int), 1 ≤ y → y ≤ 9999 → 9999 - y < k → L25_0 10001 (k + 1) [.i a0, .i y, .i a, .i b, .i c] = L25_1 10001 10001 [.i a, .i b, .i c, .i (findY a0 k y), .i 1, .i (a0 - ahead0 (findY a0 k y) + 1)] := by
    intro k
    induction k with
    | zero => intro y a b c h1 h2 h3; omega
    | succ k ih =>
      intro y a b c h1 h2 h3
      rw [L25_0_succ]
      unfold L25_0s findY
      have := ahead_le h1 (by omega)
      simp only []
      rw [wr (n := y + 1) (by omega) (by omega), aheadW_eq (y := y + 1) (by omega) (by omega), aheadW_eq (y := y) h1 (by omega)]
      by_cases hc : ahead0 (y + 1) ≤ a0
      · rw [if_pos hc]
        simp only [hc, decide_true, cond_true]
        have : y ≠ 9999 := by rintro rfl; unfold ahead0 at hc; omega
        exact ih (y + 1) a b c (by omega) (by omega) (by omega)
      · rw [if_neg hc]
        simp only [hc, decide_false, cond_false]
        rw [wr (n := a0 - ahead0 y) (by omega) (by omega), wr (n := a0 - ahead0 y + 1) (by omega) (by omega)]
  have hM : ∀ (k : Nat) (m d a b c : Int), 1 ≤ m → m ≤ 12 → 12 - m < k → d = a0 - ahead0 (yearOf a0) - before (yearOf a0) m + 1 → 1 ≤ d →
      L25_1 10001 k [.i a, .i b, .i c, .i (yearOf a0), .i m, .i d] = some (.agg #[.int .i64 (yearOf a0), .int .i64 (monthOf a0), .int .i64 (a0 - ahead0 (yearOf a0) - before (yearOf a0) (monthOf a0) + 1)]) := by
    obtain ⟨y1, y2, y3, y4⟩ := yearOf_is hr
    obtain ⟨m1, m2, m3, m4⟩ := monthOf_is hr
    rw [ahead_next y1] at y4
    have := leapN_le (yearOf a0)
    intro k
    induction k with
    | zero => intro m d a b c h1 h2 h3; omega
    | succ k ih =>
      intro m d a b c h1 h2 h3 hd hd1
      rw [L25_1_succ]
      unfold L25_1s
      have hl := lastDay_le (yearOf a0) m
      have hn := before_next y1 y2 h1 h2
      have hb := before_le (y := yearOf a0) (m := m)
      by_cases hc : d > lastDay (yearOf a0) m
      · simp only [hc, decide_true, cond_true]
        rw [wr (n := m + 1) (by omega) (by omega), wr (n := d - lastDay (yearOf a0) m) (by omega) (by omega)]
        have : m ≠ 12 := by
          rintro rfl
          have : before (yearOf a0) (12 + 1) = 365 + leapN (yearOf a0) := by simp [before]
          omega
        exact ih _ _ _ _ _ (by omega) (by omega) (by omega) (by omega) (by omega)
      · simp only [hc, decide_false, cond_false]
        have : monthOf a0 = m := monthOf_eq hr h1 h2 (by omega) (by omega)
        rw [this, ← hd]
  obtain ⟨y1, y2, y3, y4⟩ := yearOf_is hr
  simp only [h0, h1, hr, decide_false, cond_false, if_true]
  simp only [td _ (show 0 ≤ a0 by omega)]
  rw [wr (n := a0 / 366) (by omega) (by omega), wr (n := a0 / 366 + 1) (by omega) (by omega), hY 10000 _ _ _ _ (by omega) (by omega) (by omega)]
  exact hM _ _ _ _ _ _ (by omega) (by omega) (by omega) (by simp [yearOf, before]) (by have : findY a0 10000 (a0 / 366 + 1) = yearOf a0 := rfl; rw [this]; omega)

theorem right25 : EntRight Try.prog 25 e25 := ent_right (by
  intro xs v h
  unfold q25 at h
  split at h
  · rename_i a0
    simp only [Option.some.injEq, Prod.mk.injEq, true_and] at h
    obtain rfl := h
    obtain ⟨m, hm⟩ := spec25 a0
    exact told25 m a0 hm rfl
  · cases h)

theorem number_first {y m : Int} (h1 : 1 ≤ y) (h2 : y ≤ 9999) (h3 : 1 ≤ m) (h4 : m ≤ 12) : number y m 1 = ahead0 y + before y m := by
  have : rightD y m 1 = true := by
    rw [rightD_iff]; unfold lastDay
    refine ⟨by omega, ?_⟩
    repeat' split
    all_goals omega
  unfold number
  rw [if_pos this]; omega
theorem number_last : number 9999 12 31 = 3652058 := by decide

def q35 : List Sc → Option (Bool × Value)
  | [.i a0] => some (true, .agg #[.int .i64 (dateY a0), .int .i64 (dateM a0), .int .i64 (dateD a0)])
  | _ => none
def e35 : List Value → Option (Bool × Value) := entOf [.int .i64] q35

/-! cascade/cascaderef1.Of -/
def L35_1s (m : Nat) (k : List Sc → Option Value) : List Sc → Option Value
  | [.i a0, .i a1, .i a2, .i a3, .i a4, .i a5] =>
    bif decide (a2 < 12) then
     bif (decide ((number a1 (IntKind.i64.wrap (a2 + 1)) 1) ≤ a0)) then
      k [.i a0, .i a1, .i (IntKind.i64.wrap (a2 + 1)), .i a3, .i a4, .i a5]
     else
      some (.agg #[.int .i64 a1, .int .i64 a2, .int .i64 (IntKind.i64.wrap ((IntKind.i64.wrap (a0 - (number a1 a2 1))) + 1))])
    else
     some (.agg #[.int .i64 a1, .int .i64 a2, .int .i64 (IntKind.i64.wrap ((IntKind.i64.wrap (a0 - (number a1 a2 1))) + 1))])
  | _ => none
def L35_1 (m : Nat) : Nat → List Sc → Option Value := iter (L35_1s m)
theorem L35_1_succ (m : Nat) (n : Nat) : L35_1 m (n + 1) = L35_1s m (L35_1 m n) := rfl
def S35_1 (F : List Sc → Option Value) : Stop := ⟨[.lp [0, 0, 1, 1, 1, 1, 1], .blk 2, .code [1, 1, 1, 1, 1, 1]], ⟨52, [(0, .int .i64), (2, .lit (.pointer (some ⟨0, 0, none⟩))), (3, .int .i64), (4, .int .i64)], 1, (.n (some [.int .i64, .int .i64, .int .i64]) .e .e)⟩, F⟩
def L35_0s (m : Nat) (k : List Sc → Option Value) : List Sc → Option Value
  | [.i a0, .i a1, .i a2, .i a3, .i a4] =>
    bif decide (a1 < 9999) then
     bif (decide ((number (IntKind.i64.wrap (a1 + 1)) 1 1) ≤ a0)) then
      k [.i a0, .i (IntKind.i64.wrap (a1 + 1)), .i a2, .i a3, .i a4]
     else
      L35_1 m m [.i a0, .i a1, .i 1, .i a2, .i a3, .i a4]
    else
     L35_1 m m [.i a0, .i a1, .i 1, .i a2, .i a3, .i a4]
  | _ => none
def L35_0 (m : Nat) : Nat → List Sc → Option Value := iter (L35_0s m)
theorem L35_0_succ (m : Nat) (n : Nat) : L35_0 m (n + 1) = L35_0s m (L35_0 m n) := rfl
def S35_0 (F : List Sc → Option Value) : Stop := ⟨[.lp [0, 0, 1, 1, 1], .blk 0, .code [1, 1, 1, 1]], ⟨52, [(0, .int .i64), (2, .lit (.pointer (some ⟨0, 0, none⟩))), (3, .int .i64)], 1, (.n (some [.int .i64, .int .i64, .int .i64]) .e .e)⟩, F⟩
def t35 (m : Nat) (a0 : Int) : Option Value :=
  bif decide (a0 < 0) then
   some (.agg #[.int .i64 0, .int .i64 0, .int .i64 0])
  else
   bif (decide (a0 > (number 9999 12 31))) then
    some (.agg #[.int .i64 0, .int .i64 0, .int .i64 0])
   else
    L35_0 m m [.i a0, .i (IntKind.i64.wrap (1 + (IntKind.i64.wrap (a0.tdiv 366)))), .i 0, .i 0, .i 0]
def T35 : Tab := tabOf [(37, e37)]
theorem T35_right : Known.right Try.prog T35 := tab_right (all1 right37 all0)
theorem G35_1 (m : Nat) (k : List Sc → Option Value) (g : Nat → Value) (a0 : Int) (a1 : Int) (a2 : Int) (a3 : Int) (a4 : Int) (a5 : Int) : roadFrom Try.prog T35 (fun _ => true) (bodyOf (fnOf Try.prog 35)) [0, 0, 1, 1, 1, 1, 1] [.blk 2, .code [1, 1, 1, 1, 1, 1]] (S35_1 k).pat g [.i a0, .i a1, .i a2, .i a3, .i a4, .i a5] (kks (fnOf Try.prog 35).results.toList Try.prog [S35_1 k]) = L35_1s m k [.i a0, .i a1, .i a2, .i a3, .i a4, .i a5] := by kernel_rfl
theorem Y35_1 {m : Nat} {k : List Sc → Option Value} {xs : List Sc} {v : Value} (h : L35_1s m k xs = some v) : ∃ a0 a1 a2 a3 a4 a5, xs = [.i a0, .i a1, .i a2, .i a3, .i a4, .i a5] := by
  unfold L35_1s at h
  split at h
  · exact ⟨_, _, _, _, _, _, rfl⟩
  · cases h
theorem H35_1 (m : Nat) : ∀ n, (S35_1 (L35_1 m n)).Holds Try.prog [] (ofTab T35) (fnOf Try.prog 35).results.toList (bodyOf (fnOf Try.prog 35)) :=
  Stop.iter (mk := S35_1) (Fs := L35_1s m) (S := fun k => [S35_1 k]) (p := [0, 0, 1, 1, 1, 1, 1]) (rest := [.blk 2, .code [1, 1, 1, 1, 1, 1]]) (pat := (S35_1 (fun _ => none)).pat) (stop := fun _ => true)
    (fun _ => rfl) (fun _ => rfl) (fun _ => rfl) (by kernel_rfl) (by kernel_rfl)
    (fun k h => (all1 h all0))
    (fun k g xs v h => by
      obtain ⟨a0, a1, a2, a3, a4, a5, rfl⟩ := Y35_1 h
      exact (G35_1 m k g a0 a1 a2 a3 a4 a5).trans h)
theorem G35_0 (m : Nat) (k : List Sc → Option Value) (g : Nat → Value) (a0 : Int) (a1 : Int) (a2 : Int) (a3 : Int) (a4 : Int) : roadFrom Try.prog T35 (fun _ => true) (bodyOf (fnOf Try.prog 35)) [0, 0, 1, 1, 1] [.blk 0, .code [1, 1, 1, 1]] (S35_0 k).pat g [.i a0, .i a1, .i a2, .i a3, .i a4] (kks (fnOf Try.prog 35).results.toList Try.prog [S35_0 k, S35_1 (L35_1 m m)]) = L35_0s m k [.i a0, .i a1, .i a2, .i a3, .i a4] := by kernel_rfl
theorem Y35_0 {m : Nat} {k : List Sc → Option Value} {xs : List Sc} {v : Value} (h : L35_0s m k xs = some v) : ∃ a0 a1 a2 a3 a4, xs = [.i a0, .i a1, .i a2, .i a3, .i a4] := by
  unfold L35_0s at h
  split at h
  · exact ⟨_, _, _, _, _, rfl⟩
  · cases h
theorem H35_0 (m : Nat) : ∀ n, (S35_0 (L35_0 m n)).Holds Try.prog [] (ofTab T35) (fnOf Try.prog 35).results.toList (bodyOf (fnOf Try.prog 35)) :=
  Stop.iter (mk := S35_0) (Fs := L35_0s m) (S := fun k => [S35_0 k, S35_1 (L35_1 m m)]) (p := [0, 0, 1, 1, 1]) (rest := [.blk 0, .code [1, 1, 1, 1]]) (pat := (S35_0 (fun _ => none)).pat) (stop := fun _ => true)
    (fun _ => rfl) (fun _ => rfl) (fun _ => rfl) (by kernel_rfl) (by kernel_rfl)
    (fun k h => (all1 h (all1 (H35_1 m m) all0)))
    (fun k g xs v h => by
      obtain ⟨a0, a1, a2, a3, a4, rfl⟩ := Y35_0 h
      exact (G35_0 m k g a0 a1 a2 a3 a4).trans h)
theorem G35 (m : Nat) (a0 : Int) : roadIn Try.prog T35 (fun _ => true) (fnOf Try.prog 35) [.int .i64 a0] (kks (fnOf Try.prog 35).results.toList Try.prog [S35_0 (L35_0 m m)]) = t35 m a0 := by kernel_rfl
theorem told35 (m : Nat) (a0 : Int) {v : Value} (h : t35 m a0 = some v) (hv : plainT v = true) : ToldOk Try.prog 35 [.int .i64 a0] v :=
  told_road' (S := [S35_0 (L35_0 m m)]) Seat.mix Seat.names T35_right (by kernel_rfl) (by kernel_rfl) (by kernel_rfl)
    (all1 (H35_0 m m) all0) ((G35 m a0).trans h) rfl hv

theorem spec35 (a0 : Int) : ∃ m, t35 m a0 = some (.agg #[.int .i64 (dateY a0), .int .i64 (dateM a0), .int .i64 (dateD a0)]) := by
  refine ⟨10001, ?_⟩
  unfold t35 dateY dateM dateD
  rw [number_last]
  by_cases h0 : a0 < 0
  · have : rightN a0 = false := by simp [rightN]; omega
    simp [h0, this]
  by_cases h1 : a0 > 3652058
  · have : rightN a0 = false := by simp [rightN]; omega
    simp [h0, h1, this]
  have hr : rightN a0 = true := by simp [rightN]; omega
  have hY : ∀ (k : Nat) (y a b c : Int), 1 ≤ y → y ≤ 9999 → 9999 - y < k → L35_0 10001 (k + 1) [.i a0, .i y, .i a, .i b, .i c] = L35_1 10001 10001 [.i a0, .i (findY a0 k y), .i 1, .i a, .i b, .i c] := by
    intro k
    induction k with
    | zero => intro y a b c h1 h2 h3; omega
    | succ k ih =>
      intro y a b c h1 h2 h3
      rw [L35_0_succ]
      unfold L35_0s findY
      have := ahead_le h1 (by omega)
      simp only []
      rw [wr (n := y + 1) (by omega) (by omega)]
      by_cases hy : y < 9999
      · simp only [hy, decide_true, cond_true]
        rw [number_first (by omega) (by omega) (by omega) (by omega)]
        have hb : before (y + 1) 1 = 0 := by simp [before]
        rw [hb, Int.add_zero]
        by_cases hc : ahead0 (y + 1) ≤ a0
        · rw [if_pos hc]
          simp only [hc, decide_true, cond_true]
          exact ih (y + 1) a b c (by omega) (by omega) (by omega)
        · rw [if_neg hc]
          simp only [hc, decide_false, cond_false]
      · have : y = 9999 := by omega
        subst this
        have hc : ¬ ahead0 (9999 + 1) ≤ a0 := by unfold ahead0; omega
        rw [if_neg hc]
        simp only [hy, decide_false, cond_false]
  obtain ⟨y1, y2, y3, y4⟩ := yearOf_is hr
  have hA := ahead_le y1 (by omega)
  have hM : ∀ (k : Nat) (m a b c : Int), 1 ≤ m → m ≤ 12 → 12 - m < k → ahead0 (yearOf a0) + before (yearOf a0) m ≤ a0 →
      L35_1 10001 k [.i a0, .i (yearOf a0), .i m, .i a, .i b, .i c] = some (.agg #[.int .i64 (yearOf a0), .int .i64 (monthOf a0), .int .i64 (a0 - ahead0 (yearOf a0) - before (yearOf a0) (monthOf a0) + 1)]) := by
    obtain ⟨m1, m2, m3, m4⟩ := monthOf_is hr
    rw [ahead_next y1] at y4
    have := leapN_le (yearOf a0)
    intro k
    induction k with
    | zero => intro m a b c h1 h2 h3; omega
    | succ k ih =>
      intro m a b c h1 h2 h3 hd
      rw [L35_1_succ]
      unfold L35_1s
      have hl := lastDay_le (yearOf a0) m
      have hb := before_le (y := yearOf a0) (m := m)
      simp only []
      rw [number_first y1 y2 h1 h2, wr (n := a0 - (ahead0 (yearOf a0) + before (yearOf a0) m)) (by omega) (by omega), wr (n := a0 - (ahead0 (yearOf a0) + before (yearOf a0) m) + 1) (by omega) (by omega), wr (n := m + 1) (by omega) (by omega)]
      have fin : monthOf a0 = m → some (Value.agg #[.int .i64 (yearOf a0), .int .i64 m, .int .i64 (a0 - (ahead0 (yearOf a0) + before (yearOf a0) m) + 1)]) = some (.agg #[.int .i64 (yearOf a0), .int .i64 (monthOf a0), .int .i64 (a0 - ahead0 (yearOf a0) - before (yearOf a0) (monthOf a0) + 1)]) := by
        intro e
        rw [e, show a0 - (ahead0 (yearOf a0) + before (yearOf a0) m) + 1 = a0 - ahead0 (yearOf a0) - before (yearOf a0) m + 1 by omega]
      by_cases hm : m < 12
      · simp only [hm, decide_true, cond_true]
        rw [number_first y1 y2 (by omega) (by omega)]
        by_cases hc : ahead0 (yearOf a0) + before (yearOf a0) (m + 1) ≤ a0
        · simp only [hc, decide_true, cond_true]
          exact ih _ _ _ _ (by omega) (by omega) (by omega) hc
        · simp only [hc, decide_false, cond_false]
          exact fin (monthOf_eq hr h1 h2 (by omega) (by omega))
      · simp only [hm, decide_false, cond_false]
        have e : m = 12 := by omega
        refine fin (monthOf_eq hr h1 h2 (by omega) ?_)
        have : before (yearOf a0) (m + 1) = 365 + leapN (yearOf a0) := by subst e; simp [before]
        omega
  simp only [h0, h1, hr, decide_false, cond_false, if_true]
  simp only [td _ (show 0 ≤ a0 by omega)]
  rw [wr (n := a0 / 366) (by omega) (by omega), wr (n := 1 + a0 / 366) (by omega) (by omega), hY 10000 _ _ _ _ (by omega) (by omega) (by omega)]
  have e : findY a0 10000 (1 + a0 / 366) = yearOf a0 := by rw [Int.add_comm]; rfl
  rw [e]
  exact hM _ _ _ _ _ (by omega) (by omega) (by omega) (by rw [show before (yearOf a0) 1 = 0 by simp [before]]; omega)

theorem right35 : EntRight Try.prog 35 e35 := ent_right (by
  intro xs v h
  unfold q35 at h
  split at h
  · rename_i a0
    simp only [Option.some.injEq, Prod.mk.injEq, true_and] at h
    obtain rfl := h
    obtain ⟨m, hm⟩ := spec35 a0
    exact told35 m a0 hm rfl
  · cases h)

/-- A date, months on. -/
def shiftOk (y m d n : Int) : Bool := rightD y m d && decide (12 ≤ 12 * y + m - 1 + n ∧ 12 * y + m - 1 + n < 120000)
def shiftY (y m d n : Int) : Int := if shiftOk y m d n then (12 * y + m - 1 + n) / 12 else 0
def shiftM (y m d n : Int) : Int := if shiftOk y m d n then (12 * y + m - 1 + n) % 12 + 1 else 0
def shiftD (y m d n : Int) : Int := if shiftOk y m d n then min d (lastDay ((12 * y + m - 1 + n) / 12) ((12 * y + m - 1 + n) % 12 + 1)) else 0
theorem min_if (a b : Int) : (if b < a then b else a) = min a b := by omega
theorem lastDay_pos {y m : Int} (h1 : 1 ≤ y) (h2 : y ≤ 9999) (h3 : 1 ≤ m) (h4 : m ≤ 12) : 28 ≤ lastDay y m := by
  unfold lastDay
  repeat' split
  all_goals omega

def q27 : List Sc → Option (Bool × Value)
  | [.i a0, .i a1, .i a2, .i a3] => some (true, .agg #[.int .i64 (shiftY a0 a1 a2 a3), .int .i64 (shiftM a0 a1 a2 a3), .int .i64 (shiftD a0 a1 a2 a3)])
  | _ => none
def e27 : List Value → Option (Bool × Value) := entOf [.agg [some .i64, some .i64, some .i64], .int .i64] q27

/-! (cascade/civil.Date).Shift -/
def t27 (m : Nat) (a0 : Int) (a1 : Int) (a2 : Int) (a3 : Int) : Option Value :=
  bif !(rightD a0 a1 a2) then
   some (.agg #[.int .i64 0, .int .i64 0, .int .i64 0])
  else
   bif decide (a3 < (-119988)) then
    some (.agg #[.int .i64 0, .int .i64 0, .int .i64 0])
   else
    bif decide (a3 > 119988) then
     some (.agg #[.int .i64 0, .int .i64 0, .int .i64 0])
    else
     let x5 : Int := (IntKind.i64.wrap ((IntKind.i64.wrap ((IntKind.i64.wrap ((IntKind.i64.wrap ((IntKind.i64.wrap (a0 - 1)) * 12)) + a1)) - 1)) + a3))
     bif decide (x5 < 0) then
      some (.agg #[.int .i64 0, .int .i64 0, .int .i64 0])
     else
      let x7 : Int := (IntKind.i64.wrap ((IntKind.i64.wrap (x5.tdiv 12)) + 1))
      let x8 : Int := (IntKind.i64.wrap ((x5.tmod 12) + 1))
      let x9 : Int := (if (lastDay x7 x8) < a2 then (lastDay x7 x8) else a2)
      bif !(rightD x7 x8 x9) then
       some (.agg #[.int .i64 0, .int .i64 0, .int .i64 0])
      else
       some (.agg #[.int .i64 x7, .int .i64 x8, .int .i64 x9])
def T27 : Tab := tabOf [(32, e32), (40, e40)]
theorem T27_right : Known.right Try.prog T27 := tab_right (all1 right32 (all1 right40 all0))
theorem G27 (m : Nat) (a0 : Int) (a1 : Int) (a2 : Int) (a3 : Int) : roadIn Try.prog T27 (fun _ => true) (fnOf Try.prog 27) [.agg #[.int .i64 a0, .int .i64 a1, .int .i64 a2], .int .i64 a3] (kks (fnOf Try.prog 27).results.toList Try.prog []) = t27 m a0 a1 a2 a3 := by kernel_rfl
theorem told27 (m : Nat) (a0 : Int) (a1 : Int) (a2 : Int) (a3 : Int) {v : Value} (h : t27 m a0 a1 a2 a3 = some v) (hv : plainT v = true) : ToldOk Try.prog 27 [.agg #[.int .i64 a0, .int .i64 a1, .int .i64 a2], .int .i64 a3] v :=
  told_road' (S := []) Seat.mix Seat.names T27_right (by kernel_rfl) (by kernel_rfl) (by kernel_rfl)
    all0 ((G27 m a0 a1 a2 a3).trans h) rfl hv

theorem spec27 (a0 : Int) (a1 : Int) (a2 : Int) (a3 : Int) : ∃ m, t27 m a0 a1 a2 a3 = some (.agg #[.int .i64 (shiftY a0 a1 a2 a3), .int .i64 (shiftM a0 a1 a2 a3), .int .i64 (shiftD a0 a1 a2 a3)]) := by
  refine ⟨0, ?_⟩
  unfold t27 shiftY shiftM shiftD
  by_cases hr : rightD a0 a1 a2 = true
  · obtain ⟨y1, y2, m1, m2⟩ := rightD_ym hr
    obtain ⟨d1, d2⟩ := rightD_iff.1 hr
    by_cases hk : 12 ≤ 12 * a0 + a1 - 1 + a3 ∧ 12 * a0 + a1 - 1 + a3 < 120000
    · have hs : shiftOk a0 a1 a2 a3 = true := by simp [shiftOk, hr, hk]
      simp only [hr, hs, if_true, Bool.not_true, cond_false]
      rw [wr (n := a0 - 1) (by omega) (by omega), wr (n := (a0 - 1) * 12) (by omega) (by omega), wr (n := (a0 - 1) * 12 + a1) (by omega) (by omega), wr (n := (a0 - 1) * 12 + a1 - 1) (by omega) (by omega), wr (n := (a0 - 1) * 12 + a1 - 1 + a3) (by omega) (by omega)]
      simp only [td _ (show 0 ≤ (a0 - 1) * 12 + a1 - 1 + a3 by omega), tm _ (show 0 ≤ (a0 - 1) * 12 + a1 - 1 + a3 by omega)]
      rw [wr (n := ((a0 - 1) * 12 + a1 - 1 + a3) / 12) (by omega) (by omega), wr (n := ((a0 - 1) * 12 + a1 - 1 + a3) / 12 + 1) (by omega) (by omega), wr (n := ((a0 - 1) * 12 + a1 - 1 + a3) % 12 + 1) (by omega) (by omega)]
      rw [show ((a0 - 1) * 12 + a1 - 1 + a3) / 12 + 1 = (12 * a0 + a1 - 1 + a3) / 12 by omega, show ((a0 - 1) * 12 + a1 - 1 + a3) % 12 = (12 * a0 + a1 - 1 + a3) % 12 by omega, min_if]
      have hl := lastDay_pos (y := (12 * a0 + a1 - 1 + a3) / 12) (m := (12 * a0 + a1 - 1 + a3) % 12 + 1) (by omega) (by omega) (by omega) (by omega)
      have hR : rightD ((12 * a0 + a1 - 1 + a3) / 12) ((12 * a0 + a1 - 1 + a3) % 12 + 1) (min a2 (lastDay ((12 * a0 + a1 - 1 + a3) / 12) ((12 * a0 + a1 - 1 + a3) % 12 + 1))) = true := rightD_iff.2 ⟨by omega, by omega⟩
      simp [hR, show ¬ a3 < -119988 by omega, show ¬ a3 > 119988 by omega, show ¬ (a0 - 1) * 12 + a1 - 1 + a3 < 0 by omega]
    · have hs : shiftOk a0 a1 a2 a3 = false := by simp [shiftOk, hr]; omega
      simp only [hr, hs, Bool.false_eq_true, if_false, Bool.not_true, cond_false]
      by_cases h1 : a3 < -119988
      · simp [h1]
      by_cases h2 : a3 > 119988
      · simp [h2]
      rw [wr (n := a0 - 1) (by omega) (by omega), wr (n := (a0 - 1) * 12) (by omega) (by omega), wr (n := (a0 - 1) * 12 + a1) (by omega) (by omega), wr (n := (a0 - 1) * 12 + a1 - 1) (by omega) (by omega), wr (n := (a0 - 1) * 12 + a1 - 1 + a3) (by omega) (by omega)]
      by_cases h3 : (a0 - 1) * 12 + a1 - 1 + a3 < 0
      · simp [h1, h2, h3]
      simp only [td _ (show 0 ≤ (a0 - 1) * 12 + a1 - 1 + a3 by omega), tm _ (show 0 ≤ (a0 - 1) * 12 + a1 - 1 + a3 by omega)]
      rw [wr (n := ((a0 - 1) * 12 + a1 - 1 + a3) / 12) (by omega) (by omega), wr (n := ((a0 - 1) * 12 + a1 - 1 + a3) / 12 + 1) (by omega) (by omega), wr (n := ((a0 - 1) * 12 + a1 - 1 + a3) % 12 + 1) (by omega) (by omega)]
      have hy : 9999 < ((a0 - 1) * 12 + a1 - 1 + a3) / 12 + 1 := by omega
      have hz : ∀ d, rightD (((a0 - 1) * 12 + a1 - 1 + a3) / 12 + 1) (((a0 - 1) * 12 + a1 - 1 + a3) % 12 + 1) d = false := by
        intro d
        cases hh : rightD (((a0 - 1) * 12 + a1 - 1 + a3) / 12 + 1) (((a0 - 1) * 12 + a1 - 1 + a3) % 12 + 1) d with
        | false => rfl
        | true => have := rightD_ym hh; omega
      simp [h1, h2, h3, hz]
  · simp only [Bool.not_eq_true] at hr
    have hs : shiftOk a0 a1 a2 a3 = false := by simp [shiftOk, hr]
    simp [hr, hs]

theorem right27 : EntRight Try.prog 27 e27 := ent_right (by
  intro xs v h
  unfold q27 at h
  split at h
  · rename_i a0 a1 a2 a3
    simp only [Option.some.injEq, Prod.mk.injEq, true_and] at h
    obtain rfl := h
    obtain ⟨m, hm⟩ := spec27 a0 a1 a2 a3
    exact told27 m a0 a1 a2 a3 hm rfl
  · cases h)


theorem rightN_iff {n : Int} : rightN n = true ↔ 0 ≤ n ∧ n < 3652059 := by simp [rightN]
theorem date_right {n : Int} (h : rightN n = true) : rightD (dateY n) (dateM n) (dateD n) = true := by
  obtain ⟨y1, y2, y3, y4⟩ := yearOf_is h
  obtain ⟨m1, m2, m3, m4⟩ := monthOf_is h
  rw [before_next y1 y2 m1 m2] at m4
  simp only [dateY, dateM, dateD, h, if_true]
  rw [rightD_iff]
  omega
theorem date_number {n : Int} (h : rightN n = true) : number (dateY n) (dateM n) (dateD n) = n := by
  unfold number
  rw [if_pos (date_right h)]
  simp only [dateY, dateM, dateD, h, if_true]
  omega
theorem number_le {y m d : Int} (h : rightD y m d = true) : ahead0 y ≤ number y m d ∧ number y m d < ahead0 (y + 1) ∧ ahead0 y + before y m ≤ number y m d ∧ number y m d < ahead0 y + before y (m + 1) ∧ number y m d = ahead0 y + before y m + d - 1 := by
  obtain ⟨y1, y2, m1, m2⟩ := rightD_ym h
  obtain ⟨d1, d2⟩ := rightD_iff.1 h
  have e : number y m d = ahead0 y + before y m + d - 1 := by unfold number; rw [if_pos h]
  have hb := before_le (y := y) (m := m)
  have hn := before_next y1 y2 m1 m2
  have ha := ahead_next y1
  have h13 : before y 13 = 365 + leapN y := by simp [before]
  have := before_mono' (a := m + 1) (b := 13) y1 y2 (by omega) (by omega) (by omega)
  omega
theorem number_right {y m d : Int} (h : rightD y m d = true) : rightN (number y m d) = true := by
  obtain ⟨y1, y2, m1, m2⟩ := rightD_ym h
  obtain ⟨h1, h2, _⟩ := number_le h
  have := ahead_le y1 (by omega)
  have := ahead_mono (a := y + 1) (b := 10000) (by omega) (by omega)
  have e : ahead0 10000 = 3652059 := rfl
  rw [rightN_iff]; omega
/-- A right date is its number's. -/
theorem date_of {y m d : Int} (h : rightD y m d = true) : dateY (number y m d) = y ∧ dateM (number y m d) = m ∧ dateD (number y m d) = d := by
  obtain ⟨y1, y2, m1, m2⟩ := rightD_ym h
  obtain ⟨h1, h2, h3, h4, h5⟩ := number_le h
  have hr := number_right h
  have e1 : yearOf (number y m d) = y := yearOf_eq hr y1 h1 h2
  have e2 : monthOf (number y m d) = m := monthOf_eq hr m1 m2 (by rw [e1]; omega) (by rw [e1]; omega)
  refine ⟨by simp [dateY, hr, e1], by simp [dateM, hr, e2], ?_⟩
  simp only [dateD, hr, if_true, e1, e2]
  omega
theorem date_of' {n y m d : Int} (h : rightD y m d = true) (hn : number y m d = n) : dateY n = y ∧ dateM n = m ∧ dateD n = d := by subst hn; exact date_of h
theorem date_none {n : Int} (h : rightN n = false) : dateY n = 0 ∧ dateM n = 0 ∧ dateD n = 0 := by simp [dateY, dateM, dateD, h]
theorem date_in {n : Int} (h : rightN n = true) : 1 ≤ dateY n ∧ dateY n ≤ 9999 ∧ 1 ≤ dateM n ∧ dateM n ≤ 12 ∧ 1 ≤ dateD n ∧ dateD n ≤ lastDay (dateY n) (dateM n) :=
  have a := rightD_ym (date_right h)
  have b := rightD_iff.1 (date_right h)
  ⟨a.1, a.2.1, a.2.2.1, a.2.2.2, b.1, b.2⟩
theorem leap_400 {y : Int} (h : 1 ≤ y) : leap (y + 400) = leap y := by
  have a := leap_iff h; have b := leap_iff (y := y + 400) (by omega)
  rw [Bool.eq_iff_iff, a, b]; omega
theorem lastDay_400 {y m : Int} (h : 1 ≤ y) (h2 : y + 400 ≤ 9999) : lastDay (y + 400) m = lastDay y m := by
  unfold lastDay; rw [leap_400 h]
  simp only [show (y + 400 < 1 ∨ y + 400 > 9999 ∨ m < 1 ∨ m > 12) ↔ (y < 1 ∨ y > 9999 ∨ m < 1 ∨ m > 12) by omega]

end Go.Proofs.Ytibgpjahjdgepaa
