/- Dates; the closed law. Conditions: none. -/
import Derived.Test.YtoiijpphfckdjaaS
import Derived.Test.YtoiijpphfckdjaaE23
namespace Go.Proofs.Ytoiijpphfckdjaa
open Go Go.Proofs.Ytoiijpphfckdjaa.Ev
set_option linter.unusedVariables false
set_option linter.unusedSimpArgs false
set_option linter.unnecessarySimpa false
theorem wr {n : Int} (h1 : -9223372036854775808 ≤ n) (h2 : n ≤ 9223372036854775807) : IntKind.i64.wrap n = n := by rw [IntKind.wrap_i64]; omega
theorem td {a : Int} (b : Int) (h : 0 ≤ a) : a.tdiv b = a / b := Int.tdiv_eq_ediv_of_nonneg h
theorem tm {a : Int} (b : Int) (h : 0 ≤ a) : a.tmod b = a % b := Int.tmod_eq_emod_of_nonneg h
def within (a lo hi : Int) : Int := lo + a % (hi - lo + 1)
theorem within_le {a lo hi : Int} (h : lo ≤ hi) : lo ≤ within a lo hi ∧ within a lo hi ≤ hi := by
  unfold within
  have := Int.emod_nonneg a (show hi - lo + 1 ≠ 0 by omega)
  have := Int.emod_lt_of_pos a (show 0 < hi - lo + 1 by omega)
  omega
def q15 : List Sc → Option (Bool × Value)
  | [.i a0, .i a1, .i a2] => some (decide (-2305843009213693952 ≤ a1 ∧ a1 ≤ a2 ∧ a2 ≤ 2305843009213693952), .int .i64 (within a0 a1 a2))
  | _ => none
def e15 : List Value → Option (Bool × Value) := entOf [.int .i64, .int .i64, .int .i64] q15
/-! cascade/cascadebook.Within -/
def t15 (m : Nat) (a0 : Int) (a1 : Int) (a2 : Int) : Option Value :=
  let x2 : Int := (IntKind.i64.wrap ((IntKind.i64.wrap (a2 - a1)) + 1))
  bif decide (x2 = 0) then
   none
  else
   bif (decide ((a0.tmod x2) < 0)) then
    some (.int .i64 (IntKind.i64.wrap (a1 + (IntKind.i64.wrap ((IntKind.i64.wrap ((IntKind.i64.wrap ((a0.tmod x2) + a2)) - a1)) + 1)))))
   else
    some (.int .i64 (IntKind.i64.wrap (a1 + (a0.tmod x2))))
def T15 : Tab := tabOf []
theorem T15_right : Known.right Try.prog T15 := tab_right all0
theorem G15 (m : Nat) (a0 : Int) (a1 : Int) (a2 : Int) : roadIn Try.prog T15 (fun _ => true) (fnOf Try.prog 15) [.int .i64 a0, .int .i64 a1, .int .i64 a2] (kks (fnOf Try.prog 15).results.toList Try.prog []) = t15 m a0 a1 a2 := by kernel_rfl
theorem told15 (m : Nat) (a0 : Int) (a1 : Int) (a2 : Int) {v : Value} (h : t15 m a0 a1 a2 = some v) (hv : plainT v = true) : ToldOk Try.prog 15 [.int .i64 a0, .int .i64 a1, .int .i64 a2] v :=
  told_road' (S := []) Seat.mix Seat.names T15_right (by kernel_rfl) (by kernel_rfl) (by kernel_rfl)
    all0 ((G15 m a0 a1 a2).trans h) rfl hv
theorem spec15 (a0 : Int) (a1 : Int) (a2 : Int) (hc : (decide (-2305843009213693952 ≤ a1 ∧ a1 ≤ a2 ∧ a2 ≤ 2305843009213693952)) = true) : ∃ m, t15 m a0 a1 a2 = some (.int .i64 (within a0 a1 a2)) := by
  refine ⟨0, ?_⟩
  unfold t15 within
  obtain ⟨h1, h2, h3⟩ := of_decide_eq_true hc
  simp only []
  rw [wr (n := a2 - a1) (by omega) (by omega), wr (n := a2 - a1 + 1) (by omega) (by omega)]
  generalize hw : a2 - a1 + 1 = w
  have hp : 0 < w := by omega
  have e := Int.emod_nonneg a0 (show w ≠ 0 by omega)
  have e2 := Int.emod_lt_of_pos a0 hp
  simp only [show ¬ w = 0 by omega, decide_false, cond_false]
  by_cases hn : 0 ≤ a0
  · rw [tm _ hn, wr (n := a1 + a0 % w) (by omega) (by omega)]
    simp [show ¬ a0 % w < 0 by omega]
  · have ht : a0.tmod w = if a0 % w = 0 then 0 else a0 % w - w := by
      rw [Int.tmod_eq_emod]
      have hd : (w ∣ a0) ↔ a0 % w = 0 := Int.dvd_iff_emod_eq_zero
      simp only [hn, false_or, hd]
      split <;> omega
    rw [ht]
    by_cases hz : a0 % w = 0
    · rw [if_pos hz, hz, wr (n := a1 + 0) (by omega) (by omega)]
      simp
    · rw [if_neg hz]
      clear ht
      rw [wr (n := a0 % w - w + a2) (by omega) (by omega), wr (n := a0 % w - w + a2 - a1) (by omega) (by omega), wr (n := a0 % w - w + a2 - a1 + 1) (by omega) (by omega)]
      rw [show a0 % w - w + a2 - a1 + 1 = a0 % w by omega, wr (n := a1 + a0 % w) (by omega) (by omega)]
      simp [show a0 % w - w < 0 by omega]
theorem right15 : EntRight Try.prog 15 e15 := ent_right (by
  intro xs v h
  unfold q15 at h
  split at h
  · rename_i a0 a1 a2
    simp only [Option.some.injEq, Prod.mk.injEq] at h
    obtain ⟨hc, rfl⟩ := h
    obtain ⟨m, hm⟩ := spec15 a0 a1 a2 hc
    exact told15 m a0 a1 a2 hm rfl
  · cases h)
def leap (y : Int) : Bool := y.tmod 4 == 0 && (y.tmod 100 != 0 || y.tmod 400 == 0)
def q76 : List Sc → Option (Bool × Value)
  | [.i a0] => some (true, .bool (leap a0))
  | _ => none
def e76 : List Value → Option (Bool × Value) := entOf [.int .i64] q76
/-! cascade/civil.leap -/
def t76 (m : Nat) (a0 : Int) : Option Value :=
  bif (a0.tmod 4) == 0 then
   bif (a0.tmod 100) != 0 then
    some (.bool true)
   else
    some (.bool ((a0.tmod 400) == 0))
  else
   some (.bool false)
def T76 : Tab := tabOf []
theorem T76_right : Known.right Try.prog T76 := tab_right all0
theorem G76 (m : Nat) (a0 : Int) : roadIn Try.prog T76 (fun _ => true) (fnOf Try.prog 76) [.int .i64 a0] (kks (fnOf Try.prog 76).results.toList Try.prog []) = t76 m a0 := by kernel_rfl
theorem told76 (m : Nat) (a0 : Int) {v : Value} (h : t76 m a0 = some v) (hv : plainT v = true) : ToldOk Try.prog 76 [.int .i64 a0] v :=
  told_road' (S := []) Seat.mix Seat.names T76_right (by kernel_rfl) (by kernel_rfl) (by kernel_rfl)
    all0 ((G76 m a0).trans h) rfl hv
theorem spec76 (a0 : Int) : ∃ m, t76 m a0 = some (.bool (leap a0)) := by
  refine ⟨0, ?_⟩
  unfold t76 leap
  cases (a0.tmod 4 == 0) <;> cases (a0.tmod 100 != 0) <;> rfl
theorem right76 : EntRight Try.prog 76 e76 := ent_right (by
  intro xs v h
  unfold q76 at h
  split at h
  · rename_i a0
    simp only [Option.some.injEq, Prod.mk.injEq, true_and] at h
    obtain rfl := h
    obtain ⟨m, hm⟩ := spec76 a0
    exact told76 m a0 hm rfl
  · cases h)
def lastDay (y m : Int) : Int :=
  if y < 1 ∨ y > 9999 ∨ m < 1 ∨ m > 12 then 0
  else if m = 2 then (if leap y then 29 else 28)
  else if m = 4 ∨ m = 6 ∨ m = 9 ∨ m = 11 then 30 else 31
theorem lastDay_le (y m : Int) : 0 ≤ lastDay y m ∧ lastDay y m ≤ 31 := by
  unfold lastDay; repeat' split
  all_goals omega
def q59 : List Sc → Option (Bool × Value)
  | [.i a0, .i a1] => some (true, .int .i64 (lastDay a0 a1))
  | _ => none
def e59 : List Value → Option (Bool × Value) := entOf [.int .i64, .int .i64] q59
/-! cascade/civil.Last -/
def t59 (m : Nat) (a0 : Int) (a1 : Int) : Option Value :=
  bif decide (a0 < 1) then
   some (.int .i64 0)
  else
   bif decide (a0 > 9999) then
    some (.int .i64 0)
   else
    bif decide (a1 < 1) then
     some (.int .i64 0)
    else
     bif decide (a1 > 12) then
      some (.int .i64 0)
     else
      bif a1 == 2 then
       bif (leap a0) then
        some (.int .i64 29)
       else
        bif a1 == 2 then
         some (.int .i64 28)
        else
         bif a1 == 4 then
          some (.int .i64 30)
         else
          bif a1 == 6 then
           some (.int .i64 30)
          else
           bif a1 == 9 then
            some (.int .i64 30)
           else
            bif a1 == 11 then
             some (.int .i64 30)
            else
             some (.int .i64 31)
      else
       bif a1 == 2 then
        some (.int .i64 28)
       else
        bif a1 == 4 then
         some (.int .i64 30)
        else
         bif a1 == 6 then
          some (.int .i64 30)
         else
          bif a1 == 9 then
           some (.int .i64 30)
          else
           bif a1 == 11 then
            some (.int .i64 30)
           else
            some (.int .i64 31)
def T59 : Tab := tabOf [(76, e76)]
theorem T59_right : Known.right Try.prog T59 := tab_right (all1 right76 all0)
theorem G59 (m : Nat) (a0 : Int) (a1 : Int) : roadIn Try.prog T59 (fun _ => true) (fnOf Try.prog 59) [.int .i64 a0, .int .i64 a1] (kks (fnOf Try.prog 59).results.toList Try.prog []) = t59 m a0 a1 := by kernel_rfl
theorem told59 (m : Nat) (a0 : Int) (a1 : Int) {v : Value} (h : t59 m a0 a1 = some v) (hv : plainT v = true) : ToldOk Try.prog 59 [.int .i64 a0, .int .i64 a1] v :=
  told_road' (S := []) Seat.mix Seat.names T59_right (by kernel_rfl) (by kernel_rfl) (by kernel_rfl)
    all0 ((G59 m a0 a1).trans h) rfl hv
theorem spec59 (a0 : Int) (a1 : Int) : ∃ m, t59 m a0 a1 = some (.int .i64 (lastDay a0 a1)) := by
  refine ⟨0, ?_⟩
  unfold t59 lastDay
  simp only [beq_iff_eq, Bool.cond_eq_ite]
  grind
theorem right59 : EntRight Try.prog 59 e59 := ent_right (by
  intro xs v h
  unfold q59 at h
  split at h
  · rename_i a0 a1
    simp only [Option.some.injEq, Prod.mk.injEq, true_and] at h
    obtain rfl := h
    obtain ⟨m, hm⟩ := spec59 a0 a1
    exact told59 m a0 a1 hm rfl
  · cases h)
def rightD (y m d : Int) : Bool := decide (d ≥ 1 ∧ d ≤ lastDay y m)
theorem rightD_iff {y m d : Int} : rightD y m d = true ↔ 1 ≤ d ∧ d ≤ lastDay y m := by simp [rightD]
theorem rightD_ym {y m d : Int} (h : rightD y m d = true) : 1 ≤ y ∧ y ≤ 9999 ∧ 1 ≤ m ∧ m ≤ 12 := by
  obtain ⟨h1, h2⟩ := rightD_iff.1 h
  unfold lastDay at h2
  split at h2 <;> omega
def q58 : List Sc → Option (Bool × Value)
  | [.i a0, .i a1, .i a2] => some (true, .bool (rightD a0 a1 a2))
  | _ => none
def e58 : List Value → Option (Bool × Value) := entOf [.agg [some .i64, some .i64, some .i64]] q58
/-! (cascade/civil.Date).Right -/
def t58 (m : Nat) (a0 : Int) (a1 : Int) (a2 : Int) : Option Value :=
  bif decide (a2 ≥ 1) then
   some (.bool (decide (a2 ≤ (lastDay a0 a1))))
  else
   some (.bool false)
def T58 : Tab := tabOf [(59, e59)]
theorem T58_right : Known.right Try.prog T58 := tab_right (all1 right59 all0)
theorem G58 (m : Nat) (a0 : Int) (a1 : Int) (a2 : Int) : roadIn Try.prog T58 (fun _ => true) (fnOf Try.prog 58) [.agg #[.int .i64 a0, .int .i64 a1, .int .i64 a2]] (kks (fnOf Try.prog 58).results.toList Try.prog []) = t58 m a0 a1 a2 := by kernel_rfl
theorem told58 (m : Nat) (a0 : Int) (a1 : Int) (a2 : Int) {v : Value} (h : t58 m a0 a1 a2 = some v) (hv : plainT v = true) : ToldOk Try.prog 58 [.agg #[.int .i64 a0, .int .i64 a1, .int .i64 a2]] v :=
  told_road' (S := []) Seat.mix Seat.names T58_right (by kernel_rfl) (by kernel_rfl) (by kernel_rfl)
    all0 ((G58 m a0 a1 a2).trans h) rfl hv
theorem spec58 (a0 : Int) (a1 : Int) (a2 : Int) : ∃ m, t58 m a0 a1 a2 = some (.bool (rightD a0 a1 a2)) := by
  refine ⟨0, ?_⟩
  unfold t58 rightD
  by_cases h : a2 ≥ 1 <;> simp [h]
theorem right58 : EntRight Try.prog 58 e58 := ent_right (by
  intro xs v h
  unfold q58 at h
  split at h
  · rename_i a0 a1 a2
    simp only [Option.some.injEq, Prod.mk.injEq, true_and] at h
    obtain rfl := h
    obtain ⟨m, hm⟩ := spec58 a0 a1 a2
    exact told58 m a0 a1 a2 hm rfl
  · cases h)
/-- A date, months on. -/
def shiftOk (y m d n : Int) : Bool := rightD y m d && decide (12 ≤ 12 * y + m - 1 + n ∧ 12 * y + m - 1 + n < 120000)
def shiftY (y m d n : Int) : Int := if shiftOk y m d n then (12 * y + m - 1 + n) / 12 else 0
def shiftM (y m d n : Int) : Int := if shiftOk y m d n then (12 * y + m - 1 + n) % 12 + 1 else 0
def shiftD (y m d n : Int) : Int := if shiftOk y m d n then min d (lastDay ((12 * y + m - 1 + n) / 12) ((12 * y + m - 1 + n) % 12 + 1)) else 0
theorem min_if (a b : Int) : (if b < a then b else a) = min a b := by omega
theorem lastDay_pos {y m : Int} (h1 : 1 ≤ y) (h2 : y ≤ 9999) (h3 : 1 ≤ m) (h4 : m ≤ 12) : 28 ≤ lastDay y m := by
  unfold lastDay
  repeat' split
  all_goals omega
def q30 : List Sc → Option (Bool × Value)
  | [.i a0, .i a1, .i a2, .i a3] => some (true, .agg #[.int .i64 (shiftY a0 a1 a2 a3), .int .i64 (shiftM a0 a1 a2 a3), .int .i64 (shiftD a0 a1 a2 a3)])
  | _ => none
def e30 : List Value → Option (Bool × Value) := entOf [.agg [some .i64, some .i64, some .i64], .int .i64] q30
/-! (cascade/civil.Date).Shift -/
def t30 (m : Nat) (a0 : Int) (a1 : Int) (a2 : Int) (a3 : Int) : Option Value :=
  bif !(rightD a0 a1 a2) then
   some (.agg #[.int .i64 0, .int .i64 0, .int .i64 0])
  else
   bif decide (a3 < (-119988)) then
    some (.agg #[.int .i64 0, .int .i64 0, .int .i64 0])
   else
    bif decide (a3 > 119988) then
     some (.agg #[.int .i64 0, .int .i64 0, .int .i64 0])
    else
     let x5 : Int := (IntKind.i64.wrap ((IntKind.i64.wrap ((IntKind.i64.wrap ((IntKind.i64.wrap ((IntKind.i64.wrap (a0 - 1)) * 12)) + a1)) - 1)) + a3))
     bif decide (x5 < 0) then
      some (.agg #[.int .i64 0, .int .i64 0, .int .i64 0])
     else
      let x7 : Int := (IntKind.i64.wrap ((IntKind.i64.wrap (x5.tdiv 12)) + 1))
      let x8 : Int := (IntKind.i64.wrap ((x5.tmod 12) + 1))
      let x9 : Int := (if (lastDay x7 x8) < a2 then (lastDay x7 x8) else a2)
      bif !(rightD x7 x8 x9) then
       some (.agg #[.int .i64 0, .int .i64 0, .int .i64 0])
      else
       some (.agg #[.int .i64 x7, .int .i64 x8, .int .i64 x9])
def T30 : Tab := tabOf [(58, e58), (59, e59)]
theorem T30_right : Known.right Try.prog T30 := tab_right (all1 right58 (all1 right59 all0))
theorem G30 (m : Nat) (a0 : Int) (a1 : Int) (a2 : Int) (a3 : Int) : roadIn Try.prog T30 (fun _ => true) (fnOf Try.prog 30) [.agg #[.int .i64 a0, .int .i64 a1, .int .i64 a2], .int .i64 a3] (kks (fnOf Try.prog 30).results.toList Try.prog []) = t30 m a0 a1 a2 a3 := by kernel_rfl
theorem told30 (m : Nat) (a0 : Int) (a1 : Int) (a2 : Int) (a3 : Int) {v : Value} (h : t30 m a0 a1 a2 a3 = some v) (hv : plainT v = true) : ToldOk Try.prog 30 [.agg #[.int .i64 a0, .int .i64 a1, .int .i64 a2], .int .i64 a3] v :=
  told_road' (S := []) Seat.mix Seat.names T30_right (by kernel_rfl) (by kernel_rfl) (by kernel_rfl)
    all0 ((G30 m a0 a1 a2 a3).trans h) rfl hv
theorem spec30 (a0 : Int) (a1 : Int) (a2 : Int) (a3 : Int) : ∃ m, t30 m a0 a1 a2 a3 = some (.agg #[.int .i64 (shiftY a0 a1 a2 a3), .int .i64 (shiftM a0 a1 a2 a3), .int .i64 (shiftD a0 a1 a2 a3)]) := by
  refine ⟨0, ?_⟩
  unfold t30 shiftY shiftM shiftD
  by_cases hr : rightD a0 a1 a2 = true
  · obtain ⟨y1, y2, m1, m2⟩ := rightD_ym hr
    obtain ⟨d1, d2⟩ := rightD_iff.1 hr
    by_cases hk : 12 ≤ 12 * a0 + a1 - 1 + a3 ∧ 12 * a0 + a1 - 1 + a3 < 120000
    · have hs : shiftOk a0 a1 a2 a3 = true := by simp [shiftOk, hr, hk]
      simp only [hr, hs, if_true, Bool.not_true, cond_false]
      rw [wr (n := a0 - 1) (by omega) (by omega), wr (n := (a0 - 1) * 12) (by omega) (by omega), wr (n := (a0 - 1) * 12 + a1) (by omega) (by omega), wr (n := (a0 - 1) * 12 + a1 - 1) (by omega) (by omega), wr (n := (a0 - 1) * 12 + a1 - 1 + a3) (by omega) (by omega)]
      simp only [td _ (show 0 ≤ (a0 - 1) * 12 + a1 - 1 + a3 by omega), tm _ (show 0 ≤ (a0 - 1) * 12 + a1 - 1 + a3 by omega)]
      rw [wr (n := ((a0 - 1) * 12 + a1 - 1 + a3) / 12) (by omega) (by omega), wr (n := ((a0 - 1) * 12 + a1 - 1 + a3) / 12 + 1) (by omega) (by omega), wr (n := ((a0 - 1) * 12 + a1 - 1 + a3) % 12 + 1) (by omega) (by omega)]
      rw [show ((a0 - 1) * 12 + a1 - 1 + a3) / 12 + 1 = (12 * a0 + a1 - 1 + a3) / 12 by omega, show ((a0 - 1) * 12 + a1 - 1 + a3) % 12 = (12 * a0 + a1 - 1 + a3) % 12 by omega, min_if]
      have hl := lastDay_pos (y := (12 * a0 + a1 - 1 + a3) / 12) (m := (12 * a0 + a1 - 1 + a3) % 12 + 1) (by omega) (by omega) (by omega) (by omega)
      have hR : rightD ((12 * a0 + a1 - 1 + a3) / 12) ((12 * a0 + a1 - 1 + a3) % 12 + 1) (min a2 (lastDay ((12 * a0 + a1 - 1 + a3) / 12) ((12 * a0 + a1 - 1 + a3) % 12 + 1))) = true := rightD_iff.2 ⟨by omega, by omega⟩
      simp [hR, show ¬ a3 < -119988 by omega, show ¬ a3 > 119988 by omega, show ¬ (a0 - 1) * 12 + a1 - 1 + a3 < 0 by omega]
    · have hs : shiftOk a0 a1 a2 a3 = false := by simp [shiftOk, hr]; omega
      simp only [hr, hs, Bool.false_eq_true, if_false, Bool.not_true, cond_false]
      by_cases h1 : a3 < -119988
      · simp [h1]
      by_cases h2 : a3 > 119988
      · simp [h2]
      rw [wr (n := a0 - 1) (by omega) (by omega), wr (n := (a0 - 1) * 12) (by omega) (by omega), wr (n := (a0 - 1) * 12 + a1) (by omega) (by omega), wr (n := (a0 - 1) * 12 + a1 - 1) (by omega) (by omega), wr (n := (a0 - 1) * 12 + a1 - 1 + a3) (by omega) (by omega)]
      by_cases h3 : (a0 - 1) * 12 + a1 - 1 + a3 < 0
      · simp [h1, h2, h3]
      simp only [td _ (show 0 ≤ (a0 - 1) * 12 + a1 - 1 + a3 by omega), tm _ (show 0 ≤ (a0 - 1) * 12 + a1 - 1 + a3 by omega)]
      rw [wr (n := ((a0 - 1) * 12 + a1 - 1 + a3) / 12) (by omega) (by omega), wr (n := ((a0 - 1) * 12 + a1 - 1 + a3) / 12 + 1) (by omega) (by omega), wr (n := ((a0 - 1) * 12 + a1 - 1 + a3) % 12 + 1) (by omega) (by omega)]
      have hy : 9999 < ((a0 - 1) * 12 + a1 - 1 + a3) / 12 + 1 := by omega
      have hz : ∀ d, rightD (((a0 - 1) * 12 + a1 - 1 + a3) / 12 + 1) (((a0 - 1) * 12 + a1 - 1 + a3) % 12 + 1) d = false := by
        intro d
        cases hh : rightD (((a0 - 1) * 12 + a1 - 1 + a3) / 12 + 1) (((a0 - 1) * 12 + a1 - 1 + a3) % 12 + 1) d with
        | false => rfl
        | true => have := rightD_ym hh; omega
      simp [h1, h2, h3, hz]
  · simp only [Bool.not_eq_true] at hr
    have hs : shiftOk a0 a1 a2 a3 = false := by simp [shiftOk, hr]
    simp [hr, hs]
theorem right30 : EntRight Try.prog 30 e30 := ent_right (by
  intro xs v h
  unfold q30 at h
  split at h
  · rename_i a0 a1 a2 a3
    simp only [Option.some.injEq, Prod.mk.injEq, true_and] at h
    obtain rfl := h
    obtain ⟨m, hm⟩ := spec30 a0 a1 a2 a3
    exact told30 m a0 a1 a2 a3 hm rfl
  · cases h)
def q3 : List Sc → Option (Bool × Value)
  | [] => some (true, .bool (true))
  | _ => none
def e3 : List Value → Option (Bool × Value) := entOf [] q3
theorem runTrustRuns : yes (callE Try.prog [] (fun _ _ => none) 100 3 [] nil) = true := by kernel_rfl
theorem toldTrustRuns : ToldOk Try.prog 3 [] (.bool true) := told_yes Seat.mix Seat.names (fun _ _ _ h => by cases h) runTrustRuns
theorem right3 : EntRight Try.prog 3 e3 := ent_right (by
  intro xs v h
  unfold q3 at h
  split at h
  · simp only [Option.some.injEq, Prod.mk.injEq, true_and] at h
    obtain rfl := h
    exact toldTrustRuns
  · cases h)

end Go.Proofs.Ytoiijpphfckdjaa
