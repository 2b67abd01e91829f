/- Numbers in bounds; the closed law. Conditions: none. -/
import Derived.Test.YtncgbpajngakpaaS
import Derived.Test.YtncgbpajngakpaaE23
namespace Go.Proofs.Ytncgbpajngakpaa
open Go Go.Proofs.Ytncgbpajngakpaa.Ev
set_option linter.unusedVariables false
set_option linter.unusedSimpArgs false
set_option linter.unnecessarySimpa false
theorem wr {n : Int} (h1 : -9223372036854775808 ≤ n) (h2 : n ≤ 9223372036854775807) : IntKind.i64.wrap n = n := by rw [IntKind.wrap_i64]; omega
theorem td {a : Int} (b : Int) (h : 0 ≤ a) : a.tdiv b = a / b := Int.tdiv_eq_ediv_of_nonneg h
theorem tm {a : Int} (b : Int) (h : 0 ≤ a) : a.tmod b = a % b := Int.tmod_eq_emod_of_nonneg h
def within (a lo hi : Int) : Int := lo + a % (hi - lo + 1)
theorem within_le {a lo hi : Int} (h : lo ≤ hi) : lo ≤ within a lo hi ∧ within a lo hi ≤ hi := by
  unfold within
  have := Int.emod_nonneg a (show hi - lo + 1 ≠ 0 by omega)
  have := Int.emod_lt_of_pos a (show 0 < hi - lo + 1 by omega)
  omega
def q17 : List Sc → Option (Bool × Value)
  | [.i a0, .i a1, .i a2] => some (decide (-2305843009213693952 ≤ a1 ∧ a1 ≤ a2 ∧ a2 ≤ 2305843009213693952), .int .i64 (within a0 a1 a2))
  | _ => none
def e17 : List Value → Option (Bool × Value) := entOf [.int .i64, .int .i64, .int .i64] q17
/-! cascade/cascadebook.Within -/
def t17 (m : Nat) (a0 : Int) (a1 : Int) (a2 : Int) : Option Value :=
  let x2 : Int := (IntKind.i64.wrap ((IntKind.i64.wrap (a2 - a1)) + 1))
  bif decide (x2 = 0) then
   none
  else
   bif (decide ((a0.tmod x2) < 0)) then
    some (.int .i64 (IntKind.i64.wrap (a1 + (IntKind.i64.wrap ((IntKind.i64.wrap ((IntKind.i64.wrap ((a0.tmod x2) + a2)) - a1)) + 1)))))
   else
    some (.int .i64 (IntKind.i64.wrap (a1 + (a0.tmod x2))))
def T17 : Tab := tabOf []
theorem T17_right : Known.right Try.prog T17 := tab_right all0
theorem G17 (m : Nat) (a0 : Int) (a1 : Int) (a2 : Int) : roadIn Try.prog T17 (fun _ => true) (fnOf Try.prog 17) [.int .i64 a0, .int .i64 a1, .int .i64 a2] (kks (fnOf Try.prog 17).results.toList Try.prog []) = t17 m a0 a1 a2 := by kernel_rfl
theorem told17 (m : Nat) (a0 : Int) (a1 : Int) (a2 : Int) {v : Value} (h : t17 m a0 a1 a2 = some v) (hv : plainT v = true) : ToldOk Try.prog 17 [.int .i64 a0, .int .i64 a1, .int .i64 a2] v :=
  told_road' (S := []) Seat.mix Seat.names T17_right (by kernel_rfl) (by kernel_rfl) (by kernel_rfl)
    all0 ((G17 m a0 a1 a2).trans h) rfl hv
theorem spec17 (a0 : Int) (a1 : Int) (a2 : Int) (hc : (decide (-2305843009213693952 ≤ a1 ∧ a1 ≤ a2 ∧ a2 ≤ 2305843009213693952)) = true) : ∃ m, t17 m a0 a1 a2 = some (.int .i64 (within a0 a1 a2)) := by
  refine ⟨0, ?_⟩
  unfold t17 within
  obtain ⟨h1, h2, h3⟩ := of_decide_eq_true hc
  simp only []
  rw [wr (n := a2 - a1) (by omega) (by omega), wr (n := a2 - a1 + 1) (by omega) (by omega)]
  generalize hw : a2 - a1 + 1 = w
  have hp : 0 < w := by omega
  have e := Int.emod_nonneg a0 (show w ≠ 0 by omega)
  have e2 := Int.emod_lt_of_pos a0 hp
  simp only [show ¬ w = 0 by omega, decide_false, cond_false]
  by_cases hn : 0 ≤ a0
  · rw [tm _ hn, wr (n := a1 + a0 % w) (by omega) (by omega)]
    simp [show ¬ a0 % w < 0 by omega]
  · have ht : a0.tmod w = if a0 % w = 0 then 0 else a0 % w - w := by
      rw [Int.tmod_eq_emod]
      have hd : (w ∣ a0) ↔ a0 % w = 0 := Int.dvd_iff_emod_eq_zero
      simp only [hn, false_or, hd]
      split <;> omega
    rw [ht]
    by_cases hz : a0 % w = 0
    · rw [if_pos hz, hz, wr (n := a1 + 0) (by omega) (by omega)]
      simp
    · rw [if_neg hz]
      clear ht
      rw [wr (n := a0 % w - w + a2) (by omega) (by omega), wr (n := a0 % w - w + a2 - a1) (by omega) (by omega), wr (n := a0 % w - w + a2 - a1 + 1) (by omega) (by omega)]
      rw [show a0 % w - w + a2 - a1 + 1 = a0 % w by omega, wr (n := a1 + a0 % w) (by omega) (by omega)]
      simp [show a0 % w - w < 0 by omega]
theorem right17 : EntRight Try.prog 17 e17 := ent_right (by
  intro xs v h
  unfold q17 at h
  split at h
  · rename_i a0 a1 a2
    simp only [Option.some.injEq, Prod.mk.injEq] at h
    obtain ⟨hc, rfl⟩ := h
    obtain ⟨m, hm⟩ := spec17 a0 a1 a2 hc
    exact told17 m a0 a1 a2 hm rfl
  · cases h)
def q3 : List Sc → Option (Bool × Value)
  | [] => some (true, .bool (true))
  | _ => none
def e3 : List Value → Option (Bool × Value) := entOf [] q3
theorem runFlowRuns : yes (callE Try.prog [29] (fun _ _ => none) 100 3 [] nil) = true := by kernel_rfl
theorem toldFlowRuns : ToldOk Try.prog 3 [] (.bool true) := told_yes Seat.mix Seat.names (fun _ _ _ h => by cases h) runFlowRuns
theorem right3 : EntRight Try.prog 3 e3 := ent_right (by
  intro xs v h
  unfold q3 at h
  split at h
  · simp only [Option.some.injEq, Prod.mk.injEq, true_and] at h
    obtain rfl := h
    exact toldFlowRuns
  · cases h)

end Go.Proofs.Ytncgbpajngakpaa
