/- The closed law, numbers in bounds, products that are amounts. Conditions: none. -/
import Derived.Test.YtlnnlkjjgenddaaCents
namespace Go.Proofs.Ytlnnlkjjgenddaa
open Go Go.Proofs.Ytlnnlkjjgenddaa.Ev
set_option linter.unusedVariables false
set_option linter.unusedSimpArgs false
set_option linter.unnecessarySimpa false
def q8 : List Sc → Option (Bool × Value)
  | [] => some (true, .bool (true))
  | _ => none
def e8 : List Value → Option (Bool × Value) := entOf [] q8

theorem runCentsRuns : yes (callE Try.prog [] (fun _ _ => none) 100 8 [] nil) = true := by kernel_rfl
theorem toldCentsRuns : ToldOk Try.prog 8 [] (.bool true) := told_yes Seat.mix Seat.names (fun _ _ _ h => by cases h) runCentsRuns
theorem right8 : EntRight Try.prog 8 e8 := ent_right (by
  intro xs v h
  unfold q8 at h
  split at h
  · simp only [Option.some.injEq, Prod.mk.injEq, true_and] at h
    obtain rfl := h
    exact toldCentsRuns
  · cases h)

def within (a lo hi : Int) : Int := lo + a % (hi - lo + 1)
theorem within_le {a lo hi : Int} (h : lo ≤ hi) : lo ≤ within a lo hi ∧ within a lo hi ≤ hi := by
  unfold within
  have := Int.emod_nonneg a (show hi - lo + 1 ≠ 0 by omega)
  have := Int.emod_lt_of_pos a (show 0 < hi - lo + 1 by omega)
  omega

def q24 : List Sc → Option (Bool × Value)
  | [.i a0, .i a1, .i a2] => some (decide (-2305843009213693952 ≤ a1 ∧ a1 ≤ a2 ∧ a2 ≤ 2305843009213693952), .int .i64 (within a0 a1 a2))
  | _ => none
def e24 : List Value → Option (Bool × Value) := entOf [.int .i64, .int .i64, .int .i64] q24

/-! cascade/cascadebook.Within -/
def t24 (m : Nat) (a0 : Int) (a1 : Int) (a2 : Int) : Option Value :=
  let x2 : Int := (IntKind.i64.wrap ((IntKind.i64.wrap (a2 - a1)) + 1))
  bif decide (x2 = 0) then
   none
  else
   bif (decide ((a0.tmod x2) < 0)) then
    some (.int .i64 (IntKind.i64.wrap (a1 + (IntKind.i64.wrap ((IntKind.i64.wrap ((IntKind.i64.wrap ((a0.tmod x2) + a2)) - a1)) + 1)))))
   else
    some (.int .i64 (IntKind.i64.wrap (a1 + (a0.tmod x2))))
def T24 : Tab := tabOf []
theorem T24_right : Known.right Try.prog T24 := tab_right all0
theorem G24 (m : Nat) (a0 : Int) (a1 : Int) (a2 : Int) : roadIn Try.prog T24 (fun _ => true) (fnOf Try.prog 24) [.int .i64 a0, .int .i64 a1, .int .i64 a2] (kks (fnOf Try.prog 24).results.toList Try.prog []) = t24 m a0 a1 a2 := by kernel_rfl
theorem told24 (m : Nat) (a0 : Int) (a1 : Int) (a2 : Int) {v : Value} (h : t24 m a0 a1 a2 = some v) (hv : plainT v = true) : ToldOk Try.prog 24 [.int .i64 a0, .int .i64 a1, .int .i64 a2] v :=
  told_road' (S := []) Seat.mix Seat.names T24_right (by kernel_rfl) (by kernel_rfl) (by kernel_rfl)
    all0 ((G24 m a0 a1 a2).trans h) rfl hv

theorem spec24 (a0 : Int) (a1 : Int) (a2 : Int) (hc : (decide (-2305843009213693952 ≤ a1 ∧ a1 ≤ a2 ∧ a2 ≤ 2305843009213693952)) = true) : ∃ m, t24 m a0 a1 a2 = some (.int .i64 (within a0 a1 a2)) := by
  refine ⟨0, ?_⟩
  unfold t24 within
  obtain ⟨h1, h2, h3⟩ := of_decide_eq_true hc
  simp only []
  rw [wr (n := a2 - a1) (by omega) (by omega), wr (n := a2 - a1 + 1) (by omega) (by omega)]
  generalize hw : a2 - a1 + 1 = w
  have hp : 0 < w := by omega
  have e := Int.emod_nonneg a0 (show w ≠ 0 by omega)
  have e2 := Int.emod_lt_of_pos a0 hp
  simp only [show ¬ w = 0 by omega, decide_false, cond_false]
  by_cases hn : 0 ≤ a0
  · rw [tm _ hn, wr (n := a1 + a0 % w) (by omega) (by omega)]
    simp [show ¬ a0 % w < 0 by omega]
  · have ht : a0.tmod w = if a0 % w = 0 then 0 else a0 % w - w := by
      rw [Int.tmod_eq_emod]
      have hd : (w ∣ a0) ↔ a0 % w = 0 := Int.dvd_iff_emod_eq_zero
      simp only [hn, false_or, hd]
      split <;> omega
    rw [ht]
    by_cases hz : a0 % w = 0
    · rw [if_pos hz, hz, wr (n := a1 + 0) (by omega) (by omega)]
      simp
    · rw [if_neg hz]
      clear ht
      rw [wr (n := a0 % w - w + a2) (by omega) (by omega), wr (n := a0 % w - w + a2 - a1) (by omega) (by omega), wr (n := a0 % w - w + a2 - a1 + 1) (by omega) (by omega)]
      rw [show a0 % w - w + a2 - a1 + 1 = a0 % w by omega, wr (n := a1 + a0 % w) (by omega) (by omega)]
      simp [show a0 % w - w < 0 by omega]

theorem right24 : EntRight Try.prog 24 e24 := ent_right (by
  intro xs v h
  unfold q24 at h
  split at h
  · rename_i a0 a1 a2
    simp only [Option.some.injEq, Prod.mk.injEq] at h
    obtain ⟨hc, rfl⟩ := h
    obtain ⟨m, hm⟩ := spec24 a0 a1 a2 hc
    exact told24 m a0 a1 a2 hm rfl
  · cases h)

theorem md_in {n b p h : Int} (h1 : 0 ≤ n) (h2 : n ≤ 1152921504606846976) (h3 : 0 ≤ b) (h4 : b ≤ 1152921504606846976) (h5 : 1 ≤ p) (h6 : p ≤ 1152921504606846976) (h7 : 0 ≤ h) (h8 : h ≤ 2) (hz : n * b ≤ 1152921504606846976) :
    mdOk n b p h = true ∧ mdV n b p h = mdQ n b p h ∧ 0 ≤ mdQ n b p h ∧ mdQ n b p h ≤ n * b := by
  have hz0 := Int.mul_nonneg h1 h3
  have e := Int.mul_ediv_add_emod (n * b) p
  have r0 := Int.emod_nonneg (n * b) (show p ≠ 0 by omega)
  have r1 := Int.emod_lt_of_pos (n * b) (show 0 < p by omega)
  have q0 : 0 ≤ n * b / p := Int.ediv_nonneg hz0 (by omega)
  have hle : 0 ≤ mdQ n b p h ∧ mdQ n b p h ≤ n * b := by
    unfold mdQ mdUp
    generalize n * b = z at *
    generalize z / p = q at *
    generalize z % p = r at *
    split
    · rename_i hu
      simp only [Bool.or_eq_true, Bool.and_eq_true, beq_iff_eq, decide_eq_true_eq] at hu
      have hr : 1 ≤ r := by omega
      have hp : 2 ≤ p := by omega
      have : 2 * q ≤ p * q := Int.mul_le_mul_of_nonneg_right hp q0
      omega
    · have : 1 * q ≤ p * q := Int.mul_le_mul_of_nonneg_right h5 q0
      omega
  have hok : mdOk n b p h = true := by rw [md_ok h1 h2 h3 h4 h5 h6 h7 h8]; simp; omega
  exact ⟨hok, by simp [mdV, hok], hle⟩
theorem mdQ0 (n b p : Int) : mdQ n b p 0 = n * b / p := by simp [mdQ, mdUp]
theorem mdQ1 (n b p : Int) : mdQ n b p 1 = n * b / p + (if n * b % p > 0 then 1 else 0) := by simp [mdQ, mdUp]
theorem mdQ2 (n b p : Int) : mdQ n b p 2 = n * b / p + (if n * b % p > p - n * b % p ∨ (n * b % p = p - n * b % p ∧ n * b / p % 2 = 1) then 1 else 0) := by simp [mdQ, mdUp]

end Go.Proofs.Ytlnnlkjjgenddaa
