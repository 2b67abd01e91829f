/- The law CentsRound answers true. Conditions: none. -/
import Derived.Test.YtlnnlkjjgenddaaCentsAid
namespace Go.Proofs.Ytlnnlkjjgenddaa
open Go Go.Proofs.Ytlnnlkjjgenddaa.Ev
set_option linter.unusedVariables false
set_option linter.unusedSimpArgs false
set_option linter.unnecessarySimpa false
/-! cascade/cascadelaw1.CentsRound -/
def t10 (m : Nat) (a0 : Int) (a1 : Int) (a2 : Int) : Option Value :=
  let x1 : Int := (within a0 0 1073741824)
  let x2 : Int := (within a1 0 1073741824)
  let x3 : Int := (within a2 1 1073741824)
  bif !(mdOk x1 x2 x3 0) then
   some (.bool false)
  else
   bif !(mdOk x1 x2 x3 2) then
    some (.bool false)
   else
    bif !(mdOk x1 x2 x3 1) then
     some (.bool false)
    else
     bif (decide ((mdV x1 x2 x3 0) > (mdV x1 x2 x3 2))) then
      some (.bool false)
     else
      bif (decide ((mdV x1 x2 x3 2) > (mdV x1 x2 x3 1))) then
       some (.bool false)
      else
       bif (decide ((mdV x1 x2 x3 1) > (IntKind.i64.wrap ((mdV x1 x2 x3 0) + 1)))) then
        some (.bool false)
       else
        bif decide ((IntKind.i64.wrap ((mdV x1 x2 x3 0) * x3)) > (IntKind.i64.wrap (x1 * x2))) then
         some (.bool false)
        else
         bif decide ((IntKind.i64.wrap ((mdV x1 x2 x3 1) * x3)) < (IntKind.i64.wrap (x1 * x2))) then
          some (.bool false)
         else
          bif decide (x3 = 0) then
           none
          else
           bif (!(((mdV x1 x2 x3 0) == (mdV x1 x2 x3 1)) == (((IntKind.i64.wrap (x1 * x2)).tmod x3) == 0))) then
            some (.bool false)
           else
            let x17 : Int := (IntKind.i64.wrap ((IntKind.i64.wrap (x1 * x2)) - (IntKind.i64.wrap ((mdV x1 x2 x3 0) * x3))))
            bif decide ((IntKind.i64.wrap (2 * x17)) < x3) then
             bif ((mdV x1 x2 x3 2) != (mdV x1 x2 x3 0)) then
              some (.bool false)
             else
              bif decide ((IntKind.i64.wrap (2 * x17)) > x3) then
               bif ((mdV x1 x2 x3 2) != (mdV x1 x2 x3 1)) then
                some (.bool false)
               else
                bif (IntKind.i64.wrap (2 * x17)) == x3 then
                 bif (IntKind.i64.wrap ((BitVec.ofInt 64 (mdV x1 x2 x3 2) &&& BitVec.ofInt 64 1).toNat)) != 0 then
                  some (.bool false)
                 else
                  bif (mdOk x2 x1 x3 2) then
                   bif ((mdV x2 x1 x3 2) == (mdV x1 x2 x3 2)) then
                    some (.bool true)
                   else
                    some (.bool false)
                  else
                   some (.bool false)
                else
                 bif (mdOk x2 x1 x3 2) then
                  bif ((mdV x2 x1 x3 2) == (mdV x1 x2 x3 2)) then
                   some (.bool true)
                  else
                   some (.bool false)
                 else
                  some (.bool false)
              else
               bif (IntKind.i64.wrap (2 * x17)) == x3 then
                bif (IntKind.i64.wrap ((BitVec.ofInt 64 (mdV x1 x2 x3 2) &&& BitVec.ofInt 64 1).toNat)) != 0 then
                 some (.bool false)
                else
                 bif (mdOk x2 x1 x3 2) then
                  bif ((mdV x2 x1 x3 2) == (mdV x1 x2 x3 2)) then
                   some (.bool true)
                  else
                   some (.bool false)
                 else
                  some (.bool false)
               else
                bif (mdOk x2 x1 x3 2) then
                 bif ((mdV x2 x1 x3 2) == (mdV x1 x2 x3 2)) then
                  some (.bool true)
                 else
                  some (.bool false)
                else
                 some (.bool false)
            else
             bif decide ((IntKind.i64.wrap (2 * x17)) > x3) then
              bif ((mdV x1 x2 x3 2) != (mdV x1 x2 x3 1)) then
               some (.bool false)
              else
               bif (IntKind.i64.wrap (2 * x17)) == x3 then
                bif (IntKind.i64.wrap ((BitVec.ofInt 64 (mdV x1 x2 x3 2) &&& BitVec.ofInt 64 1).toNat)) != 0 then
                 some (.bool false)
                else
                 bif (mdOk x2 x1 x3 2) then
                  bif ((mdV x2 x1 x3 2) == (mdV x1 x2 x3 2)) then
                   some (.bool true)
                  else
                   some (.bool false)
                 else
                  some (.bool false)
               else
                bif (mdOk x2 x1 x3 2) then
                 bif ((mdV x2 x1 x3 2) == (mdV x1 x2 x3 2)) then
                  some (.bool true)
                 else
                  some (.bool false)
                else
                 some (.bool false)
             else
              bif (IntKind.i64.wrap (2 * x17)) == x3 then
               bif (IntKind.i64.wrap ((BitVec.ofInt 64 (mdV x1 x2 x3 2) &&& BitVec.ofInt 64 1).toNat)) != 0 then
                some (.bool false)
               else
                bif (mdOk x2 x1 x3 2) then
                 bif ((mdV x2 x1 x3 2) == (mdV x1 x2 x3 2)) then
                  some (.bool true)
                 else
                  some (.bool false)
                else
                 some (.bool false)
              else
               bif (mdOk x2 x1 x3 2) then
                bif ((mdV x2 x1 x3 2) == (mdV x1 x2 x3 2)) then
                 some (.bool true)
                else
                 some (.bool false)
               else
                some (.bool false)
def T10 : Tab := tabOf [(8, e8), (24, e24), (25, e25)]
theorem T10_right : Known.right Try.prog T10 := tab_right (all1 right8 (all1 right24 (all1 right25 all0)))
theorem G10 (m : Nat) (a0 : Int) (a1 : Int) (a2 : Int) : roadIn Try.prog T10 (fun _ => true) (fnOf Try.prog 10) [.int .i64 a0, .int .i64 a1, .int .i64 a2] (kks (fnOf Try.prog 10).results.toList Try.prog []) = t10 m a0 a1 a2 := by kernel_rfl
theorem told10 (m : Nat) (a0 : Int) (a1 : Int) (a2 : Int) {v : Value} (h : t10 m a0 a1 a2 = some v) (hv : plainT v = true) : ToldOk Try.prog 10 [.int .i64 a0, .int .i64 a1, .int .i64 a2] v :=
  told_road' (S := []) Seat.mix Seat.names T10_right (by kernel_rfl) (by kernel_rfl) (by kernel_rfl)
    all0 ((G10 m a0 a1 a2).trans h) rfl hv


theorem spec10 (a0 : Int) (w0 : (Lit.int .i64 a0).wf = true) (a1 : Int) (w1 : (Lit.int .i64 a1).wf = true) (a2 : Int) (w2 : (Lit.int .i64 a2).wf = true) : ∃ m, t10 m a0 a1 a2 = some (.bool true) := by
  refine ⟨0, ?_⟩
  unfold t10
  simp only [show (-2305843009213693952 : Int) ≤ 0 ∧ (0 : Int) ≤ 1073741824 ∧ (1073741824 : Int) ≤ 2305843009213693952 by decide, show (-2305843009213693952 : Int) ≤ 1 ∧ (1 : Int) ≤ 1073741824 ∧ (1073741824 : Int) ≤ 2305843009213693952 by decide, and_self, decide_true, cond_true]
  have bn := within_le (a := a0) (lo := 0) (hi := 1073741824) (by omega)
  have bb := within_le (a := a1) (lo := 0) (hi := 1073741824) (by omega)
  have bd := within_le (a := a2) (lo := 1) (hi := 1073741824) (by omega)
  generalize within a0 0 1073741824 = n at *
  generalize within a1 0 1073741824 = b at *
  generalize within a2 1 1073741824 = d at *
  have hz := mul_le bn.1 bn.2 bb.1 bb.2
  have i0 := md_in (n := n) (b := b) (p := d) (h := 0) (by omega) (by omega) (by omega) (by omega) (by omega) (by omega) (by omega) (by omega) (by omega)
  have i1 := md_in (n := n) (b := b) (p := d) (h := 1) (by omega) (by omega) (by omega) (by omega) (by omega) (by omega) (by omega) (by omega) (by omega)
  have i2 := md_in (n := n) (b := b) (p := d) (h := 2) (by omega) (by omega) (by omega) (by omega) (by omega) (by omega) (by omega) (by omega) (by omega)
  have i3 := md_in (n := b) (b := n) (p := d) (h := 2) (by omega) (by omega) (by omega) (by omega) (by omega) (by omega) (by omega) (by omega) (by rw [Int.mul_comm]; omega)
  simp only [i0.1, i0.2.1, i1.1, i1.2.1, i2.1, i2.2.1, i3.1, i3.2.1]
  have b0 := i0.2.2; have b1 := i1.2.2; have b2 := i2.2.2
  clear i0 i1 i2 i3
  simp only [mdQ0, mdQ1, mdQ2] at *
  rw [Int.mul_comm b n] at *
  have e := Int.mul_ediv_add_emod (n * b) d
  rw [Int.mul_comm] at e
  have r0 := Int.emod_nonneg (n * b) (show d ≠ 0 by omega)
  have r1 := Int.emod_lt_of_pos (n * b) (show 0 < d by omega)
  have q0 : 0 ≤ n * b / d * d := Int.mul_nonneg (Int.ediv_nonneg hz.1 (by omega)) (by omega)
  rw [wr (n := n * b) (by omega) (by omega), tm _ hz.1]
  generalize n * b = z at *
  generalize z % d = r at *
  have hadd : ∀ c : Int, (z / d + c) * d = z / d * d + c * d := fun c => Int.add_mul _ _ _
  have hnd : ¬ d = 0 := by omega
  by_cases c0 : r = 0
  · have u1 : ¬ r > 0 := by omega
    have u2 : ¬ (r > d - r ∨ (r = d - r ∧ z / d % 2 = 1)) := by omega
    simp only [u1, u2, if_false, hadd, Int.add_zero, Int.zero_mul] at b0 b1 b2 ⊢
    rw [wr (n := z / d + 1) (by omega) (by omega), wr (n := z / d * d) (by omega) (by omega), wr (n := z - z / d * d) (by omega) (by omega), wr (n := 2 * (z - z / d * d)) (by omega) (by omega)]
    have x1 : z - z / d * d = 0 := by omega
    rw [x1]
    simp [c0, hnd, show ¬ z / d * d > z by omega, show ¬ z / d * d < z by omega, show (0:Int) < d by omega, show ¬ d < 0 by omega, show ¬ (0 = d) by omega, show (0 == d) = false by simp; omega, show ¬ z / d + 1 < z / d by omega]
  have u1 : r > 0 := by omega
  by_cases c1 : r > d - r ∨ (r = d - r ∧ z / d % 2 = 1)
  · simp only [u1, c1, if_true, hadd, Int.one_mul] at b0 b1 b2 ⊢
    rw [wr (n := z / d + 1) (by omega) (by omega), wr (n := z / d * d) (by omega) (by omega), wr (n := z / d * d + d) (by omega) (by omega), wr (n := z - z / d * d) (by omega) (by omega), and_one (by omega) (by omega), wr (n := (z / d + 1) % 2) (by omega) (by omega)]
    have x1 : z - z / d * d = r := by omega
    rw [x1, wr (n := 2 * r) (by omega) (by omega)]
    generalize z / d * d = w at *
    generalize z / d = q at *
    by_cases c2 : 2 * r = d
    · simp [c0, show (r == 0) = false by simpa using c0, hnd, c2, show ¬ q + 1 < q by omega, show ¬ w > z by omega, show ¬ z < w by omega, show ¬ w + d < z by omega, show (q == q + 1) = false by simp; omega, show ¬ (q = q + 1) by omega, show (q + 1) % 2 = 0 by omega]
    · simp [c0, show (r == 0) = false by simpa using c0, hnd, c2, show ¬ q + 1 < q by omega, show ¬ w > z by omega, show ¬ z < w by omega, show ¬ w + d < z by omega, show (q == q + 1) = false by simp; omega, show ¬ (q = q + 1) by omega, show ¬ 2 * r < d by omega, show d < 2 * r by omega, show (2 * r == d) = false by simpa using c2]
  · simp only [u1, c1, if_true, if_false, hadd, Int.one_mul, Int.add_zero] at b0 b1 b2 ⊢
    rw [wr (n := z / d + 1) (by omega) (by omega), wr (n := z / d * d) (by omega) (by omega), wr (n := z / d * d + d) (by omega) (by omega), wr (n := z - z / d * d) (by omega) (by omega), and_one (by omega) (by omega), wr (n := z / d % 2) (by omega) (by omega)]
    have x1 : z - z / d * d = r := by omega
    rw [x1, wr (n := 2 * r) (by omega) (by omega)]
    generalize z / d * d = w at *
    generalize z / d = q at *
    by_cases c2 : 2 * r = d
    · simp [c0, show (r == 0) = false by simpa using c0, hnd, c2, show ¬ q + 1 < q by omega, show ¬ w > z by omega, show ¬ z < w by omega, show ¬ w + d < z by omega, show (q == q + 1) = false by simp; omega, show ¬ (q = q + 1) by omega, show q % 2 = 0 by omega]
    · simp [c0, show (r == 0) = false by simpa using c0, hnd, c2, show ¬ q + 1 < q by omega, show ¬ w > z by omega, show ¬ z < w by omega, show ¬ w + d < z by omega, show (q == q + 1) = false by simp; omega, show ¬ (q = q + 1) by omega, show 2 * r < d by omega, show ¬ d < 2 * r by omega, show (2 * r == d) = false by simpa using c2]

theorem toldCentsRound (a0 : Int) (w0 : (Lit.int .i64 a0).wf = true) (a1 : Int) (w1 : (Lit.int .i64 a1).wf = true) (a2 : Int) (w2 : (Lit.int .i64 a2).wf = true) : ToldOk Try.prog 10 [.int .i64 a0, .int .i64 a1, .int .i64 a2] (.bool true) := by
  obtain ⟨m, hm⟩ := spec10 a0 w0 a1 w1 a2 w2
  exact told10 m a0 a1 a2 hm rfl
theorem walkCentsRound (a0 : Int) (w0 : (Lit.int .i64 a0).wf = true) (a1 : Int) (w1 : (Lit.int .i64 a1).wf = true) (a2 : Int) (w2 : (Lit.int .i64 a2).wf = true) (w : World) : Calls Try.prog 10 #[.int .i64 a0, .int .i64 a1, .int .i64 a2] w fun e w' => e = .returned (.bool true) ∧ RowKit.Below w.heap.size w w' := (toldCentsRound a0 w0 a1 w1 a2 w2).walk' w
end Go.Proofs.Ytlnnlkjjgenddaa
