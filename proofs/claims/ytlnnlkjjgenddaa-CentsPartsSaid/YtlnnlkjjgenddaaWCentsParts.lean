/- The law CentsParts answers true. Conditions: none. -/
import Derived.Test.YtlnnlkjjgenddaaCentsAid
namespace Go.Proofs.Ytlnnlkjjgenddaa
open Go Go.Proofs.Ytlnnlkjjgenddaa.Ev
set_option linter.unusedVariables false
set_option linter.unusedSimpArgs false
set_option linter.unnecessarySimpa false
/-! cascade/cascadelaw1.CentsParts -/
def t12 (m : Nat) (a0 : Int) (a1 : Int) (a2 : Int) (a3 : Int) (a4 : Int) : Option Value :=
  let x1 : Int := (mdV (within a0 0 268435456) (within a2 0 268435456) (within a3 1 268435456) 0)
  let x3 : Int := (mdV (within a1 0 268435456) (within a2 0 268435456) (within a3 1 268435456) 0)
  let x5 : Int := (IntKind.i64.wrap ((within a0 0 268435456) + (within a1 0 268435456)))
  let x6 : Int := (mdV x5 (within a2 0 268435456) (within a3 1 268435456) 0)
  let x8 : Int := (IntKind.i64.wrap ((within a0 0 268435456) * (within a4 1 1048576)))
  let x9 : Int := (mdV x8 (within a2 0 268435456) (within a4 1 1048576) 2)
  let x10 : Bool := (mdOk x8 (within a2 0 268435456) (within a4 1 1048576) 2)
  let x12 : Bool := (mdOk (within a0 0 268435456) (within a2 0 268435456) 0 0)
  let x14 : Bool := (mdOk (within a0 0 268435456) (within a2 0 268435456) (within a3 1 268435456) 3)
  let x18 : Bool := (mdOk 1152921504606846976 1152921504606846976 (IntKind.i64.wrap (1 + (IntKind.i64.wrap ((BitVec.ofInt 64 (within a0 0 268435456) &&& BitVec.ofInt 64 1023).toNat)))) 0)
  bif (mdOk x5 (within a2 0 268435456) (within a3 1 268435456) 0) then
   bif x6 == (IntKind.i64.wrap (x1 + x3)) then
    bif x10 then
     bif x9 == (IntKind.i64.wrap ((within a0 0 268435456) * (within a2 0 268435456))) then
      bif !x12 then
       bif !x14 then
        bif !x18 then
         some (.bool true)
        else
         some (.bool false)
       else
        some (.bool false)
      else
       some (.bool false)
     else
      some (.bool false)
    else
     some (.bool false)
   else
    bif x6 == (IntKind.i64.wrap ((IntKind.i64.wrap (x1 + x3)) + 1)) then
     bif x10 then
      bif x9 == (IntKind.i64.wrap ((within a0 0 268435456) * (within a2 0 268435456))) then
       bif !x12 then
        bif !x14 then
         bif !x18 then
          some (.bool true)
         else
          some (.bool false)
        else
         some (.bool false)
       else
        some (.bool false)
      else
       some (.bool false)
     else
      some (.bool false)
    else
     some (.bool false)
  else
   some (.bool false)
def T12 : Tab := tabOf [(8, e8), (24, e24), (25, e25)]
theorem T12_right : Known.right Try.prog T12 := tab_right (all1 right8 (all1 right24 (all1 right25 all0)))
theorem G12 (m : Nat) (a0 : Int) (a1 : Int) (a2 : Int) (a3 : Int) (a4 : Int) : roadIn Try.prog T12 (fun _ => true) (fnOf Try.prog 12) [.int .i64 a0, .int .i64 a1, .int .i64 a2, .int .i64 a3, .int .i64 a4] (kks (fnOf Try.prog 12).results.toList Try.prog []) = t12 m a0 a1 a2 a3 a4 := by kernel_rfl
theorem told12 (m : Nat) (a0 : Int) (a1 : Int) (a2 : Int) (a3 : Int) (a4 : Int) {v : Value} (h : t12 m a0 a1 a2 a3 a4 = some v) (hv : plainT v = true) : ToldOk Try.prog 12 [.int .i64 a0, .int .i64 a1, .int .i64 a2, .int .i64 a3, .int .i64 a4] v :=
  told_road' (S := []) Seat.mix Seat.names T12_right (by kernel_rfl) (by kernel_rfl) (by kernel_rfl)
    all0 ((G12 m a0 a1 a2 a3 a4).trans h) rfl hv


theorem spec12 (a0 : Int) (w0 : (Lit.int .i64 a0).wf = true) (a1 : Int) (w1 : (Lit.int .i64 a1).wf = true) (a2 : Int) (w2 : (Lit.int .i64 a2).wf = true) (a3 : Int) (w3 : (Lit.int .i64 a3).wf = true) (a4 : Int) (w4 : (Lit.int .i64 a4).wf = true) : ∃ m, t12 m a0 a1 a2 a3 a4 = some (.bool true) := by
  refine ⟨0, ?_⟩
  unfold t12
  have bx := within_le (a := a0) (lo := 0) (hi := 268435456) (by omega)
  have by_ := within_le (a := a1) (lo := 0) (hi := 268435456) (by omega)
  have bn := within_le (a := a2) (lo := 0) (hi := 268435456) (by omega)
  have bd := within_le (a := a3) (lo := 1) (hi := 268435456) (by omega)
  have bm := within_le (a := a4) (lo := 1) (hi := 1048576) (by omega)
  generalize within a0 0 268435456 = x at *
  generalize within a1 0 268435456 = y at *
  generalize within a2 0 268435456 = n at *
  generalize within a3 1 268435456 = d at *
  generalize within a4 1 1048576 = k at *
  have h1 := mul_le bx.1 bx.2 bn.1 bn.2
  have h2 := mul_le by_.1 by_.2 bn.1 bn.2
  have h3 := mul_le bx.1 bx.2 (show 0 ≤ k by omega) bm.2
  have h4 : (x + y) * n = x * n + y * n := Int.add_mul _ _ _
  have h5 : x * k * n = k * (x * n) := by rw [Int.mul_comm x k, Int.mul_assoc]
  have h6 : k * (x * n) ≤ 1048576 * 72057594037927936 := Int.mul_le_mul bm.2 (by omega) h1.1 (by omega)
  have h60 : 0 ≤ k * (x * n) := Int.mul_nonneg (by omega) h1.1
  simp only []
  rw [wr (n := x + y) (by omega) (by omega), wr (n := x * k) (by omega) (by omega), wr (n := x * n) (by omega) (by omega)]
  have i1 := md_in (n := x) (b := n) (p := d) (h := 0) (by omega) (by omega) (by omega) (by omega) (by omega) (by omega) (by omega) (by omega) (by omega)
  have i2 := md_in (n := y) (b := n) (p := d) (h := 0) (by omega) (by omega) (by omega) (by omega) (by omega) (by omega) (by omega) (by omega) (by omega)
  have i3 := md_in (n := x + y) (b := n) (p := d) (h := 0) (by omega) (by omega) (by omega) (by omega) (by omega) (by omega) (by omega) (by omega) (by omega)
  have z1 : mdOk x n 0 0 = false := (md_no (by omega)).1
  have z2 : mdOk x n d 3 = false := (md_no (by omega)).1
  have z3 : ∀ c : Int, 0 ≤ c → c ≤ 1023 → mdOk 1152921504606846976 1152921504606846976 (IntKind.i64.wrap (1 + IntKind.i64.wrap c)) 0 = false := by
    intro c c0 c1
    rw [wr (n := c) (by omega) (by omega), wr (n := 1 + c) (by omega) (by omega)]
    refine (md_big ?_).1
    have : (1152921504606846977 : Int) ≤ 1152921504606846976 * 1152921504606846976 / (1 + c) := by rw [Int.le_ediv_iff_mul_le (by omega)]; omega
    omega
  have z4 : 0 ≤ ((BitVec.ofInt 64 x &&& BitVec.ofInt 64 1023).toNat : Int) ∧ ((BitVec.ofInt 64 x &&& BitVec.ofInt 64 1023).toNat : Int) ≤ 1023 := by
    have : (BitVec.ofInt 64 x &&& BitVec.ofInt 64 1023).toNat ≤ 1023 := by
      rw [BitVec.toNat_and]
      exact Nat.le_trans Nat.and_le_right (by decide)
    omega
  have e1 := Int.mul_ediv_add_emod (x * n) d
  have e2 := Int.mul_ediv_add_emod (y * n) d
  have e3 := Int.mul_ediv_add_emod (x * n + y * n) d
  have m1 := Int.emod_nonneg (x * n) (show d ≠ 0 by omega)
  have m2 := Int.emod_lt_of_pos (x * n) (show 0 < d by omega)
  have m3 := Int.emod_nonneg (y * n) (show d ≠ 0 by omega)
  have m4 := Int.emod_lt_of_pos (y * n) (show 0 < d by omega)
  have hs : (x * n + y * n) / d = x * n / d + y * n / d ∨ (x * n + y * n) / d = x * n / d + y * n / d + 1 := by
    have e : x * n + y * n = (x * n % d + y * n % d) + (x * n / d + y * n / d) * d := by
      rw [Int.add_mul, Int.mul_comm _ d, Int.mul_comm _ d]; omega
    have f : (x * n % d + y * n % d) / d = 0 ∨ (x * n % d + y * n % d) / d = 1 := by
      have a1 : 0 ≤ (x * n % d + y * n % d) / d := Int.ediv_nonneg (by omega) (by omega)
      have a2 : (x * n % d + y * n % d) / d < 2 := by rw [Int.ediv_lt_iff_lt_mul (by omega)]; omega
      omega
    have g : (x * n + y * n) / d = (x * n % d + y * n % d) / d + (x * n / d + y * n / d) := by
      conv => lhs; rw [e]
      exact Int.add_mul_ediv_right _ _ (by omega)
    omega
  have hk : mdOk (x * k) n k 2 = true ∧ mdV (x * k) n k 2 = x * n := by
    have q1 : x * k * n / k = x * n := by rw [h5]; exact Int.mul_ediv_cancel_left _ (by omega)
    have q2 : x * k * n % k = 0 := by rw [h5]; exact Int.mul_emod_right _ _
    have q3 : mdQ (x * k) n k 2 = x * n := by
      rw [mdQ2, q1, q2]; simp; omega
    have q4 : mdOk (x * k) n k 2 = true := by rw [md_ok (by omega) (by omega) (by omega) (by omega) (by omega) (by omega) (by omega) (by omega), q3]; simp; omega
    exact ⟨q4, by simp [mdV, q4, q3]⟩
  have b1 := i1.2.2; have b2 := i2.2.2; have b3 := i3.2.2
  simp only [i1.2.1, i2.2.1, i3.1, i3.2.1, mdQ0, hk.1, hk.2, z1, z2, z3 _ z4.1 z4.2, h4] at b1 b2 b3 ⊢
  rw [wr (n := x * n / d + y * n / d) (by omega) (by omega), wr (n := x * n / d + y * n / d + 1) (by omega) (by omega)]
  rcases hs with hs | hs
  · simp [hs]
  · simp [hs]

theorem toldCentsParts (a0 : Int) (w0 : (Lit.int .i64 a0).wf = true) (a1 : Int) (w1 : (Lit.int .i64 a1).wf = true) (a2 : Int) (w2 : (Lit.int .i64 a2).wf = true) (a3 : Int) (w3 : (Lit.int .i64 a3).wf = true) (a4 : Int) (w4 : (Lit.int .i64 a4).wf = true) : ToldOk Try.prog 12 [.int .i64 a0, .int .i64 a1, .int .i64 a2, .int .i64 a3, .int .i64 a4] (.bool true) := by
  obtain ⟨m, hm⟩ := spec12 a0 w0 a1 w1 a2 w2 a3 w3 a4 w4
  exact told12 m a0 a1 a2 a3 a4 hm rfl
theorem walkCentsParts (a0 : Int) (w0 : (Lit.int .i64 a0).wf = true) (a1 : Int) (w1 : (Lit.int .i64 a1).wf = true) (a2 : Int) (w2 : (Lit.int .i64 a2).wf = true) (a3 : Int) (w3 : (Lit.int .i64 a3).wf = true) (a4 : Int) (w4 : (Lit.int .i64 a4).wf = true) (w : World) : Calls Try.prog 12 #[.int .i64 a0, .int .i64 a1, .int .i64 a2, .int .i64 a3, .int .i64 a4] w fun e w' => e = .returned (.bool true) ∧ RowKit.Below w.heap.size w w' := (toldCentsParts a0 w0 a1 w1 a2 w2 a3 w3 a4 w4).walk' w
end Go.Proofs.Ytlnnlkjjgenddaa
