/- The law 'AccrualMore' answers true, whatever whole numbers it is given. Conditions: none. -/
import Derived.Test.YtibgpjahjdgepaaAccrAid
namespace Go.Proofs.Ytibgpjahjdgepaa
open Go Go.Proofs.Ytibgpjahjdgepaa.Ev
set_option linter.unusedVariables false
set_option linter.unusedSimpArgs false
set_option linter.unnecessarySimpa false
/-! cascade/cascadelaw3.AccrualMore -/
def t9 (m : Nat) (a0 : Int) (a1 : Int) (a2 : Int) (a3 : Int) (a4 : Int) (a5 : Int) : Option Value :=
  let x1 : Int := (within a0 0 274877906944)
  let x2 : Int := (dateY (within a4 0 3000000))
  let x3 : Int := (dateM (within a4 0 3000000))
  let x4 : Int := (dateD (within a4 0 3000000))
  let x5 : Int := (IntKind.i64.wrap ((number x2 x3 x4) + (within a5 0 400)))
  let x6 : Int := (intV x1 (within a2 0 2500) 2 x2 x3 x4 (dateY x5) (dateM x5) (dateD x5))
  let x9 : Int := (IntKind.i64.wrap (x1 + (within a1 0 274877906944)))
  let x12 : Int := (IntKind.i64.wrap ((within a2 0 2500) + (within a3 0 2500)))
  let x16 : Int := (IntKind.i64.wrap ((number (dateY x5) (dateM x5) (dateD x5)) + 1))
  let x19 : Int := (IntKind.i64.wrap (2 * x1))
  let x20 : Int := (intV x19 (within a2 0 2500) 2 x2 x3 x4 (dateY x5) (dateM x5) (dateD x5))
  bif (intOk x1 (within a2 0 2500) 2 x2 x3 x4 (dateY x5) (dateM x5) (dateD x5)) then
   bif (intOk x9 (within a2 0 2500) 2 x2 x3 x4 (dateY x5) (dateM x5) (dateD x5)) then
    bif (intOk x1 x12 2 x2 x3 x4 (dateY x5) (dateM x5) (dateD x5)) then
     bif (intOk x1 (within a2 0 2500) 2 x2 x3 x4 (dateY x16) (dateM x16) (dateD x16)) then
      bif (intOk x19 (within a2 0 2500) 2 x2 x3 x4 (dateY x5) (dateM x5) (dateD x5)) then
       bif decide ((intV x9 (within a2 0 2500) 2 x2 x3 x4 (dateY x5) (dateM x5) (dateD x5)) ≥ x6) then
        bif decide ((intV x1 x12 2 x2 x3 x4 (dateY x5) (dateM x5) (dateD x5)) ≥ x6) then
         bif decide ((intV x1 (within a2 0 2500) 2 x2 x3 x4 (dateY x16) (dateM x16) (dateD x16)) ≥ x6) then
          bif decide (x20 ≥ (IntKind.i64.wrap ((IntKind.i64.wrap (2 * x6)) - 1))) then
           bif decide (x20 ≤ (IntKind.i64.wrap ((IntKind.i64.wrap (2 * x6)) + 1))) then
            bif !(intOk x1 5001 2 x2 x3 x4 (dateY x5) (dateM x5) (dateD x5)) then
             bif !(intOk x1 (-1) 2 x2 x3 x4 (dateY x5) (dateM x5) (dateD x5)) then
              some (.bool true)
             else
              some (.bool false)
            else
             some (.bool false)
           else
            some (.bool false)
          else
           some (.bool false)
         else
          some (.bool false)
        else
         some (.bool false)
       else
        some (.bool false)
      else
       some (.bool false)
     else
      some (.bool false)
    else
     some (.bool false)
   else
    some (.bool false)
  else
   some (.bool false)
def T9 : Tab := tabOf [(7, e7), (17, e17), (21, e21), (25, e25), (26, e26)]
theorem T9_right : Known.right Try.prog T9 := tab_right (all1 right7 (all1 right17 (all1 right21 (all1 right25 (all1 right26 all0)))))
theorem G9 (m : Nat) (a0 : Int) (a1 : Int) (a2 : Int) (a3 : Int) (a4 : Int) (a5 : Int) : roadIn Try.prog T9 (fun _ => true) (fnOf Try.prog 9) [.int .i64 a0, .int .i64 a1, .int .i64 a2, .int .i64 a3, .int .i64 a4, .int .i64 a5] (kks (fnOf Try.prog 9).results.toList Try.prog []) = t9 m a0 a1 a2 a3 a4 a5 := by kernel_rfl
theorem told9 (m : Nat) (a0 : Int) (a1 : Int) (a2 : Int) (a3 : Int) (a4 : Int) (a5 : Int) {v : Value} (h : t9 m a0 a1 a2 a3 a4 a5 = some v) (hv : plainT v = true) : ToldOk Try.prog 9 [.int .i64 a0, .int .i64 a1, .int .i64 a2, .int .i64 a3, .int .i64 a4, .int .i64 a5] v :=
  told_road' (S := []) Seat.mix Seat.names T9_right (by kernel_rfl) (by kernel_rfl) (by kernel_rfl)
    all0 ((G9 m a0 a1 a2 a3 a4 a5).trans h) rfl hv


theorem spec9 (a0 : Int) (w0 : (Lit.int .i64 a0).wf = true) (a1 : Int) (w1 : (Lit.int .i64 a1).wf = true) (a2 : Int) (w2 : (Lit.int .i64 a2).wf = true) (a3 : Int) (w3 : (Lit.int .i64 a3).wf = true) (a4 : Int) (w4 : (Lit.int .i64 a4).wf = true) (a5 : Int) (w5 : (Lit.int .i64 a5).wf = true) : ∃ m, t9 m a0 a1 a2 a3 a4 a5 = some (.bool true) := by
  refine ⟨0, ?_⟩
  unfold t9
  have bb := within_le (a := a0) (lo := 0) (hi := 274877906944) (by omega)
  have bm := within_le (a := a1) (lo := 0) (hi := 274877906944) (by omega)
  have br := within_le (a := a2) (lo := 0) (hi := 2500) (by omega)
  have bu := within_le (a := a3) (lo := 0) (hi := 2500) (by omega)
  have bk := within_le (a := a5) (lo := 0) (hi := 400) (by omega)
  have bn := within_le (a := a4) (lo := 0) (hi := 3000000) (by omega)
  generalize within a4 0 3000000 = n at *
  have hn : rightN n = true := by rw [rightN_iff]; omega
  generalize within a0 0 274877906944 = b at *
  generalize within a1 0 274877906944 = c at *
  generalize within a2 0 2500 = r at *
  generalize within a3 0 2500 = u at *
  generalize within a5 0 400 = k at *
  simp only [date_number hn]
  rw [wr (n := n + k) (by omega) (by omega)]
  have hk : rightN (n + k) = true := by rw [rightN_iff]; omega
  simp only [date_number hk]
  rw [wr (n := n + k + 1) (by omega) (by omega), wr (n := b + c) (by omega) (by omega), wr (n := r + u) (by omega) (by omega), wr (n := 2 * b) (by omega) (by omega)]
  have hk1 : rightN (n + k + 1) = true := by rw [rightN_iff]; omega
  have p1 : 0 ≤ r * k ∧ r * k ≤ 2500 * 400 := ⟨Int.mul_nonneg br.1 bk.1, Int.mul_le_mul br.2 bk.2 bk.1 (by omega)⟩
  have p2 : 0 ≤ u * k ∧ u * k ≤ 2500 * 400 := ⟨Int.mul_nonneg bu.1 bk.1, Int.mul_le_mul bu.2 bk.2 bk.1 (by omega)⟩
  have e1 : (r + u) * k = r * k + u * k := Int.add_mul _ _ _
  have e2 : r * (k + 1) = r * k + r := by rw [Int.mul_add, Int.mul_one]
  have q1 := mul_le bb.1 bb.2 p1.1 p1.2
  have q2 := mul_le bb.1 bb.2 p2.1 p2.2
  have q3 := mul_le bb.1 bb.2 br.1 br.2
  have q4 := mul_le bm.1 bm.2 p1.1 p1.2
  have s0 : n + k - n = k := by omega
  have s1 : n + k + 1 - n = k + 1 := by omega
  have z2 : (b + c) * (r * k) = b * (r * k) + c * (r * k) := Int.add_mul _ _ _
  have z3 : b * ((r + u) * k) = b * (r * k) + b * (u * k) := by rw [e1, Int.mul_add]
  have z4 : b * (r * (k + 1)) = b * (r * k) + b * r := by rw [e2, Int.mul_add]
  have z5 : 2 * b * (r * k) = 2 * (b * (r * k)) := Int.mul_assoc _ _ _
  have i1 := int_act (b := 2) (bal := b) (r := r) (.inr rfl) hn hk (by omega) (by omega) (by omega) (by omega) (by omega) (by rw [s0]; omega)
  have i2 := int_act (b := 2) (bal := b + c) (r := r) (.inr rfl) hn hk (by omega) (by omega) (by omega) (by omega) (by omega) (by rw [s0]; omega)
  have i3 := int_act (b := 2) (bal := b) (r := r + u) (.inr rfl) hn hk (by omega) (by omega) (by omega) (by omega) (by omega) (by rw [s0]; omega)
  have i4 := int_act (b := 2) (bal := b) (r := r) (.inr rfl) hn hk1 (by omega) (by omega) (by omega) (by omega) (by omega) (by rw [s1]; omega)
  have i5 := int_act (b := 2) (bal := 2 * b) (r := r) (.inr rfl) hn hk (by omega) (by omega) (by omega) (by omega) (by omega) (by rw [s0]; omega)
  rw [s0] at i1 i2 i3 i5
  rw [s1] at i4
  have hper : perN 2 = 365 := rfl
  rw [hper, show (10000 : Int) * 365 = 3650000 by rfl] at i1 i2 i3 i4 i5
  simp only [i1.1, i1.2.1, i2.1, i2.2.1, i3.1, i3.2.1, i4.1, i4.2.1, i5.1, i5.2.1]
  have n1 : ∀ d e f x y z, intOk b 5001 2 d e f x y z = false := fun d e f x y z => by simp [intOk]
  have n2 : ∀ d e f x y z, intOk b (-1) 2 d e f x y z = false := fun d e f x y z => by simp [intOk]
  rw [n1, n2]
  have v1 := i1.2.2; have v5 := i5.2.2
  have w1 := hround_pos (z := b * (r * k)) (p := 3650000) (by omega) v1.1
  have m2 := hround_mono (p := 3650000) (z := b * (r * k)) (w := (b + c) * (r * k)) (by omega) (by omega)
  have m3 := hround_mono (p := 3650000) (z := b * (r * k)) (w := b * ((r + u) * k)) (by omega) (by omega)
  have m4 := hround_mono (p := 3650000) (z := b * (r * k)) (w := b * (r * (k + 1))) (by omega) (by omega)
  have t1 := hround_near (z := b * (r * k)) (p := 3650000) (by omega)
  have t5 := hround_near (z := 2 * b * (r * k)) (p := 3650000) (by omega)
  rw [z5] at t5 v5 ⊢
  generalize hround (b * (r * k)) 3650000 = h1 at *
  generalize hround (2 * (b * (r * k))) 3650000 = h5 at *
  rw [wr (n := 2 * h1) (by omega) (by omega), wr (n := 2 * h1 - 1) (by omega) (by omega), wr (n := 2 * h1 + 1) (by omega) (by omega)]
  simp [m2, m3, m4, show 2 * h1 - 1 ≤ h5 by omega, show h5 ≤ 2 * h1 + 1 by omega]

theorem toldAccrualMore (a0 : Int) (w0 : (Lit.int .i64 a0).wf = true) (a1 : Int) (w1 : (Lit.int .i64 a1).wf = true) (a2 : Int) (w2 : (Lit.int .i64 a2).wf = true) (a3 : Int) (w3 : (Lit.int .i64 a3).wf = true) (a4 : Int) (w4 : (Lit.int .i64 a4).wf = true) (a5 : Int) (w5 : (Lit.int .i64 a5).wf = true) : ToldOk Try.prog 9 [.int .i64 a0, .int .i64 a1, .int .i64 a2, .int .i64 a3, .int .i64 a4, .int .i64 a5] (.bool true) := by
  obtain ⟨m, hm⟩ := spec9 a0 w0 a1 w1 a2 w2 a3 w3 a4 w4 a5 w5
  exact told9 m a0 a1 a2 a3 a4 a5 hm rfl
theorem walkAccrualMore (a0 : Int) (w0 : (Lit.int .i64 a0).wf = true) (a1 : Int) (w1 : (Lit.int .i64 a1).wf = true) (a2 : Int) (w2 : (Lit.int .i64 a2).wf = true) (a3 : Int) (w3 : (Lit.int .i64 a3).wf = true) (a4 : Int) (w4 : (Lit.int .i64 a4).wf = true) (a5 : Int) (w5 : (Lit.int .i64 a5).wf = true) (w : World) : Calls Try.prog 9 #[.int .i64 a0, .int .i64 a1, .int .i64 a2, .int .i64 a3, .int .i64 a4, .int .i64 a5] w fun e w' => e = .returned (.bool true) ∧ RowKit.Below w.heap.size w w' := (toldAccrualMore a0 w0 a1 w1 a2 w2 a3 w3 a4 w4 a5 w5).walk' w
end Go.Proofs.Ytibgpjahjdgepaa
