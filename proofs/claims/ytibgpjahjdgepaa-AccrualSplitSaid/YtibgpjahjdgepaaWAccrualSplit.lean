/- The law 'AccrualSplit' answers true, whatever whole numbers it is given. Conditions: none. -/
import Derived.Test.YtibgpjahjdgepaaAccrAid
namespace Go.Proofs.Ytibgpjahjdgepaa
open Go Go.Proofs.Ytibgpjahjdgepaa.Ev
set_option linter.unusedVariables false
set_option linter.unusedSimpArgs false
set_option linter.unnecessarySimpa false
/-! cascade/cascadelaw3.AccrualSplit -/
def t10 (m : Nat) (a0 : Int) (a1 : Int) (a2 : Int) (a3 : Int) (a4 : Int) (a5 : Int) : Option Value :=
  let x1 : Int := (within a0 0 274877906944)
  let x2 : Int := (within a1 0 274877906944)
  let x3 : Int := (dateY (within a3 0 3000000))
  let x4 : Int := (dateM (within a3 0 3000000))
  let x5 : Int := (dateD (within a3 0 3000000))
  let x6 : Int := (IntKind.i64.wrap ((number x3 x4 x5) + (within a4 0 400)))
  bif decide (-2305843009213693952 ≤ 0 ∧ 0 ≤ (within a4 0 400) ∧ (within a4 0 400) ≤ 2305843009213693952) then
   let x8 : Int := (IntKind.i64.wrap ((number x3 x4 x5) + (within a5 0 (within a4 0 400))))
   let x9 : Int := (intV x1 (within a2 0 5000) 1 x3 x4 x5 (dateY x6) (dateM x6) (dateD x6))
   let x11 : Int := (intV x1 (within a2 0 5000) 1 x3 x4 x5 (dateY x8) (dateM x8) (dateD x8))
   let x13 : Int := (intV x1 (within a2 0 5000) 1 (dateY x8) (dateM x8) (dateD x8) (dateY x6) (dateM x6) (dateD x6))
   let x15 : Int := (intV x2 (within a2 0 5000) 1 x3 x4 x5 (dateY x6) (dateM x6) (dateD x6))
   let x17 : Int := (IntKind.i64.wrap (x1 + x2))
   let x18 : Int := (intV x17 (within a2 0 5000) 1 x3 x4 x5 (dateY x6) (dateM x6) (dateD x6))
   bif (intOk x1 (within a2 0 5000) 1 x3 x4 x5 (dateY x6) (dateM x6) (dateD x6)) then
    bif (intOk x1 (within a2 0 5000) 1 x3 x4 x5 (dateY x8) (dateM x8) (dateD x8)) then
     bif (intOk x1 (within a2 0 5000) 1 (dateY x8) (dateM x8) (dateD x8) (dateY x6) (dateM x6) (dateD x6)) then
      bif (intOk x2 (within a2 0 5000) 1 x3 x4 x5 (dateY x6) (dateM x6) (dateD x6)) then
       bif (intOk x17 (within a2 0 5000) 1 x3 x4 x5 (dateY x6) (dateM x6) (dateD x6)) then
        bif decide ((IntKind.i64.wrap ((IntKind.i64.wrap (x11 + x13)) - x9)) ≥ (-1)) then
         bif decide ((IntKind.i64.wrap ((IntKind.i64.wrap (x11 + x13)) - x9)) ≤ 1) then
          bif decide ((IntKind.i64.wrap ((IntKind.i64.wrap (x9 + x15)) - x18)) ≥ (-1)) then
           bif decide ((IntKind.i64.wrap ((IntKind.i64.wrap (x9 + x15)) - x18)) ≤ 1) then
            some (.bool true)
           else
            some (.bool false)
          else
           some (.bool false)
         else
          some (.bool false)
        else
         some (.bool false)
       else
        some (.bool false)
      else
       some (.bool false)
     else
      some (.bool false)
    else
     some (.bool false)
   else
    some (.bool false)
  else
   none
def T10 : Tab := tabOf [(7, e7), (17, e17), (21, e21), (25, e25), (26, e26)]
theorem T10_right : Known.right Try.prog T10 := tab_right (all1 right7 (all1 right17 (all1 right21 (all1 right25 (all1 right26 all0)))))
theorem G10 (m : Nat) (a0 : Int) (a1 : Int) (a2 : Int) (a3 : Int) (a4 : Int) (a5 : Int) : roadIn Try.prog T10 (fun _ => true) (fnOf Try.prog 10) [.int .i64 a0, .int .i64 a1, .int .i64 a2, .int .i64 a3, .int .i64 a4, .int .i64 a5] (kks (fnOf Try.prog 10).results.toList Try.prog []) = t10 m a0 a1 a2 a3 a4 a5 := by kernel_rfl
theorem told10 (m : Nat) (a0 : Int) (a1 : Int) (a2 : Int) (a3 : Int) (a4 : Int) (a5 : Int) {v : Value} (h : t10 m a0 a1 a2 a3 a4 a5 = some v) (hv : plainT v = true) : ToldOk Try.prog 10 [.int .i64 a0, .int .i64 a1, .int .i64 a2, .int .i64 a3, .int .i64 a4, .int .i64 a5] v :=
  told_road' (S := []) Seat.mix Seat.names T10_right (by kernel_rfl) (by kernel_rfl) (by kernel_rfl)
    all0 ((G10 m a0 a1 a2 a3 a4 a5).trans h) rfl hv


theorem spec10 (a0 : Int) (w0 : (Lit.int .i64 a0).wf = true) (a1 : Int) (w1 : (Lit.int .i64 a1).wf = true) (a2 : Int) (w2 : (Lit.int .i64 a2).wf = true) (a3 : Int) (w3 : (Lit.int .i64 a3).wf = true) (a4 : Int) (w4 : (Lit.int .i64 a4).wf = true) (a5 : Int) (w5 : (Lit.int .i64 a5).wf = true) : ∃ m, t10 m a0 a1 a2 a3 a4 a5 = some (.bool true) := by
  refine ⟨0, ?_⟩
  unfold t10
  have bb := within_le (a := a0) (lo := 0) (hi := 274877906944) (by omega)
  have bc := within_le (a := a1) (lo := 0) (hi := 274877906944) (by omega)
  have br := within_le (a := a2) (lo := 0) (hi := 5000) (by omega)
  have bk := within_le (a := a4) (lo := 0) (hi := 400) (by omega)
  have bn := within_le (a := a3) (lo := 0) (hi := 3000000) (by omega)
  generalize within a3 0 3000000 = n at *
  have hn : rightN n = true := by rw [rightN_iff]; omega
  generalize within a0 0 274877906944 = b at *
  generalize within a1 0 274877906944 = c at *
  generalize within a2 0 5000 = r at *
  generalize within a4 0 400 = k at *
  have bj := within_le (a := a5) (lo := 0) (hi := k) (by omega)
  generalize within a5 0 k = j at *
  simp only [date_number hn]
  rw [wr (n := n + k) (by omega) (by omega), wr (n := n + j) (by omega) (by omega), wr (n := b + c) (by omega) (by omega)]
  simp only [show -2305843009213693952 ≤ (0 : Int) ∧ 0 ≤ k ∧ k ≤ 2305843009213693952 by omega, and_self, decide_true, cond_true]
  have hk : rightN (n + k) = true := by rw [rightN_iff]; omega
  have hj : rightN (n + j) = true := by rw [rightN_iff]; omega
  have p1 : 0 ≤ r * k ∧ r * k ≤ 5000 * 400 := ⟨Int.mul_nonneg br.1 bk.1, Int.mul_le_mul br.2 bk.2 bk.1 (by omega)⟩
  have p2 : 0 ≤ r * j ∧ r * j ≤ 5000 * 400 := ⟨Int.mul_nonneg br.1 bj.1, Int.mul_le_mul br.2 (by omega) bj.1 (by omega)⟩
  have p3 : 0 ≤ r * (k - j) ∧ r * (k - j) ≤ 5000 * 400 := ⟨Int.mul_nonneg br.1 (by omega), Int.mul_le_mul br.2 (by omega) (by omega) (by omega)⟩
  have e3 : r * (k - j) = r * k - r * j := Int.mul_sub _ _ _
  have q1 := mul_le bb.1 bb.2 p1.1 p1.2
  have q2 := mul_le bb.1 bb.2 p2.1 p2.2
  have q3 := mul_le bb.1 bb.2 p3.1 p3.2
  have q4 := mul_le bc.1 bc.2 p1.1 p1.2
  have s0 : n + k - n = k := by omega
  have s1 : n + j - n = j := by omega
  have s2 : n + k - (n + j) = k - j := by omega
  have z2 : (b + c) * (r * k) = b * (r * k) + c * (r * k) := Int.add_mul _ _ _
  have z3 : b * (r * (k - j)) = b * (r * k) - b * (r * j) := by rw [e3, Int.mul_sub]
  have i1 := int_act (b := 1) (bal := b) (r := r) (.inl rfl) hn hk (by omega) (by omega) (by omega) (by omega) (by omega) (by rw [s0]; omega)
  have i2 := int_act (b := 1) (bal := b) (r := r) (.inl rfl) hn hj (by omega) (by omega) (by omega) (by omega) (by omega) (by rw [s1]; omega)
  have i3 := int_act (b := 1) (bal := b) (r := r) (.inl rfl) hj hk (by omega) (by omega) (by omega) (by omega) (by omega) (by rw [s2]; omega)
  have i4 := int_act (b := 1) (bal := c) (r := r) (.inl rfl) hn hk (by omega) (by omega) (by omega) (by omega) (by omega) (by rw [s0]; omega)
  have i5 := int_act (b := 1) (bal := b + c) (r := r) (.inl rfl) hn hk (by omega) (by omega) (by omega) (by omega) (by omega) (by rw [s0]; omega)
  rw [s0] at i1 i4 i5
  rw [s1] at i2
  rw [s2] at i3
  have hper : perN 1 = 360 := rfl
  rw [hper] at i1 i2 i3 i4 i5
  simp only [i1.1, i1.2.1, i2.1, i2.2.1, i3.1, i3.2.1, i4.1, i4.2.1, i5.1, i5.2.1]
  have t1 := hround_near (z := b * (r * k)) (p := 10000 * 360) (by omega)
  have t2 := hround_near (z := b * (r * j)) (p := 10000 * 360) (by omega)
  have t3 := hround_near (z := b * (r * (k - j))) (p := 10000 * 360) (by omega)
  have t4 := hround_near (z := c * (r * k)) (p := 10000 * 360) (by omega)
  have t5 := hround_near (z := (b + c) * (r * k)) (p := 10000 * 360) (by omega)
  rw [z2] at t5 ⊢
  rw [z3] at t3 ⊢
  generalize hround (b * (r * k)) (10000 * 360) = h1 at *
  generalize hround (b * (r * j)) (10000 * 360) = h2 at *
  generalize hround (b * (r * k) - b * (r * j)) (10000 * 360) = h3 at *
  generalize hround (c * (r * k)) (10000 * 360) = h4 at *
  generalize hround (b * (r * k) + c * (r * k)) (10000 * 360) = h5 at *
  rw [wr (n := h2 + h3) (by omega) (by omega), wr (n := h2 + h3 - h1) (by omega) (by omega), wr (n := h1 + h4) (by omega) (by omega), wr (n := h1 + h4 - h5) (by omega) (by omega)]
  simp [show -1 ≤ h2 + h3 - h1 by omega, show h2 + h3 - h1 ≤ 1 by omega, show -1 ≤ h1 + h4 - h5 by omega, show h1 + h4 - h5 ≤ 1 by omega]

theorem toldAccrualSplit (a0 : Int) (w0 : (Lit.int .i64 a0).wf = true) (a1 : Int) (w1 : (Lit.int .i64 a1).wf = true) (a2 : Int) (w2 : (Lit.int .i64 a2).wf = true) (a3 : Int) (w3 : (Lit.int .i64 a3).wf = true) (a4 : Int) (w4 : (Lit.int .i64 a4).wf = true) (a5 : Int) (w5 : (Lit.int .i64 a5).wf = true) : ToldOk Try.prog 10 [.int .i64 a0, .int .i64 a1, .int .i64 a2, .int .i64 a3, .int .i64 a4, .int .i64 a5] (.bool true) := by
  obtain ⟨m, hm⟩ := spec10 a0 w0 a1 w1 a2 w2 a3 w3 a4 w4 a5 w5
  exact told10 m a0 a1 a2 a3 a4 a5 hm rfl
theorem walkAccrualSplit (a0 : Int) (w0 : (Lit.int .i64 a0).wf = true) (a1 : Int) (w1 : (Lit.int .i64 a1).wf = true) (a2 : Int) (w2 : (Lit.int .i64 a2).wf = true) (a3 : Int) (w3 : (Lit.int .i64 a3).wf = true) (a4 : Int) (w4 : (Lit.int .i64 a4).wf = true) (a5 : Int) (w5 : (Lit.int .i64 a5).wf = true) (w : World) : Calls Try.prog 10 #[.int .i64 a0, .int .i64 a1, .int .i64 a2, .int .i64 a3, .int .i64 a4, .int .i64 a5] w fun e w' => e = .returned (.bool true) ∧ RowKit.Below w.heap.size w w' := (toldAccrualSplit a0 w0 a1 w1 a2 w2 a3 w3 a4 w4 a5 w5).walk' w
end Go.Proofs.Ytibgpjahjdgepaa
