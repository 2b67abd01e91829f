/- The law 'AccrualAdds' answers true, whatever whole numbers it is given. Conditions: none. -/
import Derived.Test.YtibgpjahjdgepaaAccrAid
namespace Go.Proofs.Ytibgpjahjdgepaa
open Go Go.Proofs.Ytibgpjahjdgepaa.Ev
set_option linter.unusedVariables false
set_option linter.unusedSimpArgs false
set_option linter.unnecessarySimpa false
/-! cascade/cascadelaw3.AccrualAdds -/
def t11 (m : Nat) (a0 : Int) (a1 : Int) (a2 : Int) (a3 : Int) : Option Value :=
  let x1 : Int := (dateY (within a0 0 3000000))
  let x2 : Int := (dateM (within a0 0 3000000))
  let x3 : Int := (dateD (within a0 0 3000000))
  let x4 : Int := (IntKind.i64.wrap ((number x1 x2 x3) + (within a1 0 5000)))
  let x6 : Int := (IntKind.i64.wrap ((number (dateY x4) (dateM x4) (dateD x4)) + (within a2 0 5000)))
  let x7 : Int := (daysN (within a3 1 2) x1 x2 x3 (dateY x4) (dateM x4) (dateD x4))
  let x9 : Int := (daysN (within a3 1 2) x1 x2 x3 (dateY x6) (dateM x6) (dateD x6))
  bif (IntKind.i64.wrap (x7 + (daysN (within a3 1 2) (dateY x4) (dateM x4) (dateD x4) (dateY x6) (dateM x6) (dateD x6)))) != x9 then
   some (.bool false)
  else
   bif ((perN (within a3 1 2)) != (IntKind.i64.wrap (360 + (IntKind.i64.wrap (5 * (IntKind.i64.wrap ((within a3 1 2) - 1))))))) then
    some (.bool false)
   else
    bif x7 != (IntKind.i64.wrap ((number (dateY x4) (dateM x4) (dateD x4)) - (number x1 x2 x3))) then
     some (.bool false)
    else
     let x17 : Int := (if 28 < x3 then 28 else x3)
     let x20 : Int := (within a2 0 1099511627776)
     bif (daysN 0 x1 x2 x17 (shiftY x1 x2 x17 1) (shiftM x1 x2 x17 1) (shiftD x1 x2 x17 1)) == 30 then
      bif (daysN 0 x1 x2 x17 (shiftY x1 x2 x17 12) (shiftM x1 x2 x17 12) (shiftD x1 x2 x17 12)) == 360 then
       bif (intV x20 300 (within a3 1 2) x1 x2 x3 x1 x2 x3) == 0 then
        bif (intOk x20 300 (within a3 1 2) x1 x2 x3 x1 x2 x3) then
         bif x9 == 0 then
          some (.bool true)
         else
          bif (daysN (within a3 1 2) (dateY x6) (dateM x6) (dateD x6) x1 x2 x3) == 0 then
           some (.bool true)
          else
           some (.bool false)
        else
         some (.bool false)
       else
        some (.bool false)
      else
       some (.bool false)
     else
      some (.bool false)
def T11 : Tab := tabOf [(7, e7), (17, e17), (20, e20), (21, e21), (25, e25), (26, e26), (27, e27)]
theorem T11_right : Known.right Try.prog T11 := tab_right (all1 right7 (all1 right17 (all1 right20 (all1 right21 (all1 right25 (all1 right26 (all1 right27 all0)))))))
theorem G11 (m : Nat) (a0 : Int) (a1 : Int) (a2 : Int) (a3 : Int) : roadIn Try.prog T11 (fun _ => true) (fnOf Try.prog 11) [.int .i64 a0, .int .i64 a1, .int .i64 a2, .int .i64 a3] (kks (fnOf Try.prog 11).results.toList Try.prog []) = t11 m a0 a1 a2 a3 := by kernel_rfl
theorem told11 (m : Nat) (a0 : Int) (a1 : Int) (a2 : Int) (a3 : Int) {v : Value} (h : t11 m a0 a1 a2 a3 = some v) (hv : plainT v = true) : ToldOk Try.prog 11 [.int .i64 a0, .int .i64 a1, .int .i64 a2, .int .i64 a3] v :=
  told_road' (S := []) Seat.mix Seat.names T11_right (by kernel_rfl) (by kernel_rfl) (by kernel_rfl)
    all0 ((G11 m a0 a1 a2 a3).trans h) rfl hv


theorem spec11 (a0 : Int) (w0 : (Lit.int .i64 a0).wf = true) (a1 : Int) (w1 : (Lit.int .i64 a1).wf = true) (a2 : Int) (w2 : (Lit.int .i64 a2).wf = true) (a3 : Int) (w3 : (Lit.int .i64 a3).wf = true) : ∃ m, t11 m a0 a1 a2 a3 = some (.bool true) := by
  refine ⟨0, ?_⟩
  unfold t11
  have bk := within_le (a := a1) (lo := 0) (hi := 5000) (by omega)
  have bj := within_le (a := a2) (lo := 0) (hi := 5000) (by omega)
  have bx := within_le (a := a2) (lo := 0) (hi := 1099511627776) (by omega)
  have bb := within_le (a := a3) (lo := 1) (hi := 2) (by omega)
  have bn := within_le (a := a0) (lo := 0) (hi := 3000000) (by omega)
  generalize within a0 0 3000000 = n at *
  have hn : rightN n = true := by rw [rightN_iff]; omega
  generalize within a1 0 5000 = k at *
  generalize within a2 0 5000 = j at *
  generalize within a2 0 1099511627776 = x at *
  generalize within a3 1 2 = s at *
  have hs : s = 1 ∨ s = 2 := by omega
  simp only [date_number hn]
  rw [wr (n := n + k) (by omega) (by omega)]
  have hk : rightN (n + k) = true := by rw [rightN_iff]; omega
  simp only [date_number hk]
  rw [wr (n := n + k + j) (by omega) (by omega), wr (n := n + k - n) (by omega) (by omega)]
  have hj : rightN (n + k + j) = true := by rw [rightN_iff]; omega
  rw [act_days hs hn hk (by omega), act_days hs hk hj (by omega), act_days hs hn hj (by omega)]
  rw [wr (n := n + k - n + (n + k + j - (n + k))) (by omega) (by omega), wr (n := s - 1) (by omega) (by omega), wr (n := 5 * (s - 1)) (by omega) (by omega), wr (n := 360 + 5 * (s - 1)) (by omega) (by omega)]
  have hper : perN s = 360 + 5 * (s - 1) := by unfold perN; split <;> omega
  have c1 : n + k - n + (n + k + j - (n + k)) = n + k + j - n := by omega
  have back := act_back (b := s) hj hn (by omega)
  have hr := date_right hn
  have hzero : daysN s (dateY n) (dateM n) (dateD n) (dateY n) (dateM n) (dateD n) = 0 := by rw [act_days hs hn hn (by omega)]; omega
  have hi : intV x 300 s (dateY n) (dateM n) (dateD n) (dateY n) (dateM n) (dateD n) = 0 ∧ intOk x 300 s (dateY n) (dateM n) (dateD n) (dateY n) (dateM n) (dateD n) = true := by
    unfold intV intOk
    rw [hzero]
    have i := md_in (n := x) (b := 300 * 0) (p := 10000 * perN s) (h := 2) (by omega) (by omega) (by omega) (by omega) (by omega) (by omega) (by omega) (by omega) (by omega)
    rw [i.1, i.2.1]
    have := i.2.2
    simp at this ⊢
    omega
  obtain ⟨y1, y2, m1, m2⟩ := rightD_ym hr
  obtain ⟨d1, d2⟩ := rightD_iff.1 hr
  have hl0 := lastDay_le (dateY n) (dateM n)
  have hy : dateY n ≤ 9000 := by
    have := number_le hr
    rw [date_number hn] at this
    have h := this.1
    unfold ahead0 at h
    omega
  generalize dateY n = y at *
  generalize dateM n = o at *
  rw [min_if']
  have e0 : min (dateD n) 28 = min (dateD n) 28 := rfl
  generalize hd : dateD n = d at *
  have key : ∀ y' o', 1 ≤ y' → y' ≤ 9999 → 1 ≤ o' → o' ≤ 12 → (y < y' ∨ (y = y' ∧ o ≤ o')) → daysN 0 y o (min d 28) y' o' (min (min d 28) (lastDay y' o')) = 360 * (y' - y) + 30 * (o' - o) := by
    intro y' o' h1 h2 h3 h4 h5
    have l1 := lastDay_pos (y := y) (m := o) y1 (by omega) m1 m2
    have l2 := lastDay_pos (y := y') (m := o') h1 h2 h3 h4
    have hm : min (min d 28) (lastDay y' o') = min d 28 := by omega
    rw [hm]
    have r1 : rightD y o (min d 28) = true := rightD_iff.2 ⟨by omega, by omega⟩
    have r2 : rightD y' o' (min d 28) = true := rightD_iff.2 ⟨by omega, by omega⟩
    have n1 := number_le r1
    have n2 := number_le r2
    have hle : number y o (min d 28) ≤ number y' o' (min d 28) := by
      rcases h5 with h5 | ⟨rfl, h5⟩
      · have := ahead_mono (a := y + 1) (b := y') (by omega) (by omega)
        omega
      · have := before_mono' (y := y) (a := o) (b := o') h1 h2 m1 h5 (by omega)
        omega
    unfold daysN com
    rw [if_pos ⟨r1, r2, hle⟩, if_pos rfl, if_neg (by omega)]
    omega
  have l1 := lastDay_pos (y := y) (m := o) y1 (by omega) m1 m2
  have r1 : rightD y o (min d 28) = true := rightD_iff.2 ⟨by omega, by omega⟩
  have sh : ∀ q, 0 ≤ q → q ≤ 12 → shiftOk y o (min d 28) q = true := by
    intro q q0 q1
    unfold shiftOk
    rw [r1]
    simp
    omega
  have k1 : daysN 0 y o (min d 28) (shiftY y o (min d 28) 1) (shiftM y o (min d 28) 1) (shiftD y o (min d 28) 1) = 30 := by
    unfold shiftY shiftM shiftD
    rw [sh 1 (by omega) (by omega), if_pos rfl, if_pos rfl, if_pos rfl, key _ _ (by omega) (by omega) (by omega) (by omega) (by omega)]
    omega
  have k12 : daysN 0 y o (min d 28) (shiftY y o (min d 28) 12) (shiftM y o (min d 28) 12) (shiftD y o (min d 28) 12) = 360 := by
    unfold shiftY shiftM shiftD
    rw [sh 12 (by omega) (by omega), if_pos rfl, if_pos rfl, if_pos rfl, key _ _ (by omega) (by omega) (by omega) (by omega) (by omega)]
    omega
  rw [c1, hper]
  simp only [k1, k12, hi.1, hi.2]
  rcases back with h | h
  · simp [h]
  · have : k + j = 0 := by omega
    simp [show n + k + j - n = 0 by omega]

theorem toldAccrualAdds (a0 : Int) (w0 : (Lit.int .i64 a0).wf = true) (a1 : Int) (w1 : (Lit.int .i64 a1).wf = true) (a2 : Int) (w2 : (Lit.int .i64 a2).wf = true) (a3 : Int) (w3 : (Lit.int .i64 a3).wf = true) : ToldOk Try.prog 11 [.int .i64 a0, .int .i64 a1, .int .i64 a2, .int .i64 a3] (.bool true) := by
  obtain ⟨m, hm⟩ := spec11 a0 w0 a1 w1 a2 w2 a3 w3
  exact told11 m a0 a1 a2 a3 hm rfl
theorem walkAccrualAdds (a0 : Int) (w0 : (Lit.int .i64 a0).wf = true) (a1 : Int) (w1 : (Lit.int .i64 a1).wf = true) (a2 : Int) (w2 : (Lit.int .i64 a2).wf = true) (a3 : Int) (w3 : (Lit.int .i64 a3).wf = true) (w : World) : Calls Try.prog 11 #[.int .i64 a0, .int .i64 a1, .int .i64 a2, .int .i64 a3] w fun e w' => e = .returned (.bool true) ∧ RowKit.Below w.heap.size w w' := (toldAccrualAdds a0 w0 a1 w1 a2 w2 a3 w3).walk' w
end Go.Proofs.Ytibgpjahjdgepaa
