/- The law 'CivilYears' answers true, whatever whole numbers it is given. Conditions: none. -/
import Derived.Test.YtlnnlkjjgenddaaCivilAid
namespace Go.Proofs.Ytlnnlkjjgenddaa
open Go Go.Proofs.Ytlnnlkjjgenddaa.Ev
set_option linter.unusedVariables false
set_option linter.unusedSimpArgs false
set_option linter.unnecessarySimpa false
/-! cascade/cascadelaw2.CivilYears -/
def L7_0s (m : Nat) (k : List Sc → Option Value) : List Sc → Option Value
  | [.i a0, .i a1, .i a2, .i a3, .i a4] =>
    bif decide (a4 ≤ 12) then
     k [.i a0, .i a1, .i a2, .i (IntKind.i64.wrap (a3 + (lastDay a2 a4))), .i (IntKind.i64.wrap (a4 + 1))]
    else
     bif (IntKind.i64.wrap ((number (IntKind.i64.wrap (a2 + 1)) 1 1) - (number a2 1 1))) != a3 then
      some (.bool false)
     else
      bif a3 != 365 then
       bif a3 != 366 then
        some (.bool false)
       else
        bif (!(((lastDay a2 2) == 29) == (a3 == 366))) then
         some (.bool false)
        else
         let x10 : Int := (IntKind.i64.wrap ((number (shiftY a2 (within a0 1 12) (within a1 1 28) 12) (shiftM a2 (within a0 1 12) (within a1 1 28) 12) (shiftD a2 (within a0 1 12) (within a1 1 28) 12)) - (number a2 (within a0 1 12) (within a1 1 28))))
         bif (lastDay a2 2) == 29 then
          bif (decide ((within a0 1 12) ≤ 2)) then
           bif x10 == 366 then
            bif (lastDay a2 0) == 0 then
             bif (lastDay a2 13) == 0 then
              bif (lastDay 0 1) == 0 then
               bif (lastDay 10000 1) == 0 then
                some (.bool true)
               else
                some (.bool false)
              else
               some (.bool false)
             else
              some (.bool false)
            else
             some (.bool false)
           else
            some (.bool false)
          else
           bif !((lastDay a2 2) == 29) then
            bif (lastDay (IntKind.i64.wrap (a2 + 1)) 2) == 29 then
             bif (decide ((within a0 1 12) > 2)) then
              bif x10 == 366 then
               bif (lastDay a2 0) == 0 then
                bif (lastDay a2 13) == 0 then
                 bif (lastDay 0 1) == 0 then
                  bif (lastDay 10000 1) == 0 then
                   some (.bool true)
                  else
                   some (.bool false)
                 else
                  some (.bool false)
                else
                 some (.bool false)
               else
                some (.bool false)
              else
               some (.bool false)
             else
              bif x10 == 365 then
               bif (lastDay a2 0) == 0 then
                bif (lastDay a2 13) == 0 then
                 bif (lastDay 0 1) == 0 then
                  bif (lastDay 10000 1) == 0 then
                   some (.bool true)
                  else
                   some (.bool false)
                 else
                  some (.bool false)
                else
                 some (.bool false)
               else
                some (.bool false)
              else
               some (.bool false)
            else
             bif x10 == 365 then
              bif (lastDay a2 0) == 0 then
               bif (lastDay a2 13) == 0 then
                bif (lastDay 0 1) == 0 then
                 bif (lastDay 10000 1) == 0 then
                  some (.bool true)
                 else
                  some (.bool false)
                else
                 some (.bool false)
               else
                some (.bool false)
              else
               some (.bool false)
             else
              some (.bool false)
           else
            bif x10 == 365 then
             bif (lastDay a2 0) == 0 then
              bif (lastDay a2 13) == 0 then
               bif (lastDay 0 1) == 0 then
                bif (lastDay 10000 1) == 0 then
                 some (.bool true)
                else
                 some (.bool false)
               else
                some (.bool false)
              else
               some (.bool false)
             else
              some (.bool false)
            else
             some (.bool false)
         else
          bif !((lastDay a2 2) == 29) then
           bif (lastDay (IntKind.i64.wrap (a2 + 1)) 2) == 29 then
            bif (decide ((within a0 1 12) > 2)) then
             bif x10 == 366 then
              bif (lastDay a2 0) == 0 then
               bif (lastDay a2 13) == 0 then
                bif (lastDay 0 1) == 0 then
                 bif (lastDay 10000 1) == 0 then
                  some (.bool true)
                 else
                  some (.bool false)
                else
                 some (.bool false)
               else
                some (.bool false)
              else
               some (.bool false)
             else
              some (.bool false)
            else
             bif x10 == 365 then
              bif (lastDay a2 0) == 0 then
               bif (lastDay a2 13) == 0 then
                bif (lastDay 0 1) == 0 then
                 bif (lastDay 10000 1) == 0 then
                  some (.bool true)
                 else
                  some (.bool false)
                else
                 some (.bool false)
               else
                some (.bool false)
              else
               some (.bool false)
             else
              some (.bool false)
           else
            bif x10 == 365 then
             bif (lastDay a2 0) == 0 then
              bif (lastDay a2 13) == 0 then
               bif (lastDay 0 1) == 0 then
                bif (lastDay 10000 1) == 0 then
                 some (.bool true)
                else
                 some (.bool false)
               else
                some (.bool false)
              else
               some (.bool false)
             else
              some (.bool false)
            else
             some (.bool false)
          else
           bif x10 == 365 then
            bif (lastDay a2 0) == 0 then
             bif (lastDay a2 13) == 0 then
              bif (lastDay 0 1) == 0 then
               bif (lastDay 10000 1) == 0 then
                some (.bool true)
               else
                some (.bool false)
              else
               some (.bool false)
             else
              some (.bool false)
            else
             some (.bool false)
           else
            some (.bool false)
      else
       bif (!(((lastDay a2 2) == 29) == (a3 == 366))) then
        some (.bool false)
       else
        let x21 : Int := (IntKind.i64.wrap ((number (shiftY a2 (within a0 1 12) (within a1 1 28) 12) (shiftM a2 (within a0 1 12) (within a1 1 28) 12) (shiftD a2 (within a0 1 12) (within a1 1 28) 12)) - (number a2 (within a0 1 12) (within a1 1 28))))
        bif (lastDay a2 2) == 29 then
         bif (decide ((within a0 1 12) ≤ 2)) then
          bif x21 == 366 then
           bif (lastDay a2 0) == 0 then
            bif (lastDay a2 13) == 0 then
             bif (lastDay 0 1) == 0 then
              bif (lastDay 10000 1) == 0 then
               some (.bool true)
              else
               some (.bool false)
             else
              some (.bool false)
            else
             some (.bool false)
           else
            some (.bool false)
          else
           some (.bool false)
         else
          bif !((lastDay a2 2) == 29) then
           bif (lastDay (IntKind.i64.wrap (a2 + 1)) 2) == 29 then
            bif (decide ((within a0 1 12) > 2)) then
             bif x21 == 366 then
              bif (lastDay a2 0) == 0 then
               bif (lastDay a2 13) == 0 then
                bif (lastDay 0 1) == 0 then
                 bif (lastDay 10000 1) == 0 then
                  some (.bool true)
                 else
                  some (.bool false)
                else
                 some (.bool false)
               else
                some (.bool false)
              else
               some (.bool false)
             else
              some (.bool false)
            else
             bif x21 == 365 then
              bif (lastDay a2 0) == 0 then
               bif (lastDay a2 13) == 0 then
                bif (lastDay 0 1) == 0 then
                 bif (lastDay 10000 1) == 0 then
                  some (.bool true)
                 else
                  some (.bool false)
                else
                 some (.bool false)
               else
                some (.bool false)
              else
               some (.bool false)
             else
              some (.bool false)
           else
            bif x21 == 365 then
             bif (lastDay a2 0) == 0 then
              bif (lastDay a2 13) == 0 then
               bif (lastDay 0 1) == 0 then
                bif (lastDay 10000 1) == 0 then
                 some (.bool true)
                else
                 some (.bool false)
               else
                some (.bool false)
              else
               some (.bool false)
             else
              some (.bool false)
            else
             some (.bool false)
          else
           bif x21 == 365 then
            bif (lastDay a2 0) == 0 then
             bif (lastDay a2 13) == 0 then
              bif (lastDay 0 1) == 0 then
               bif (lastDay 10000 1) == 0 then
                some (.bool true)
               else
                some (.bool false)
              else
               some (.bool false)
             else
              some (.bool false)
            else
             some (.bool false)
           else
            some (.bool false)
        else
         bif !((lastDay a2 2) == 29) then
          bif (lastDay (IntKind.i64.wrap (a2 + 1)) 2) == 29 then
           bif (decide ((within a0 1 12) > 2)) then
            bif x21 == 366 then
             bif (lastDay a2 0) == 0 then
              bif (lastDay a2 13) == 0 then
               bif (lastDay 0 1) == 0 then
                bif (lastDay 10000 1) == 0 then
                 some (.bool true)
                else
                 some (.bool false)
               else
                some (.bool false)
              else
               some (.bool false)
             else
              some (.bool false)
            else
             some (.bool false)
           else
            bif x21 == 365 then
             bif (lastDay a2 0) == 0 then
              bif (lastDay a2 13) == 0 then
               bif (lastDay 0 1) == 0 then
                bif (lastDay 10000 1) == 0 then
                 some (.bool true)
                else
                 some (.bool false)
               else
                some (.bool false)
              else
               some (.bool false)
             else
              some (.bool false)
            else
             some (.bool false)
          else
           bif x21 == 365 then
            bif (lastDay a2 0) == 0 then
             bif (lastDay a2 13) == 0 then
              bif (lastDay 0 1) == 0 then
               bif (lastDay 10000 1) == 0 then
                some (.bool true)
               else
                some (.bool false)
              else
               some (.bool false)
             else
              some (.bool false)
            else
             some (.bool false)
           else
            some (.bool false)
         else
          bif x21 == 365 then
           bif (lastDay a2 0) == 0 then
            bif (lastDay a2 13) == 0 then
             bif (lastDay 0 1) == 0 then
              bif (lastDay 10000 1) == 0 then
               some (.bool true)
              else
               some (.bool false)
             else
              some (.bool false)
            else
             some (.bool false)
           else
            some (.bool false)
          else
           some (.bool false)
  | _ => none
def L7_0 (m : Nat) : Nat → List Sc → Option Value := iter (L7_0s m)
theorem L7_0_succ (m : Nat) (n : Nat) : L7_0 m (n + 1) = L7_0s m (L7_0 m n) := rfl
def S7_0 (F : List Sc → Option Value) : Stop := ⟨[.lp [0, 1, 0, 1, 1, 1], .blk 0, .code [1, 1, 1, 1]], ⟨113, [(1, .int .i64), (2, .int .i64), (7, .int .i64), (8, .int .i64), (9, .int .i64)], 0, .e⟩, F⟩
def t7 (m : Nat) (a0 : Int) (a1 : Int) (a2 : Int) : Option Value :=
  L7_0 m m [.i a1, .i a2, .i (within a0 1 9998), .i 0, .i 1]
def T7 : Tab := tabOf [(3, e3), (13, e13), (14, e14), (16, e16), (24, e24)]
theorem T7_right : Known.right Try.prog T7 := tab_right (all1 right3 (all1 right13 (all1 right14 (all1 right16 (all1 right24 all0)))))
theorem G7_0 (m : Nat) (k : List Sc → Option Value) (g : Nat → Value) (a0 : Int) (a1 : Int) (a2 : Int) (a3 : Int) (a4 : Int) : roadFrom Try.prog T7 (fun _ => true) (bodyOf (fnOf Try.prog 7)) [0, 1, 0, 1, 1, 1] [.blk 0, .code [1, 1, 1, 1]] (S7_0 k).pat g [.i a0, .i a1, .i a2, .i a3, .i a4] (kks (fnOf Try.prog 7).results.toList Try.prog [S7_0 k]) = L7_0s m k [.i a0, .i a1, .i a2, .i a3, .i a4] := by kernel_rfl
theorem Y7_0 {m : Nat} {k : List Sc → Option Value} {xs : List Sc} {v : Value} (h : L7_0s m k xs = some v) : ∃ a0 a1 a2 a3 a4, xs = [.i a0, .i a1, .i a2, .i a3, .i a4] := by
  unfold L7_0s at h
  split at h
  · exact ⟨_, _, _, _, _, rfl⟩
  · cases h
theorem H7_0 (m : Nat) : ∀ n, (S7_0 (L7_0 m n)).Holds Try.prog [] (ofTab T7) (fnOf Try.prog 7).results.toList (bodyOf (fnOf Try.prog 7)) :=
  Stop.iter (mk := S7_0) (Fs := L7_0s m) (S := fun k => [S7_0 k]) (p := [0, 1, 0, 1, 1, 1]) (rest := [.blk 0, .code [1, 1, 1, 1]]) (pat := (S7_0 (fun _ => none)).pat) (stop := fun _ => true)
    (fun _ => rfl) (fun _ => rfl) (fun _ => rfl) (by kernel_rfl) (by kernel_rfl)
    (fun k h => (all1 h all0))
    (fun k g xs v h => by
      obtain ⟨a0, a1, a2, a3, a4, rfl⟩ := Y7_0 h
      exact (G7_0 m k g a0 a1 a2 a3 a4).trans h)
theorem G7 (m : Nat) (a0 : Int) (a1 : Int) (a2 : Int) : roadIn Try.prog T7 (fun _ => true) (fnOf Try.prog 7) [.int .i64 a0, .int .i64 a1, .int .i64 a2] (kks (fnOf Try.prog 7).results.toList Try.prog [S7_0 (L7_0 m m)]) = t7 m a0 a1 a2 := by kernel_rfl
theorem told7 (m : Nat) (a0 : Int) (a1 : Int) (a2 : Int) {v : Value} (h : t7 m a0 a1 a2 = some v) (hv : plainT v = true) : ToldOk Try.prog 7 [.int .i64 a0, .int .i64 a1, .int .i64 a2] v :=
  told_road' (S := [S7_0 (L7_0 m m)]) Seat.mix Seat.names T7_right (by kernel_rfl) (by kernel_rfl) (by kernel_rfl)
    (all1 (H7_0 m m) all0) ((G7 m a0 a1 a2).trans h) rfl hv


theorem spec7 (a0 : Int) (w0 : (Lit.int .i64 a0).wf = true) (a1 : Int) (w1 : (Lit.int .i64 a1).wf = true) (a2 : Int) (w2 : (Lit.int .i64 a2).wf = true) : ∃ m, t7 m a0 a1 a2 = some (.bool true) := by
  refine ⟨14, ?_⟩
  have ha := within_le (a := a0) (lo := 1) (hi := 9998) (by omega)
  have hm := within_le (a := a1) (lo := 1) (hi := 12) (by omega)
  have hd := within_le (a := a2) (lo := 1) (hi := 28) (by omega)
  unfold t7
  generalize within a0 1 9998 = a at *
  have hl := leapN_le a
  have hl' := leapN_le (a + 1)
  have hn := ahead_next (y := a) (by omega)
  have hA := ahead_le (y := a) (by omega) (by omega)
  have two : ∀ y, 1 ≤ y → y ≤ 9999 → lastDay y 2 = 28 + leapN y := by
    intro y h1 h2
    unfold lastDay leapN
    simp [show ¬ y < 1 by omega, show ¬ 9999 < y by omega]
    split <;> rfl
  have one : ∀ y, 1 ≤ y → y ≤ 9999 → number y 1 1 = ahead0 y := by
    intro y h1 h2
    rw [number_first h1 h2 (by omega) (by omega)]
    simp [before]
  have both : leapN a = 1 → leapN (a + 1) = 0 := by
    intro h
    unfold leapN at h ⊢
    split at h
    · rename_i h1
      rw [if_neg]
      intro h2
      have := (leap_iff (by omega)).1 h1
      have := (leap_iff (y := a + 1) (by omega)).1 h2
      omega
    · omega
  have last : ∀ K, L7_0s 14 K [.i a1, .i a2, .i a, .i (365 + leapN a), .i 13] = some (.bool true) := by
    intro K
    unfold L7_0s
    simp only []
    generalize within a1 1 12 = m at *
    generalize within a2 1 28 = d at *
    have hx : rightD a m d = true := rightD_iff.2 ⟨by omega, by have := lastDay_pos (y := a) (m := m) (by omega) (by omega) (by omega) (by omega); omega⟩
    have hs : shiftOk a m d 12 = true := by simp [shiftOk, hx]; omega
    have e1 : shiftY a m d 12 = a + 1 := by simp only [shiftY, hs, if_true]; omega
    have e2 : shiftM a m d 12 = m := by simp only [shiftM, hs, if_true]; omega
    have e3 : shiftD a m d 12 = d := by
      have q1 : (12 * a + m - 1 + 12) / 12 = a + 1 := by omega
      have q2 : (12 * a + m - 1 + 12) % 12 + 1 = m := by omega
      simp only [shiftD, hs, if_true]
      rw [q1, q2]
      have := lastDay_pos (y := a + 1) (m := m) (by omega) (by omega) (by omega) (by omega)
      omega
    have hx' : rightD (a + 1) m d = true := rightD_iff.2 ⟨by omega, by have := lastDay_pos (y := a + 1) (m := m) (by omega) (by omega) (by omega) (by omega); omega⟩
    have n1 := (number_le hx).2.2.2.2
    have n2 := (number_le hx').2.2.2.2
    have hb := before_le (y := a) (m := m)
    have hb' := before_le (y := a + 1) (m := m)
    have hA' := ahead_le (y := a + 1) (by omega) (by omega)
    have hdiff : number (a + 1) m d - number a m d = 365 + (if m ≤ 2 then leapN a else leapN (a + 1)) := by
      have : before (a + 1) m - before a m = if m ≤ 2 then 0 else leapN (a + 1) - leapN a := by
        rcases month_cases hm.1 hm.2 with rfl | rfl | rfl | rfl | rfl | rfl | rfl | rfl | rfl | rfl | rfl | rfl <;> simp [before] <;> omega
      split <;> rename_i h <;> simp only [h, if_true, if_false] at this <;> omega
    rw [wr (n := a + 1) (by omega) (by omega), e1, e2, e3, one a (by omega) (by omega), one (a + 1) (by omega) (by omega), two a (by omega) (by omega), two (a + 1) (by omega) (by omega), wr (n := ahead0 (a + 1) - ahead0 a) (by omega) (by omega), wr (n := number (a + 1) m d - number a m d) (by omega) (by omega), hdiff]
    have l0 : lastDay a 0 = 0 := by simp [lastDay]
    have l13 : lastDay a 13 = 0 := by simp [lastDay]
    have l1 : lastDay 0 1 = 0 := by simp [lastDay]
    have l4 : lastDay 10000 1 = 0 := by simp [lastDay]
    have ed : ahead0 (a + 1) - ahead0 a = 365 + leapN a := by omega
    rw [ed]
    simp only [l0, l13, l1, l4]
    rcases (show leapN a = 0 ∨ leapN a = 1 by omega) with h | h
    · rcases (show leapN (a + 1) = 0 ∨ leapN (a + 1) = 1 by omega) with h' | h' <;> by_cases h2 : m ≤ 2 <;> simp [h, h', h2, show (2 < m) ↔ ¬ m ≤ 2 by omega]
    · have h' := both h
      by_cases h2 : m ≤ 2 <;> simp [h, h', h2, show (2 < m) ↔ ¬ m ≤ 2 by omega]
  have key : ∀ (n : Nat) (j : Int), 1 ≤ j → j ≤ 13 → 13 - j < n → L7_0 14 n [.i a1, .i a2, .i a, .i (before a j), .i j] = some (.bool true) := by
    intro n
    induction n with
    | zero => intro j h1 h2 h3; omega
    | succ n ih =>
      intro j h1 h2 h3
      rw [L7_0_succ]
      by_cases hj : j ≤ 12
      · have hb := before_le (y := a) (m := j)
        have hll := lastDay_le a j
        unfold L7_0s
        simp only [hj, decide_true, cond_true]
        rw [wr (n := before a j + lastDay a j) (by omega) (by omega), wr (n := j + 1) (by omega) (by omega), ← before_next (by omega) (by omega) h1 hj]
        exact ih _ (by omega) (by omega) (by omega)
      · have : j = 13 := by omega
        subst this
        have : before a 13 = 365 + leapN a := by simp [before]
        rw [this]
        exact last _
  have := key 14 1 (by omega) (by omega) (by omega)
  rwa [show before a 1 = 0 by simp [before]] at this

theorem toldCivilYears (a0 : Int) (w0 : (Lit.int .i64 a0).wf = true) (a1 : Int) (w1 : (Lit.int .i64 a1).wf = true) (a2 : Int) (w2 : (Lit.int .i64 a2).wf = true) : ToldOk Try.prog 7 [.int .i64 a0, .int .i64 a1, .int .i64 a2] (.bool true) := by
  obtain ⟨m, hm⟩ := spec7 a0 w0 a1 w1 a2 w2
  exact told7 m a0 a1 a2 hm rfl
theorem walkCivilYears (a0 : Int) (w0 : (Lit.int .i64 a0).wf = true) (a1 : Int) (w1 : (Lit.int .i64 a1).wf = true) (a2 : Int) (w2 : (Lit.int .i64 a2).wf = true) (w : World) : Calls Try.prog 7 #[.int .i64 a0, .int .i64 a1, .int .i64 a2] w fun e w' => e = .returned (.bool true) ∧ RowKit.Below w.heap.size w w' := (toldCivilYears a0 w0 a1 w1 a2 w2).walk' w
end Go.Proofs.Ytlnnlkjjgenddaa
