/- The law 'CivilTells' answers true, whatever whole numbers it is given. Conditions: none. -/
import Derived.Test.YtlnnlkjjgenddaaCivil
namespace Go.Proofs.Ytlnnlkjjgenddaa
open Go Go.Proofs.Ytlnnlkjjgenddaa.Ev
set_option linter.unusedVariables false
set_option linter.unusedSimpArgs false
set_option linter.unnecessarySimpa false
/-! cascade/cascadelaw2.CivilTells -/
def t4 (m : Nat) (a0 : Int) (a1 : Int) (a2 : Int) (a3 : Int) (a4 : Int) : Option Value :=
  bif ((lastDay a0 a1) == (lastDay a0 a1)) then
   bif ((rightD a0 a1 a2) == (rightD a0 a1 a2)) then
    bif ((number a0 a1 a2) == (number a0 a1 a2)) then
     bif (((dateY a3) == (dateY a3)) && (((dateM a3) == (dateM a3)) && (((dateD a3) == (dateD a3)) && true))) then
      bif (((shiftY a0 a1 a2 a4) == (shiftY a0 a1 a2 a4)) && (((shiftM a0 a1 a2 a4) == (shiftM a0 a1 a2 a4)) && (((shiftD a0 a1 a2 a4) == (shiftD a0 a1 a2 a4)) && true))) then
       some (.bool true)
      else
       some (.bool false)
     else
      some (.bool false)
    else
     some (.bool false)
   else
    some (.bool false)
  else
   some (.bool false)
def T4 : Tab := tabOf [(3, e3), (13, e13), (14, e14), (15, e15), (16, e16), (18, e18), (19, e19), (20, e20), (21, e21), (22, e22), (23, e23)]
theorem T4_right : Known.right Try.prog T4 := tab_right (all1 right3 (all1 right13 (all1 right14 (all1 right15 (all1 right16 (all1 right18 (all1 right19 (all1 right20 (all1 right21 (all1 right22 (all1 right23 all0)))))))))))
theorem G4 (m : Nat) (a0 : Int) (a1 : Int) (a2 : Int) (a3 : Int) (a4 : Int) : roadIn Try.prog T4 (fun _ => true) (fnOf Try.prog 4) [.int .i64 a0, .int .i64 a1, .int .i64 a2, .int .i64 a3, .int .i64 a4] (kks (fnOf Try.prog 4).results.toList Try.prog []) = t4 m a0 a1 a2 a3 a4 := by kernel_rfl
theorem told4 (m : Nat) (a0 : Int) (a1 : Int) (a2 : Int) (a3 : Int) (a4 : Int) {v : Value} (h : t4 m a0 a1 a2 a3 a4 = some v) (hv : plainT v = true) : ToldOk Try.prog 4 [.int .i64 a0, .int .i64 a1, .int .i64 a2, .int .i64 a3, .int .i64 a4] v :=
  told_road' (S := []) Seat.mix Seat.names T4_right (by kernel_rfl) (by kernel_rfl) (by kernel_rfl)
    all0 ((G4 m a0 a1 a2 a3 a4).trans h) rfl hv


theorem spec4 (a0 : Int) (w0 : (Lit.int .i64 a0).wf = true) (a1 : Int) (w1 : (Lit.int .i64 a1).wf = true) (a2 : Int) (w2 : (Lit.int .i64 a2).wf = true) (a3 : Int) (w3 : (Lit.int .i64 a3).wf = true) (a4 : Int) (w4 : (Lit.int .i64 a4).wf = true) : ∃ m, t4 m a0 a1 a2 a3 a4 = some (.bool true) := by
  exact ⟨0, by simp [t4]⟩

theorem toldCivilTells (a0 : Int) (w0 : (Lit.int .i64 a0).wf = true) (a1 : Int) (w1 : (Lit.int .i64 a1).wf = true) (a2 : Int) (w2 : (Lit.int .i64 a2).wf = true) (a3 : Int) (w3 : (Lit.int .i64 a3).wf = true) (a4 : Int) (w4 : (Lit.int .i64 a4).wf = true) : ToldOk Try.prog 4 [.int .i64 a0, .int .i64 a1, .int .i64 a2, .int .i64 a3, .int .i64 a4] (.bool true) := by
  obtain ⟨m, hm⟩ := spec4 a0 w0 a1 w1 a2 w2 a3 w3 a4 w4
  exact told4 m a0 a1 a2 a3 a4 hm rfl
theorem walkCivilTells (a0 : Int) (w0 : (Lit.int .i64 a0).wf = true) (a1 : Int) (w1 : (Lit.int .i64 a1).wf = true) (a2 : Int) (w2 : (Lit.int .i64 a2).wf = true) (a3 : Int) (w3 : (Lit.int .i64 a3).wf = true) (a4 : Int) (w4 : (Lit.int .i64 a4).wf = true) (w : World) : Calls Try.prog 4 #[.int .i64 a0, .int .i64 a1, .int .i64 a2, .int .i64 a3, .int .i64 a4] w fun e w' => e = .returned (.bool true) ∧ RowKit.Below w.heap.size w w' := (toldCivilTells a0 w0 a1 w1 a2 w2 a3 w3 a4 w4).walk' w
end Go.Proofs.Ytlnnlkjjgenddaa
