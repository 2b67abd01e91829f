/- The law 'DrawRooms' answers true, whatever whole numbers it is given. Conditions: none. -/
import Derived.Test.YtibgpjahjdgepaaDraw
namespace Go.Proofs.Ytibgpjahjdgepaa
open Go Go.Proofs.Ytibgpjahjdgepaa.Ev
set_option linter.unusedVariables false
set_option linter.unusedSimpArgs false
set_option linter.unnecessarySimpa false
/-! cascade/cascadelaw19.DrawRooms -/
def t4 (m : Nat) (a0 : Int) (a1 : Int) (a2 : Int) (a3 : Int) : Option Value :=
  lt ((within a1 0 1099511627776) : Int) fun x1 =>
  lt ((within a2 0 1099511627776) : Int) fun x2 =>
  lt ((mdV x1 (within a0 0 10000) 10000 0) : Int) fun x3 =>
  lt ((IntKind.i64.wrap ((mdV x1 (within a0 0 10000) 10000 0) - x2)) : Int) fun x7 =>
  lt ((if x7 < 0 then 0 else x7) : Int) fun x8 =>
  bif decide ((IntKind.i64.wrap (x3 * 10000)) > (IntKind.i64.wrap ((within a0 0 10000) * x1))) then
   some (.bool false)
  else
   bif decide ((IntKind.i64.wrap ((IntKind.i64.wrap (x3 + 1)) * 10000)) ≤ (IntKind.i64.wrap ((within a0 0 10000) * x1))) then
    some (.bool false)
   else
    bif decide (x8 < 0) then
     some (.bool false)
    else
     bif decide (x8 > 0) then
      bif (IntKind.i64.wrap (x2 + x8)) != x3 then
       some (.bool false)
      else
       bif x8 == 0 then
        bif decide (x2 < x3) then
         some (.bool false)
        else
         bif decide ((mdV (IntKind.i64.wrap (x1 + (within a3 0 1099511627776))) (within a0 0 10000) 10000 0) ≥ x3) then
          bif ((mdV x1 (-1) 10000 0) == 0) then
           bif (mdV (IntKind.i64.wrap ((-1) - x1)) (within a0 0 10000) 10000 0) == 0 then
            some (.bool true)
           else
            some (.bool false)
          else
           some (.bool false)
         else
          some (.bool false)
       else
        bif decide ((mdV (IntKind.i64.wrap (x1 + (within a3 0 1099511627776))) (within a0 0 10000) 10000 0) ≥ x3) then
         bif ((mdV x1 (-1) 10000 0) == 0) then
          bif (mdV (IntKind.i64.wrap ((-1) - x1)) (within a0 0 10000) 10000 0) == 0 then
           some (.bool true)
          else
           some (.bool false)
         else
          some (.bool false)
        else
         some (.bool false)
     else
      bif x8 == 0 then
       bif decide (x2 < x3) then
        some (.bool false)
       else
        bif decide ((mdV (IntKind.i64.wrap (x1 + (within a3 0 1099511627776))) (within a0 0 10000) 10000 0) ≥ x3) then
         bif ((mdV x1 (-1) 10000 0) == 0) then
          bif (mdV (IntKind.i64.wrap ((-1) - x1)) (within a0 0 10000) 10000 0) == 0 then
           some (.bool true)
          else
           some (.bool false)
         else
          some (.bool false)
        else
         some (.bool false)
      else
       bif decide ((mdV (IntKind.i64.wrap (x1 + (within a3 0 1099511627776))) (within a0 0 10000) 10000 0) ≥ x3) then
        bif ((mdV x1 (-1) 10000 0) == 0) then
         bif (mdV (IntKind.i64.wrap ((-1) - x1)) (within a0 0 10000) 10000 0) == 0 then
          some (.bool true)
         else
          some (.bool false)
        else
         some (.bool false)
       else
        some (.bool false)
def T4 : Tab := tabOf [(3, e3), (17, e17), (30, e30)]
theorem T4_right : Known.right Try.prog T4 := tab_right (all1 right3 (all1 right17 (all1 right30 all0)))
theorem G4 (m : Nat) (a0 : Int) (a1 : Int) (a2 : Int) (a3 : Int) : roadIn Try.prog T4 (fun _ => true) (fnOf Try.prog 4) [.int .i64 a0, .int .i64 a1, .int .i64 a2, .int .i64 a3] (kks (fnOf Try.prog 4).results.toList Try.prog []) = t4 m a0 a1 a2 a3 := by kernel_rfl
theorem told4 (m : Nat) (a0 : Int) (a1 : Int) (a2 : Int) (a3 : Int) {v : Value} (h : t4 m a0 a1 a2 a3 = some v) (hv : plainT v = true) : ToldOk Try.prog 4 [.int .i64 a0, .int .i64 a1, .int .i64 a2, .int .i64 a3] v :=
  told_road' (S := []) Seat.mix Seat.names T4_right (by kernel_rfl) (by kernel_rfl) (by kernel_rfl)
    all0 ((G4 m a0 a1 a2 a3).trans h) rfl hv


set_option maxHeartbeats 2000000 in
theorem spec4 (a0 : Int) (w0 : (Lit.int .i64 a0).wf = true) (a1 : Int) (w1 : (Lit.int .i64 a1).wf = true) (a2 : Int) (w2 : (Lit.int .i64 a2).wf = true) (a3 : Int) (w3 : (Lit.int .i64 a3).wf = true) : ∃ m, t4 m a0 a1 a2 a3 = some (.bool true) := by
  refine ⟨0, ?_⟩
  unfold t4
  have bp := within_le (a := a0) (lo := 0) (hi := 10000) (by omega)
  generalize within a0 0 10000 = p at *
  have bn := within_le (a := a1) (lo := 0) (hi := 1099511627776) (by omega)
  generalize within a1 0 1099511627776 = n at *
  have bh := within_le (a := a2) (lo := 0) (hi := 1099511627776) (by omega)
  generalize within a2 0 1099511627776 = h at *
  have bu := within_le (a := a3) (lo := 0) (hi := 1099511627776) (by omega)
  generalize within a3 0 1099511627776 = u at *
  have z := mul_le bn.1 bn.2 bp.1 bp.2
  have z' := mul_le bu.1 bu.2 bp.1 bp.2
  have e : (n + u) * p = n * p + u * p := Int.add_mul _ _ _
  have c : p * n = n * p := Int.mul_comm _ _
  refine lt_i fun _ h => ?_
  rw [h]
  clear h
  refine lt_i fun _ h => ?_
  rw [h]
  clear h
  rw [wr (n := n + u) (by omega) (by omega), wr (n := -1 - n) (by omega) (by omega)]
  have i1 := md_in (n := n) (b := p) (p := 10000) (h := 0) (by omega) (by omega) (by omega) (by omega) (by omega) (by omega) (by omega) (by omega) (by omega)
  have i2 := md_in (n := n + u) (b := p) (p := 10000) (h := 0) (by omega) (by omega) (by omega) (by omega) (by omega) (by omega) (by omega) (by omega) (by omega)
  have z1 : mdV n (-1) 10000 0 = 0 := (md_no (by omega)).2
  have z2 : mdV (-1 - n) p 10000 0 = 0 := (md_no (by omega)).2
  rw [z1, z2, i1.2.1, i2.2.1, mdQ0, mdQ0, c, e]
  clear i1 i2 c e z1 z2
  generalize n * p = x at *
  generalize u * p = y at *
  simp only [lt]
  rw [wr (n := x / 10000 - h) (by omega) (by omega), wr (n := x / 10000 * 10000) (by omega) (by omega), wr (n := x) (by omega) (by omega), wr (n := x / 10000 + 1) (by omega) (by omega), wr (n := (x / 10000 + 1) * 10000) (by omega) (by omega), max_if', wr (n := h + max (x / 10000 - h) 0) (by omega) (by omega)]
  have m1 : ¬ x / 10000 * 10000 > x := by omega
  have m2 : ¬ (x / 10000 + 1) * 10000 ≤ x := by omega
  have m3 : (x + y) / 10000 ≥ x / 10000 := by omega
  simp only [m1, m2, m3, decide_true, decide_false, cond_true, cond_false, BEq.rfl]
  by_cases d1 : h < x / 10000
  · have e1 : max (x / 10000 - h) 0 = x / 10000 - h := by omega
    have e2 : h + (x / 10000 - h) = x / 10000 := by omega
    rw [e1, e2]
    simp [d1, show ¬ x / 10000 - h < 0 by omega, show ¬ (x / 10000 - h) = 0 by omega, show (x / 10000 - h == 0) = false by simp; omega]
  · have e1 : max (x / 10000 - h) 0 = 0 := by omega
    rw [e1]
    simp [d1]

theorem toldDrawRooms (a0 : Int) (w0 : (Lit.int .i64 a0).wf = true) (a1 : Int) (w1 : (Lit.int .i64 a1).wf = true) (a2 : Int) (w2 : (Lit.int .i64 a2).wf = true) (a3 : Int) (w3 : (Lit.int .i64 a3).wf = true) : ToldOk Try.prog 4 [.int .i64 a0, .int .i64 a1, .int .i64 a2, .int .i64 a3] (.bool true) := by
  obtain ⟨m, hm⟩ := spec4 a0 w0 a1 w1 a2 w2 a3 w3
  exact told4 m a0 a1 a2 a3 hm rfl
theorem walkDrawRooms (a0 : Int) (w0 : (Lit.int .i64 a0).wf = true) (a1 : Int) (w1 : (Lit.int .i64 a1).wf = true) (a2 : Int) (w2 : (Lit.int .i64 a2).wf = true) (a3 : Int) (w3 : (Lit.int .i64 a3).wf = true) (w : World) : Calls Try.prog 4 #[.int .i64 a0, .int .i64 a1, .int .i64 a2, .int .i64 a3] w fun e w' => e = .returned (.bool true) ∧ RowKit.Below w.heap.size w w' := (toldDrawRooms a0 w0 a1 w1 a2 w2 a3 w3).walk' w
end Go.Proofs.Ytibgpjahjdgepaa
