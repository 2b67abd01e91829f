/- The law 'DrawCovers' answers true, whatever whole numbers it is given. Conditions: none. -/
import Derived.Test.YtibgpjahjdgepaaDraw
namespace Go.Proofs.Ytibgpjahjdgepaa
open Go Go.Proofs.Ytibgpjahjdgepaa.Ev
set_option linter.unusedVariables false
set_option linter.unusedSimpArgs false
set_option linter.unnecessarySimpa false
/-! cascade/cascadelaw19.DrawCovers -/
def t6 (m : Nat) (a0 : Int) (a1 : Int) (a2 : Int) (a3 : Int) : Option Value :=
  lt ((purseIn (within a1 0 5000)) : Int) fun x1 =>
  lt ((if (within a0 (-9) 12000) < 0 then 0 else (within a0 (-9) 12000)) : Int) fun x2 =>
  lt ((IntKind.i64.wrap (x1 - 0)) : Int) fun x3 =>
  lt ((if x3 < x2 then x3 else x2) : Int) fun x4 =>
  lt ((if x4 < 0 then 0 else x4) : Int) fun x5 =>
  lt ((IntKind.i64.wrap (0 + x5)) : Int) fun x6 =>
  lt ((IntKind.i64.wrap (x2 - x5)) : Int) fun x7 =>
  lt ((IntKind.i64.wrap ((within a3 0 5000) - (within a2 0 5000))) : Int) fun x8 =>
  lt ((if x8 < x7 then x8 else x7) : Int) fun x9 =>
  lt ((if x9 < 0 then 0 else x9) : Int) fun x10 =>
  lt ((if (within a0 (-9) 12000) < 0 then 0 else (within a0 (-9) 12000)) : Int) fun x11 =>
  lt ((if (within a1 0 5000) < 0 then 0 else (within a1 0 5000)) : Int) fun x12 =>
  lt ((if x12 < x11 then x12 else x11) : Int) fun x13 =>
  lt ((IntKind.i64.wrap (x11 - x13)) : Int) fun x14 =>
  lt ((IntKind.i64.wrap ((within a3 0 5000) - (within a2 0 5000))) : Int) fun x15 =>
  lt ((if x15 < 0 then 0 else x15) : Int) fun x16 =>
  bif x5 != x13 then
   some (.bool false)
  else
   bif x10 != (if x16 < x14 then x16 else x14) then
    some (.bool false)
   else
    bif (IntKind.i64.wrap (x1 - x6)) != (IntKind.i64.wrap ((within a1 0 5000) - x5)) then
     some (.bool false)
    else
     bif x6 != x5 then
      some (.bool false)
     else
      bif decide (x5 < 0) then
       some (.bool false)
      else
       bif decide (x10 < 0) then
        some (.bool false)
       else
        bif decide ((IntKind.i64.wrap (x5 + x10)) > (if (within a0 (-9) 12000) < 0 then 0 else (within a0 (-9) 12000))) then
         some (.bool false)
        else
         bif decide (x10 > 0) then
          bif decide ((IntKind.i64.wrap (x1 - x6)) > 0) then
           some (.bool false)
          else
           bif (decide ((IntKind.i64.wrap ((within a2 0 5000) + x10)) > (within a3 0 5000))) then
            some (.bool false)
           else
            bif decide ((IntKind.i64.wrap (x5 + x10)) < (if (within a0 (-9) 12000) < 0 then 0 else (within a0 (-9) 12000))) then
             bif decide ((IntKind.i64.wrap (x1 - x6)) > 0) then
              some (.bool false)
             else
              bif (decide ((IntKind.i64.wrap ((within a2 0 5000) + x10)) < (within a3 0 5000))) then
               some (.bool false)
              else
               lt ((IntKind.i64.wrap ((if (within a0 (-9) 12000) < 0 then 0 else (within a0 (-9) 12000)) - 0)) : Int) fun x31 =>
               lt ((IntKind.i64.wrap ((within a3 0 5000) - (within a2 0 5000))) : Int) fun x32 =>
               lt ((if x32 < x31 then x32 else x31) : Int) fun x33 =>
               lt ((if (within a0 (-9) 12000) < 0 then 0 else (within a0 (-9) 12000)) : Int) fun x35 =>
               lt ((IntKind.i64.wrap ((within a3 0 5000) - (within a2 0 5000))) : Int) fun x36 =>
               lt ((if x36 < 0 then 0 else x36) : Int) fun x37 =>
               bif (if x33 < 0 then 0 else x33) == (if x37 < x35 then x37 else x35) then
                some (.bool true)
               else
                some (.bool false)
            else
             lt ((IntKind.i64.wrap ((if (within a0 (-9) 12000) < 0 then 0 else (within a0 (-9) 12000)) - 0)) : Int) fun x40 =>
             lt ((IntKind.i64.wrap ((within a3 0 5000) - (within a2 0 5000))) : Int) fun x41 =>
             lt ((if x41 < x40 then x41 else x40) : Int) fun x42 =>
             lt ((if (within a0 (-9) 12000) < 0 then 0 else (within a0 (-9) 12000)) : Int) fun x44 =>
             lt ((IntKind.i64.wrap ((within a3 0 5000) - (within a2 0 5000))) : Int) fun x45 =>
             lt ((if x45 < 0 then 0 else x45) : Int) fun x46 =>
             bif (if x42 < 0 then 0 else x42) == (if x46 < x44 then x46 else x44) then
              some (.bool true)
             else
              some (.bool false)
         else
          bif decide ((IntKind.i64.wrap (x5 + x10)) < (if (within a0 (-9) 12000) < 0 then 0 else (within a0 (-9) 12000))) then
           bif decide ((IntKind.i64.wrap (x1 - x6)) > 0) then
            some (.bool false)
           else
            bif (decide ((IntKind.i64.wrap ((within a2 0 5000) + x10)) < (within a3 0 5000))) then
             some (.bool false)
            else
             lt ((IntKind.i64.wrap ((if (within a0 (-9) 12000) < 0 then 0 else (within a0 (-9) 12000)) - 0)) : Int) fun x54 =>
             lt ((IntKind.i64.wrap ((within a3 0 5000) - (within a2 0 5000))) : Int) fun x55 =>
             lt ((if x55 < x54 then x55 else x54) : Int) fun x56 =>
             lt ((if (within a0 (-9) 12000) < 0 then 0 else (within a0 (-9) 12000)) : Int) fun x58 =>
             lt ((IntKind.i64.wrap ((within a3 0 5000) - (within a2 0 5000))) : Int) fun x59 =>
             lt ((if x59 < 0 then 0 else x59) : Int) fun x60 =>
             bif (if x56 < 0 then 0 else x56) == (if x60 < x58 then x60 else x58) then
              some (.bool true)
             else
              some (.bool false)
          else
           lt ((IntKind.i64.wrap ((if (within a0 (-9) 12000) < 0 then 0 else (within a0 (-9) 12000)) - 0)) : Int) fun x63 =>
           lt ((IntKind.i64.wrap ((within a3 0 5000) - (within a2 0 5000))) : Int) fun x64 =>
           lt ((if x64 < x63 then x64 else x63) : Int) fun x65 =>
           lt ((if (within a0 (-9) 12000) < 0 then 0 else (within a0 (-9) 12000)) : Int) fun x67 =>
           lt ((IntKind.i64.wrap ((within a3 0 5000) - (within a2 0 5000))) : Int) fun x68 =>
           lt ((if x68 < 0 then 0 else x68) : Int) fun x69 =>
           bif (if x65 < 0 then 0 else x65) == (if x69 < x67 then x69 else x67) then
            some (.bool true)
           else
            some (.bool false)
def T6 : Tab := tabOf [(3, e3), (12, e12), (17, e17)]
theorem T6_right : Known.right Try.prog T6 := tab_right (all1 right3 (all1 right12 (all1 right17 all0)))
theorem G6 (m : Nat) (a0 : Int) (a1 : Int) (a2 : Int) (a3 : Int) : roadIn Try.prog T6 (fun _ => true) (fnOf Try.prog 6) [.int .i64 a0, .int .i64 a1, .int .i64 a2, .int .i64 a3] (kks (fnOf Try.prog 6).results.toList Try.prog []) = t6 m a0 a1 a2 a3 := by kernel_rfl
theorem told6 (m : Nat) (a0 : Int) (a1 : Int) (a2 : Int) (a3 : Int) {v : Value} (h : t6 m a0 a1 a2 a3 = some v) (hv : plainT v = true) : ToldOk Try.prog 6 [.int .i64 a0, .int .i64 a1, .int .i64 a2, .int .i64 a3] v :=
  told_road' (S := []) Seat.mix Seat.names T6_right (by kernel_rfl) (by kernel_rfl) (by kernel_rfl)
    all0 ((G6 m a0 a1 a2 a3).trans h) rfl hv


set_option maxHeartbeats 2000000 in
theorem spec6 (a0 : Int) (w0 : (Lit.int .i64 a0).wf = true) (a1 : Int) (w1 : (Lit.int .i64 a1).wf = true) (a2 : Int) (w2 : (Lit.int .i64 a2).wf = true) (a3 : Int) (w3 : (Lit.int .i64 a3).wf = true) : ∃ m, t6 m a0 a1 a2 a3 = some (.bool true) := by
  refine ⟨0, ?_⟩
  unfold t6
  have bn := within_le (a := a0) (lo := -9) (hi := 12000) (by omega)
  generalize within a0 (-9) 12000 = n at *
  have bh := within_le (a := a1) (lo := 0) (hi := 5000) (by omega)
  generalize within a1 0 5000 = h at *
  have bo := within_le (a := a2) (lo := 0) (hi := 5000) (by omega)
  generalize within a2 0 5000 = o at *
  have bm := within_le (a := a3) (lo := 0) (hi := 5000) (by omega)
  generalize within a3 0 5000 = m at *
  have pi1 : purseIn h = h := purse_in (by omega) (by omega)
  rw [pi1]
  clear pi1
  by_cases c0 : n < 0
  · by_cases c1 : m < o
    · repeat' (first
          | with_reducible rfl
          | (with_reducible refine lt_i ?_; intro x hx; (try simp (disch := omega) only [wr, if_pos, if_neg, Int.sub_zero, Int.zero_add] at hx); (try simp only [min_if', max_if'] at hx); subst hx)
          | (with_reducible refine bif_t ?_ ?_; · ((try simp (disch := omega) only [wr, if_pos, if_neg]); (try simp only [min_if', max_if']); (try simp only [decide_eq_true_eq, decide_eq_false_iff_not, beq_iff_eq, beq_eq_false_iff_ne, bne_iff_ne, bne_eq_false_iff_eq, ne_eq, Bool.not_eq_true', Bool.not_eq_false', Decidable.not_not]) <;> omega))
          | (with_reducible refine bif_f ?_ ?_; · ((try simp (disch := omega) only [wr, if_pos, if_neg]); (try simp only [min_if', max_if']); (try simp only [decide_eq_true_eq, decide_eq_false_iff_not, beq_iff_eq, beq_eq_false_iff_ne, bne_iff_ne, bne_eq_false_iff_eq, ne_eq, Bool.not_eq_true', Bool.not_eq_false', Decidable.not_not]) <;> omega))
          | (with_reducible refine bif_s ?_ ?_ <;> (intro hc; (try simp (disch := omega) only [wr, if_pos, if_neg] at hc); (try simp only [min_if', max_if'] at hc); (try simp only [decide_eq_true_eq, decide_eq_false_iff_not, beq_iff_eq, beq_eq_false_iff_ne, bne_iff_ne, bne_eq_false_iff_eq, ne_eq, Bool.not_eq_true', Bool.not_eq_false', Decidable.not_not] at hc)))
          | fail "stuck")
    · repeat' (first
          | with_reducible rfl
          | (with_reducible refine lt_i ?_; intro x hx; (try simp (disch := omega) only [wr, if_pos, if_neg, Int.sub_zero, Int.zero_add] at hx); (try simp only [min_if', max_if'] at hx); subst hx)
          | (with_reducible refine bif_t ?_ ?_; · ((try simp (disch := omega) only [wr, if_pos, if_neg]); (try simp only [min_if', max_if']); (try simp only [decide_eq_true_eq, decide_eq_false_iff_not, beq_iff_eq, beq_eq_false_iff_ne, bne_iff_ne, bne_eq_false_iff_eq, ne_eq, Bool.not_eq_true', Bool.not_eq_false', Decidable.not_not]) <;> omega))
          | (with_reducible refine bif_f ?_ ?_; · ((try simp (disch := omega) only [wr, if_pos, if_neg]); (try simp only [min_if', max_if']); (try simp only [decide_eq_true_eq, decide_eq_false_iff_not, beq_iff_eq, beq_eq_false_iff_ne, bne_iff_ne, bne_eq_false_iff_eq, ne_eq, Bool.not_eq_true', Bool.not_eq_false', Decidable.not_not]) <;> omega))
          | (with_reducible refine bif_s ?_ ?_ <;> (intro hc; (try simp (disch := omega) only [wr, if_pos, if_neg] at hc); (try simp only [min_if', max_if'] at hc); (try simp only [decide_eq_true_eq, decide_eq_false_iff_not, beq_iff_eq, beq_eq_false_iff_ne, bne_iff_ne, bne_eq_false_iff_eq, ne_eq, Bool.not_eq_true', Bool.not_eq_false', Decidable.not_not] at hc)))
          | fail "stuck")
  · by_cases c1 : h < n
    · by_cases c2 : m < o
      · repeat' (first
          | with_reducible rfl
          | (with_reducible refine lt_i ?_; intro x hx; (try simp (disch := omega) only [wr, if_pos, if_neg, Int.sub_zero, Int.zero_add] at hx); (try simp only [min_if', max_if'] at hx); subst hx)
          | (with_reducible refine bif_t ?_ ?_; · ((try simp (disch := omega) only [wr, if_pos, if_neg]); (try simp only [min_if', max_if']); (try simp only [decide_eq_true_eq, decide_eq_false_iff_not, beq_iff_eq, beq_eq_false_iff_ne, bne_iff_ne, bne_eq_false_iff_eq, ne_eq, Bool.not_eq_true', Bool.not_eq_false', Decidable.not_not]) <;> omega))
          | (with_reducible refine bif_f ?_ ?_; · ((try simp (disch := omega) only [wr, if_pos, if_neg]); (try simp only [min_if', max_if']); (try simp only [decide_eq_true_eq, decide_eq_false_iff_not, beq_iff_eq, beq_eq_false_iff_ne, bne_iff_ne, bne_eq_false_iff_eq, ne_eq, Bool.not_eq_true', Bool.not_eq_false', Decidable.not_not]) <;> omega))
          | (with_reducible refine bif_s ?_ ?_ <;> (intro hc; (try simp (disch := omega) only [wr, if_pos, if_neg] at hc); (try simp only [min_if', max_if'] at hc); (try simp only [decide_eq_true_eq, decide_eq_false_iff_not, beq_iff_eq, beq_eq_false_iff_ne, bne_iff_ne, bne_eq_false_iff_eq, ne_eq, Bool.not_eq_true', Bool.not_eq_false', Decidable.not_not] at hc)))
          | fail "stuck")
      · by_cases c3 : m - o < n - h
        · repeat' (first
          | with_reducible rfl
          | (with_reducible refine lt_i ?_; intro x hx; (try simp (disch := omega) only [wr, if_pos, if_neg, Int.sub_zero, Int.zero_add] at hx); (try simp only [min_if', max_if'] at hx); subst hx)
          | (with_reducible refine bif_t ?_ ?_; · ((try simp (disch := omega) only [wr, if_pos, if_neg]); (try simp only [min_if', max_if']); (try simp only [decide_eq_true_eq, decide_eq_false_iff_not, beq_iff_eq, beq_eq_false_iff_ne, bne_iff_ne, bne_eq_false_iff_eq, ne_eq, Bool.not_eq_true', Bool.not_eq_false', Decidable.not_not]) <;> omega))
          | (with_reducible refine bif_f ?_ ?_; · ((try simp (disch := omega) only [wr, if_pos, if_neg]); (try simp only [min_if', max_if']); (try simp only [decide_eq_true_eq, decide_eq_false_iff_not, beq_iff_eq, beq_eq_false_iff_ne, bne_iff_ne, bne_eq_false_iff_eq, ne_eq, Bool.not_eq_true', Bool.not_eq_false', Decidable.not_not]) <;> omega))
          | (with_reducible refine bif_s ?_ ?_ <;> (intro hc; (try simp (disch := omega) only [wr, if_pos, if_neg] at hc); (try simp only [min_if', max_if'] at hc); (try simp only [decide_eq_true_eq, decide_eq_false_iff_not, beq_iff_eq, beq_eq_false_iff_ne, bne_iff_ne, bne_eq_false_iff_eq, ne_eq, Bool.not_eq_true', Bool.not_eq_false', Decidable.not_not] at hc)))
          | fail "stuck")
        · repeat' (first
          | with_reducible rfl
          | (with_reducible refine lt_i ?_; intro x hx; (try simp (disch := omega) only [wr, if_pos, if_neg, Int.sub_zero, Int.zero_add] at hx); (try simp only [min_if', max_if'] at hx); subst hx)
          | (with_reducible refine bif_t ?_ ?_; · ((try simp (disch := omega) only [wr, if_pos, if_neg]); (try simp only [min_if', max_if']); (try simp only [decide_eq_true_eq, decide_eq_false_iff_not, beq_iff_eq, beq_eq_false_iff_ne, bne_iff_ne, bne_eq_false_iff_eq, ne_eq, Bool.not_eq_true', Bool.not_eq_false', Decidable.not_not]) <;> omega))
          | (with_reducible refine bif_f ?_ ?_; · ((try simp (disch := omega) only [wr, if_pos, if_neg]); (try simp only [min_if', max_if']); (try simp only [decide_eq_true_eq, decide_eq_false_iff_not, beq_iff_eq, beq_eq_false_iff_ne, bne_iff_ne, bne_eq_false_iff_eq, ne_eq, Bool.not_eq_true', Bool.not_eq_false', Decidable.not_not]) <;> omega))
          | (with_reducible refine bif_s ?_ ?_ <;> (intro hc; (try simp (disch := omega) only [wr, if_pos, if_neg] at hc); (try simp only [min_if', max_if'] at hc); (try simp only [decide_eq_true_eq, decide_eq_false_iff_not, beq_iff_eq, beq_eq_false_iff_ne, bne_iff_ne, bne_eq_false_iff_eq, ne_eq, Bool.not_eq_true', Bool.not_eq_false', Decidable.not_not] at hc)))
          | fail "stuck")
    · by_cases c2 : m < o
      · repeat' (first
          | with_reducible rfl
          | (with_reducible refine lt_i ?_; intro x hx; (try simp (disch := omega) only [wr, if_pos, if_neg, Int.sub_zero, Int.zero_add] at hx); (try simp only [min_if', max_if'] at hx); subst hx)
          | (with_reducible refine bif_t ?_ ?_; · ((try simp (disch := omega) only [wr, if_pos, if_neg]); (try simp only [min_if', max_if']); (try simp only [decide_eq_true_eq, decide_eq_false_iff_not, beq_iff_eq, beq_eq_false_iff_ne, bne_iff_ne, bne_eq_false_iff_eq, ne_eq, Bool.not_eq_true', Bool.not_eq_false', Decidable.not_not]) <;> omega))
          | (with_reducible refine bif_f ?_ ?_; · ((try simp (disch := omega) only [wr, if_pos, if_neg]); (try simp only [min_if', max_if']); (try simp only [decide_eq_true_eq, decide_eq_false_iff_not, beq_iff_eq, beq_eq_false_iff_ne, bne_iff_ne, bne_eq_false_iff_eq, ne_eq, Bool.not_eq_true', Bool.not_eq_false', Decidable.not_not]) <;> omega))
          | (with_reducible refine bif_s ?_ ?_ <;> (intro hc; (try simp (disch := omega) only [wr, if_pos, if_neg] at hc); (try simp only [min_if', max_if'] at hc); (try simp only [decide_eq_true_eq, decide_eq_false_iff_not, beq_iff_eq, beq_eq_false_iff_ne, bne_iff_ne, bne_eq_false_iff_eq, ne_eq, Bool.not_eq_true', Bool.not_eq_false', Decidable.not_not] at hc)))
          | fail "stuck")
      · repeat' (first
          | with_reducible rfl
          | (with_reducible refine lt_i ?_; intro x hx; (try simp (disch := omega) only [wr, if_pos, if_neg, Int.sub_zero, Int.zero_add] at hx); (try simp only [min_if', max_if'] at hx); subst hx)
          | (with_reducible refine bif_t ?_ ?_; · ((try simp (disch := omega) only [wr, if_pos, if_neg]); (try simp only [min_if', max_if']); (try simp only [decide_eq_true_eq, decide_eq_false_iff_not, beq_iff_eq, beq_eq_false_iff_ne, bne_iff_ne, bne_eq_false_iff_eq, ne_eq, Bool.not_eq_true', Bool.not_eq_false', Decidable.not_not]) <;> omega))
          | (with_reducible refine bif_f ?_ ?_; · ((try simp (disch := omega) only [wr, if_pos, if_neg]); (try simp only [min_if', max_if']); (try simp only [decide_eq_true_eq, decide_eq_false_iff_not, beq_iff_eq, beq_eq_false_iff_ne, bne_iff_ne, bne_eq_false_iff_eq, ne_eq, Bool.not_eq_true', Bool.not_eq_false', Decidable.not_not]) <;> omega))
          | (with_reducible refine bif_s ?_ ?_ <;> (intro hc; (try simp (disch := omega) only [wr, if_pos, if_neg] at hc); (try simp only [min_if', max_if'] at hc); (try simp only [decide_eq_true_eq, decide_eq_false_iff_not, beq_iff_eq, beq_eq_false_iff_ne, bne_iff_ne, bne_eq_false_iff_eq, ne_eq, Bool.not_eq_true', Bool.not_eq_false', Decidable.not_not] at hc)))
          | fail "stuck")

theorem toldDrawCovers (a0 : Int) (w0 : (Lit.int .i64 a0).wf = true) (a1 : Int) (w1 : (Lit.int .i64 a1).wf = true) (a2 : Int) (w2 : (Lit.int .i64 a2).wf = true) (a3 : Int) (w3 : (Lit.int .i64 a3).wf = true) : ToldOk Try.prog 6 [.int .i64 a0, .int .i64 a1, .int .i64 a2, .int .i64 a3] (.bool true) := by
  obtain ⟨m, hm⟩ := spec6 a0 w0 a1 w1 a2 w2 a3 w3
  exact told6 m a0 a1 a2 a3 hm rfl
theorem walkDrawCovers (a0 : Int) (w0 : (Lit.int .i64 a0).wf = true) (a1 : Int) (w1 : (Lit.int .i64 a1).wf = true) (a2 : Int) (w2 : (Lit.int .i64 a2).wf = true) (a3 : Int) (w3 : (Lit.int .i64 a3).wf = true) (w : World) : Calls Try.prog 6 #[.int .i64 a0, .int .i64 a1, .int .i64 a2, .int .i64 a3] w fun e w' => e = .returned (.bool true) ∧ RowKit.Below w.heap.size w w' := (toldDrawCovers a0 w0 a1 w1 a2 w2 a3 w3).walk' w
end Go.Proofs.Ytibgpjahjdgepaa
