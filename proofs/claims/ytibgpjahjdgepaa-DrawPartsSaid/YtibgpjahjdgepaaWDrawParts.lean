/- The law 'DrawParts' answers true, whatever whole numbers it is given. Conditions: none. -/
import Derived.Test.YtibgpjahjdgepaaDraw
namespace Go.Proofs.Ytibgpjahjdgepaa
open Go Go.Proofs.Ytibgpjahjdgepaa.Ev
set_option linter.unusedVariables false
set_option linter.unusedSimpArgs false
set_option linter.unnecessarySimpa false
/-! cascade/cascadelaw19.DrawParts -/
def t5 (m : Nat) (a0 : Int) (a1 : Int) (a2 : Int) (a3 : Int) (a4 : Int) (a5 : Int) : Option Value :=
  bif decide (-2305843009213693952 ≤ 0 ∧ 0 ≤ (within a0 0 9000) ∧ (within a0 0 9000) ≤ 2305843009213693952) then
   lt ((within a1 0 (within a0 0 9000)) : Int) fun x1 =>
   lt ((purseIn (within a2 0 5000)) : Int) fun x2 =>
   lt ((purseIn (within a2 0 5000)) : Int) fun x3 =>
   lt ((IntKind.i64.wrap ((within a2 0 5000) + (within a5 0 5000))) : Int) fun x4 =>
   lt ((if (within a0 0 9000) < 0 then 0 else (within a0 0 9000)) : Int) fun x5 =>
   lt ((IntKind.i64.wrap (x2 - 0)) : Int) fun x6 =>
   lt ((if x6 < x5 then x6 else x5) : Int) fun x7 =>
   lt ((if x7 < 0 then 0 else x7) : Int) fun x8 =>
   lt ((IntKind.i64.wrap (x5 - x8)) : Int) fun x10 =>
   lt ((IntKind.i64.wrap ((within a4 0 5000) - (within a3 0 3000))) : Int) fun x11 =>
   lt ((if x11 < x10 then x11 else x10) : Int) fun x12 =>
   lt ((if x12 < 0 then 0 else x12) : Int) fun x13 =>
   lt ((if x1 < 0 then 0 else x1) : Int) fun x14 =>
   lt ((IntKind.i64.wrap (x3 - 0)) : Int) fun x15 =>
   lt ((if x15 < x14 then x15 else x14) : Int) fun x16 =>
   lt ((if x16 < 0 then 0 else x16) : Int) fun x17 =>
   lt ((IntKind.i64.wrap (0 + x17)) : Int) fun x18 =>
   lt ((IntKind.i64.wrap (x14 - x17)) : Int) fun x19 =>
   lt ((IntKind.i64.wrap ((within a4 0 5000) - (within a3 0 3000))) : Int) fun x20 =>
   lt ((if x20 < x19 then x20 else x19) : Int) fun x21 =>
   lt ((if x21 < 0 then 0 else x21) : Int) fun x22 =>
   lt ((IntKind.i64.wrap ((within a0 0 9000) - x1)) : Int) fun x23 =>
   lt ((if x23 < 0 then 0 else x23) : Int) fun x25 =>
   lt ((IntKind.i64.wrap (x3 - x18)) : Int) fun x26 =>
   lt ((if x26 < x25 then x26 else x25) : Int) fun x27 =>
   lt ((if x27 < 0 then 0 else x27) : Int) fun x28 =>
   lt ((IntKind.i64.wrap (x25 - x28)) : Int) fun x30 =>
   lt ((IntKind.i64.wrap ((within a4 0 5000) - (IntKind.i64.wrap ((within a3 0 3000) + x22)))) : Int) fun x31 =>
   lt ((if x31 < x30 then x31 else x30) : Int) fun x32 =>
   lt ((if (within a0 0 9000) < 0 then 0 else (within a0 0 9000)) : Int) fun x34 =>
   lt ((IntKind.i64.wrap ((purseIn x4) - 0)) : Int) fun x35 =>
   lt ((if x35 < x34 then x35 else x34) : Int) fun x36 =>
   lt ((if x36 < 0 then 0 else x36) : Int) fun x37 =>
   lt ((IntKind.i64.wrap (0 + x37)) : Int) fun x38 =>
   lt ((IntKind.i64.wrap (x34 - x37)) : Int) fun x39 =>
   lt ((IntKind.i64.wrap ((within a4 0 5000) - (within a3 0 3000))) : Int) fun x40 =>
   lt ((if x40 < x39 then x40 else x39) : Int) fun x41 =>
   lt ((IntKind.i64.wrap ((purseIn x4) - x38)) : Int) fun x43 =>
   lt ((if x43 < 0 then x43 else 0) : Int) fun x44 =>
   lt ((if x44 < 0 then 0 else x44) : Int) fun x45 =>
   lt ((IntKind.i64.wrap (0 - x45)) : Int) fun x47 =>
   lt ((IntKind.i64.wrap ((within a4 0 5000) - (within a3 0 3000))) : Int) fun x48 =>
   lt ((if x48 < x47 then x48 else x47) : Int) fun x49 =>
   lt ((IntKind.i64.wrap (0 - (within a0 0 9000))) : Int) fun x51 =>
   lt ((if x51 < 0 then 0 else x51) : Int) fun x52 =>
   lt ((IntKind.i64.wrap ((purseIn x4) - (IntKind.i64.wrap (x38 + x45)))) : Int) fun x53 =>
   lt ((if x53 < x52 then x53 else x52) : Int) fun x54 =>
   lt ((if x54 < 0 then 0 else x54) : Int) fun x55 =>
   lt ((IntKind.i64.wrap (x52 - x55)) : Int) fun x57 =>
   lt ((IntKind.i64.wrap ((within a4 0 5000) - (within a3 0 3000))) : Int) fun x58 =>
   lt ((if x58 < x57 then x58 else x57) : Int) fun x59 =>
   bif x8 == (IntKind.i64.wrap (x17 + x28)) then
    bif x13 == (IntKind.i64.wrap (x22 + (if x32 < 0 then 0 else x32))) then
     bif (IntKind.i64.wrap (x2 - (IntKind.i64.wrap (0 + x8)))) == (IntKind.i64.wrap (x3 - (IntKind.i64.wrap (x18 + x28)))) then
      bif decide (x37 ≥ x8) then
       bif decide ((if x41 < 0 then 0 else x41) ≤ x13) then
        bif x45 == 0 then
         bif (if x49 < 0 then 0 else x49) == 0 then
          bif x55 == 0 then
           bif (if x59 < 0 then 0 else x59) == 0 then
            some (.bool true)
           else
            some (.bool false)
          else
           some (.bool false)
         else
          some (.bool false)
        else
         some (.bool false)
       else
        some (.bool false)
      else
       some (.bool false)
     else
      some (.bool false)
    else
     some (.bool false)
   else
    some (.bool false)
  else
   none
def T5 : Tab := tabOf [(3, e3), (12, e12), (17, e17)]
theorem T5_right : Known.right Try.prog T5 := tab_right (all1 right3 (all1 right12 (all1 right17 all0)))
theorem G5 (m : Nat) (a0 : Int) (a1 : Int) (a2 : Int) (a3 : Int) (a4 : Int) (a5 : Int) : roadIn Try.prog T5 (fun _ => true) (fnOf Try.prog 5) [.int .i64 a0, .int .i64 a1, .int .i64 a2, .int .i64 a3, .int .i64 a4, .int .i64 a5] (kks (fnOf Try.prog 5).results.toList Try.prog []) = t5 m a0 a1 a2 a3 a4 a5 := by kernel_rfl
theorem told5 (m : Nat) (a0 : Int) (a1 : Int) (a2 : Int) (a3 : Int) (a4 : Int) (a5 : Int) {v : Value} (h : t5 m a0 a1 a2 a3 a4 a5 = some v) (hv : plainT v = true) : ToldOk Try.prog 5 [.int .i64 a0, .int .i64 a1, .int .i64 a2, .int .i64 a3, .int .i64 a4, .int .i64 a5] v :=
  told_road' (S := []) Seat.mix Seat.names T5_right (by kernel_rfl) (by kernel_rfl) (by kernel_rfl)
    all0 ((G5 m a0 a1 a2 a3 a4 a5).trans h) rfl hv


set_option maxHeartbeats 2000000 in
theorem spec5 (a0 : Int) (w0 : (Lit.int .i64 a0).wf = true) (a1 : Int) (w1 : (Lit.int .i64 a1).wf = true) (a2 : Int) (w2 : (Lit.int .i64 a2).wf = true) (a3 : Int) (w3 : (Lit.int .i64 a3).wf = true) (a4 : Int) (w4 : (Lit.int .i64 a4).wf = true) (a5 : Int) (w5 : (Lit.int .i64 a5).wf = true) : ∃ m, t5 m a0 a1 a2 a3 a4 a5 = some (.bool true) := by
  refine ⟨0, ?_⟩
  unfold t5
  have bn := within_le (a := a0) (lo := 0) (hi := 9000) (by omega)
  generalize within a0 0 9000 = n at *
  have bh := within_le (a := a2) (lo := 0) (hi := 5000) (by omega)
  generalize within a2 0 5000 = h at *
  have bo := within_le (a := a3) (lo := 0) (hi := 3000) (by omega)
  generalize within a3 0 3000 = o at *
  have bm := within_le (a := a4) (lo := 0) (hi := 5000) (by omega)
  generalize within a4 0 5000 = m at *
  have bu := within_le (a := a5) (lo := 0) (hi := 5000) (by omega)
  generalize within a5 0 5000 = u at *
  have bk := within_le (a := a1) (lo := 0) (hi := n) (by omega)
  generalize within a1 0 n = k at *
  have pi1 : purseIn h = h := purse_in (by omega) (by omega)
  have pi2 : purseIn (h + u) = h + u := purse_in (by omega) (by omega)
  rw [pi1]
  clear pi1 pi2
  refine bif_t (by simp; omega) ?_
  by_cases c0 : n ≤ h
  · by_cases c1 : m < o
    · repeat' (first
          | with_reducible rfl
          | (with_reducible refine lt_i ?_; intro x hx; (try simp (disch := omega) only [wr, if_pos, if_neg, Int.sub_zero, Int.zero_add, purse_in] at hx); (try simp only [min_if', max_if'] at hx); subst hx)
          | (with_reducible refine bif_t ?_ ?_; · ((try simp (disch := omega) only [wr, if_pos, if_neg, purse_in]); (try simp only [min_if', max_if']); (try simp only [decide_eq_true_eq, decide_eq_false_iff_not, beq_iff_eq, beq_eq_false_iff_ne, bne_iff_ne, bne_eq_false_iff_eq, ne_eq, Bool.not_eq_true', Bool.not_eq_false', Decidable.not_not]) <;> omega))
          | (with_reducible refine bif_f ?_ ?_; · ((try simp (disch := omega) only [wr, if_pos, if_neg, purse_in]); (try simp only [min_if', max_if']); (try simp only [decide_eq_true_eq, decide_eq_false_iff_not, beq_iff_eq, beq_eq_false_iff_ne, bne_iff_ne, bne_eq_false_iff_eq, ne_eq, Bool.not_eq_true', Bool.not_eq_false', Decidable.not_not]) <;> omega))
          | (with_reducible refine bif_s ?_ ?_ <;> (intro hc; (try simp (disch := omega) only [wr, if_pos, if_neg, purse_in] at hc); (try simp only [min_if', max_if'] at hc); (try simp only [decide_eq_true_eq, decide_eq_false_iff_not, beq_iff_eq, beq_eq_false_iff_ne, bne_iff_ne, bne_eq_false_iff_eq, ne_eq, Bool.not_eq_true', Bool.not_eq_false', Decidable.not_not] at hc)))
          | fail "stuck")
    · repeat' (first
          | with_reducible rfl
          | (with_reducible refine lt_i ?_; intro x hx; (try simp (disch := omega) only [wr, if_pos, if_neg, Int.sub_zero, Int.zero_add, purse_in] at hx); (try simp only [min_if', max_if'] at hx); subst hx)
          | (with_reducible refine bif_t ?_ ?_; · ((try simp (disch := omega) only [wr, if_pos, if_neg, purse_in]); (try simp only [min_if', max_if']); (try simp only [decide_eq_true_eq, decide_eq_false_iff_not, beq_iff_eq, beq_eq_false_iff_ne, bne_iff_ne, bne_eq_false_iff_eq, ne_eq, Bool.not_eq_true', Bool.not_eq_false', Decidable.not_not]) <;> omega))
          | (with_reducible refine bif_f ?_ ?_; · ((try simp (disch := omega) only [wr, if_pos, if_neg, purse_in]); (try simp only [min_if', max_if']); (try simp only [decide_eq_true_eq, decide_eq_false_iff_not, beq_iff_eq, beq_eq_false_iff_ne, bne_iff_ne, bne_eq_false_iff_eq, ne_eq, Bool.not_eq_true', Bool.not_eq_false', Decidable.not_not]) <;> omega))
          | (with_reducible refine bif_s ?_ ?_ <;> (intro hc; (try simp (disch := omega) only [wr, if_pos, if_neg, purse_in] at hc); (try simp only [min_if', max_if'] at hc); (try simp only [decide_eq_true_eq, decide_eq_false_iff_not, beq_iff_eq, beq_eq_false_iff_ne, bne_iff_ne, bne_eq_false_iff_eq, ne_eq, Bool.not_eq_true', Bool.not_eq_false', Decidable.not_not] at hc)))
          | fail "stuck")
  · by_cases c1 : k ≤ h
    · by_cases c2 : m < o
      · repeat' (first
          | with_reducible rfl
          | (with_reducible refine lt_i ?_; intro x hx; (try simp (disch := omega) only [wr, if_pos, if_neg, Int.sub_zero, Int.zero_add, purse_in] at hx); (try simp only [min_if', max_if'] at hx); subst hx)
          | (with_reducible refine bif_t ?_ ?_; · ((try simp (disch := omega) only [wr, if_pos, if_neg, purse_in]); (try simp only [min_if', max_if']); (try simp only [decide_eq_true_eq, decide_eq_false_iff_not, beq_iff_eq, beq_eq_false_iff_ne, bne_iff_ne, bne_eq_false_iff_eq, ne_eq, Bool.not_eq_true', Bool.not_eq_false', Decidable.not_not]) <;> omega))
          | (with_reducible refine bif_f ?_ ?_; · ((try simp (disch := omega) only [wr, if_pos, if_neg, purse_in]); (try simp only [min_if', max_if']); (try simp only [decide_eq_true_eq, decide_eq_false_iff_not, beq_iff_eq, beq_eq_false_iff_ne, bne_iff_ne, bne_eq_false_iff_eq, ne_eq, Bool.not_eq_true', Bool.not_eq_false', Decidable.not_not]) <;> omega))
          | (with_reducible refine bif_s ?_ ?_ <;> (intro hc; (try simp (disch := omega) only [wr, if_pos, if_neg, purse_in] at hc); (try simp only [min_if', max_if'] at hc); (try simp only [decide_eq_true_eq, decide_eq_false_iff_not, beq_iff_eq, beq_eq_false_iff_ne, bne_iff_ne, bne_eq_false_iff_eq, ne_eq, Bool.not_eq_true', Bool.not_eq_false', Decidable.not_not] at hc)))
          | fail "stuck")
      · by_cases c3 : n ≤ h + u
        · repeat' (first
          | with_reducible rfl
          | (with_reducible refine lt_i ?_; intro x hx; (try simp (disch := omega) only [wr, if_pos, if_neg, Int.sub_zero, Int.zero_add, purse_in] at hx); (try simp only [min_if', max_if'] at hx); subst hx)
          | (with_reducible refine bif_t ?_ ?_; · ((try simp (disch := omega) only [wr, if_pos, if_neg, purse_in]); (try simp only [min_if', max_if']); (try simp only [decide_eq_true_eq, decide_eq_false_iff_not, beq_iff_eq, beq_eq_false_iff_ne, bne_iff_ne, bne_eq_false_iff_eq, ne_eq, Bool.not_eq_true', Bool.not_eq_false', Decidable.not_not]) <;> omega))
          | (with_reducible refine bif_f ?_ ?_; · ((try simp (disch := omega) only [wr, if_pos, if_neg, purse_in]); (try simp only [min_if', max_if']); (try simp only [decide_eq_true_eq, decide_eq_false_iff_not, beq_iff_eq, beq_eq_false_iff_ne, bne_iff_ne, bne_eq_false_iff_eq, ne_eq, Bool.not_eq_true', Bool.not_eq_false', Decidable.not_not]) <;> omega))
          | (with_reducible refine bif_s ?_ ?_ <;> (intro hc; (try simp (disch := omega) only [wr, if_pos, if_neg, purse_in] at hc); (try simp only [min_if', max_if'] at hc); (try simp only [decide_eq_true_eq, decide_eq_false_iff_not, beq_iff_eq, beq_eq_false_iff_ne, bne_iff_ne, bne_eq_false_iff_eq, ne_eq, Bool.not_eq_true', Bool.not_eq_false', Decidable.not_not] at hc)))
          | fail "stuck")
        · repeat' (first
          | with_reducible rfl
          | (with_reducible refine lt_i ?_; intro x hx; (try simp (disch := omega) only [wr, if_pos, if_neg, Int.sub_zero, Int.zero_add, purse_in] at hx); (try simp only [min_if', max_if'] at hx); subst hx)
          | (with_reducible refine bif_t ?_ ?_; · ((try simp (disch := omega) only [wr, if_pos, if_neg, purse_in]); (try simp only [min_if', max_if']); (try simp only [decide_eq_true_eq, decide_eq_false_iff_not, beq_iff_eq, beq_eq_false_iff_ne, bne_iff_ne, bne_eq_false_iff_eq, ne_eq, Bool.not_eq_true', Bool.not_eq_false', Decidable.not_not]) <;> omega))
          | (with_reducible refine bif_f ?_ ?_; · ((try simp (disch := omega) only [wr, if_pos, if_neg, purse_in]); (try simp only [min_if', max_if']); (try simp only [decide_eq_true_eq, decide_eq_false_iff_not, beq_iff_eq, beq_eq_false_iff_ne, bne_iff_ne, bne_eq_false_iff_eq, ne_eq, Bool.not_eq_true', Bool.not_eq_false', Decidable.not_not]) <;> omega))
          | (with_reducible refine bif_s ?_ ?_ <;> (intro hc; (try simp (disch := omega) only [wr, if_pos, if_neg, purse_in] at hc); (try simp only [min_if', max_if'] at hc); (try simp only [decide_eq_true_eq, decide_eq_false_iff_not, beq_iff_eq, beq_eq_false_iff_ne, bne_iff_ne, bne_eq_false_iff_eq, ne_eq, Bool.not_eq_true', Bool.not_eq_false', Decidable.not_not] at hc)))
          | fail "stuck")
    · by_cases c2 : m < o
      · repeat' (first
          | with_reducible rfl
          | (with_reducible refine lt_i ?_; intro x hx; (try simp (disch := omega) only [wr, if_pos, if_neg, Int.sub_zero, Int.zero_add, purse_in] at hx); (try simp only [min_if', max_if'] at hx); subst hx)
          | (with_reducible refine bif_t ?_ ?_; · ((try simp (disch := omega) only [wr, if_pos, if_neg, purse_in]); (try simp only [min_if', max_if']); (try simp only [decide_eq_true_eq, decide_eq_false_iff_not, beq_iff_eq, beq_eq_false_iff_ne, bne_iff_ne, bne_eq_false_iff_eq, ne_eq, Bool.not_eq_true', Bool.not_eq_false', Decidable.not_not]) <;> omega))
          | (with_reducible refine bif_f ?_ ?_; · ((try simp (disch := omega) only [wr, if_pos, if_neg, purse_in]); (try simp only [min_if', max_if']); (try simp only [decide_eq_true_eq, decide_eq_false_iff_not, beq_iff_eq, beq_eq_false_iff_ne, bne_iff_ne, bne_eq_false_iff_eq, ne_eq, Bool.not_eq_true', Bool.not_eq_false', Decidable.not_not]) <;> omega))
          | (with_reducible refine bif_s ?_ ?_ <;> (intro hc; (try simp (disch := omega) only [wr, if_pos, if_neg, purse_in] at hc); (try simp only [min_if', max_if'] at hc); (try simp only [decide_eq_true_eq, decide_eq_false_iff_not, beq_iff_eq, beq_eq_false_iff_ne, bne_iff_ne, bne_eq_false_iff_eq, ne_eq, Bool.not_eq_true', Bool.not_eq_false', Decidable.not_not] at hc)))
          | fail "stuck")
      · by_cases c3 : n ≤ h + u
        · repeat' (first
          | with_reducible rfl
          | (with_reducible refine lt_i ?_; intro x hx; (try simp (disch := omega) only [wr, if_pos, if_neg, Int.sub_zero, Int.zero_add, purse_in] at hx); (try simp only [min_if', max_if'] at hx); subst hx)
          | (with_reducible refine bif_t ?_ ?_; · ((try simp (disch := omega) only [wr, if_pos, if_neg, purse_in]); (try simp only [min_if', max_if']); (try simp only [decide_eq_true_eq, decide_eq_false_iff_not, beq_iff_eq, beq_eq_false_iff_ne, bne_iff_ne, bne_eq_false_iff_eq, ne_eq, Bool.not_eq_true', Bool.not_eq_false', Decidable.not_not]) <;> omega))
          | (with_reducible refine bif_f ?_ ?_; · ((try simp (disch := omega) only [wr, if_pos, if_neg, purse_in]); (try simp only [min_if', max_if']); (try simp only [decide_eq_true_eq, decide_eq_false_iff_not, beq_iff_eq, beq_eq_false_iff_ne, bne_iff_ne, bne_eq_false_iff_eq, ne_eq, Bool.not_eq_true', Bool.not_eq_false', Decidable.not_not]) <;> omega))
          | (with_reducible refine bif_s ?_ ?_ <;> (intro hc; (try simp (disch := omega) only [wr, if_pos, if_neg, purse_in] at hc); (try simp only [min_if', max_if'] at hc); (try simp only [decide_eq_true_eq, decide_eq_false_iff_not, beq_iff_eq, beq_eq_false_iff_ne, bne_iff_ne, bne_eq_false_iff_eq, ne_eq, Bool.not_eq_true', Bool.not_eq_false', Decidable.not_not] at hc)))
          | fail "stuck")
        · repeat' (first
          | with_reducible rfl
          | (with_reducible refine lt_i ?_; intro x hx; (try simp (disch := omega) only [wr, if_pos, if_neg, Int.sub_zero, Int.zero_add, purse_in] at hx); (try simp only [min_if', max_if'] at hx); subst hx)
          | (with_reducible refine bif_t ?_ ?_; · ((try simp (disch := omega) only [wr, if_pos, if_neg, purse_in]); (try simp only [min_if', max_if']); (try simp only [decide_eq_true_eq, decide_eq_false_iff_not, beq_iff_eq, beq_eq_false_iff_ne, bne_iff_ne, bne_eq_false_iff_eq, ne_eq, Bool.not_eq_true', Bool.not_eq_false', Decidable.not_not]) <;> omega))
          | (with_reducible refine bif_f ?_ ?_; · ((try simp (disch := omega) only [wr, if_pos, if_neg, purse_in]); (try simp only [min_if', max_if']); (try simp only [decide_eq_true_eq, decide_eq_false_iff_not, beq_iff_eq, beq_eq_false_iff_ne, bne_iff_ne, bne_eq_false_iff_eq, ne_eq, Bool.not_eq_true', Bool.not_eq_false', Decidable.not_not]) <;> omega))
          | (with_reducible refine bif_s ?_ ?_ <;> (intro hc; (try simp (disch := omega) only [wr, if_pos, if_neg, purse_in] at hc); (try simp only [min_if', max_if'] at hc); (try simp only [decide_eq_true_eq, decide_eq_false_iff_not, beq_iff_eq, beq_eq_false_iff_ne, bne_iff_ne, bne_eq_false_iff_eq, ne_eq, Bool.not_eq_true', Bool.not_eq_false', Decidable.not_not] at hc)))
          | fail "stuck")

theorem toldDrawParts (a0 : Int) (w0 : (Lit.int .i64 a0).wf = true) (a1 : Int) (w1 : (Lit.int .i64 a1).wf = true) (a2 : Int) (w2 : (Lit.int .i64 a2).wf = true) (a3 : Int) (w3 : (Lit.int .i64 a3).wf = true) (a4 : Int) (w4 : (Lit.int .i64 a4).wf = true) (a5 : Int) (w5 : (Lit.int .i64 a5).wf = true) : ToldOk Try.prog 5 [.int .i64 a0, .int .i64 a1, .int .i64 a2, .int .i64 a3, .int .i64 a4, .int .i64 a5] (.bool true) := by
  obtain ⟨m, hm⟩ := spec5 a0 w0 a1 w1 a2 w2 a3 w3 a4 w4 a5 w5
  exact told5 m a0 a1 a2 a3 a4 a5 hm rfl
theorem walkDrawParts (a0 : Int) (w0 : (Lit.int .i64 a0).wf = true) (a1 : Int) (w1 : (Lit.int .i64 a1).wf = true) (a2 : Int) (w2 : (Lit.int .i64 a2).wf = true) (a3 : Int) (w3 : (Lit.int .i64 a3).wf = true) (a4 : Int) (w4 : (Lit.int .i64 a4).wf = true) (a5 : Int) (w5 : (Lit.int .i64 a5).wf = true) (w : World) : Calls Try.prog 5 #[.int .i64 a0, .int .i64 a1, .int .i64 a2, .int .i64 a3, .int .i64 a4, .int .i64 a5] w fun e w' => e = .returned (.bool true) ∧ RowKit.Below w.heap.size w w' := (toldDrawParts a0 w0 a1 w1 a2 w2 a3 w3 a4 w4 a5 w5).walk' w
end Go.Proofs.Ytibgpjahjdgepaa
