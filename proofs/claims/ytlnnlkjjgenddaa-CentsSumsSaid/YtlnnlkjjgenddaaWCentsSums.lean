/- The law CentsSums answers true. Conditions: none. -/
import Derived.Test.YtlnnlkjjgenddaaCentsLists
namespace Go.Proofs.Ytlnnlkjjgenddaa
open Go Go.Proofs.Ytlnnlkjjgenddaa.Ev
set_option linter.unusedVariables false
set_option linter.unusedSimpArgs false
set_option linter.unnecessarySimpa false

/-! cascade/cascadelaw1.CentsSums -/
def N11 : Pn := ⟨[.ints .i64, .int .i64], []⟩
def X11 : Pn := ⟨[.bool], []⟩
def L11_1s (m : Nat) (k : List Un → Option (List Un)) : List Un → Option (List Un)
  | [.i a0, .i a1, .b a2, .i a3, .i a4, .l a5] =>
    bif decide (a4 < a3) then
     bif decide ((0 : Int) ≤ a4 ∧ a4 < (a5.length : Int)) then
      bif decide (a4.toNat < a5.length) then
       bif a2 then
        bif (decide ((a5.getD a4.toNat 0) < a1)) then
         some [.b false]
        else
         k [.i a0, .i a1, .b true, .i a3, .i (IntKind.i64.wrap (a4 + 1)), .l a5]
       else
        bif (decide ((a5.getD a4.toNat 0) < a1)) then
         some [.b false]
        else
         k [.i a0, .i a1, .b ((a5.getD a4.toNat 0) == a1), .i a3, .i (IntKind.i64.wrap (a4 + 1)), .l a5]
      else
       none
     else
      none
    else
     bif a2 then
      bif true && (decide (0 ≤ a0) && decide (a0.toNat ≤ a5.length ∧ a5.length ≤ a5.length)) then
       bif decide ((0 + (List.take (a5.length - a0.toNat) (List.drop a0.toNat a5)).length) < 1099511627776 ∧ (0 + (List.take (a5.length - a0.toNat) (List.drop a0.toNat a5)).length) * 8 < 35184372088832) then
        bif decide ((List.take (a5.length - a0.toNat) (List.drop a0.toNat a5)).length = 0) then
         bif decide (0 ≤ a0) && (true && decide (0 ≤ a0.toNat ∧ a0.toNat ≤ a5.length)) then
          bif decide ((0 + (List.take a0.toNat a5).length) < 1099511627776 ∧ (0 + (List.take a0.toNat a5).length) * 8 < 35184372088832) then
           bif decide ((List.take a0.toNat a5).length = 0) then
            bif decide (([] : List Int).length < 1099511627776) then
             bif (leastV ([] : List Int)) == a1 then
              bif decide (([] : List Int).length < 1099511627776) then
               bif ((leastV ([] : List Int)) == 1152921504606846976) then
                some [.b true]
               else
                some [.b false]
              else
               none
             else
              some [.b false]
            else
             none
           else
            bif decide ((List.take a0.toNat a5).length < 1099511627776) then
             bif (leastV (List.take a0.toNat a5)) == a1 then
              bif decide (([] : List Int).length < 1099511627776) then
               bif ((leastV ([] : List Int)) == 1152921504606846976) then
                some [.b true]
               else
                some [.b false]
              else
               none
             else
              some [.b false]
            else
             none
          else
           none
         else
          none
        else
         lt ((List.take (a5.length - a0.toNat) (List.drop a0.toNat a5)) : List Int) fun l27 =>
         bif decide (0 ≤ a0) && (true && decide (0 ≤ a0.toNat ∧ a0.toNat ≤ a5.length)) then
          bif decide ((l27.length + (List.take a0.toNat a5).length) < 1099511627776 ∧ (l27.length + (List.take a0.toNat a5).length) * 8 < 35184372088832) then
           lt ((l27 ++ (List.take a0.toNat a5)) : List Int) fun l28 =>
           bif decide (l28.length < 1099511627776) then
            bif (leastV l28) == a1 then
             bif decide (([] : List Int).length < 1099511627776) then
              bif ((leastV ([] : List Int)) == 1152921504606846976) then
               some [.b true]
              else
               some [.b false]
             else
              none
            else
             some [.b false]
           else
            none
          else
           none
         else
          none
       else
        none
      else
       none
     else
      some [.b false]
  | _ => none
def L11_1 (m : Nat) : Nat → List Un → Option (List Un) := iterS (L11_1s m)
theorem L11_1_succ (m : Nat) (n : Nat) : L11_1 m (n + 1) = L11_1s m (L11_1 m n) := rfl
def P11_1 : Pn := ⟨[.any, .any, .any, .any, .any, .buf 0 1, .any, .int .i64, .any, .any, .any, .any, .any, .any, .any, .any, .int .i64, .bool, .any, .any, .any, .any, .any, .any, .any, .any, .any, .any, .any, .any, .any, .any, .any, .any, .any, .any, .any, .any, .any, .any, .any, .any, .any, .any, .any, .any, .any, .any, .any, .any, .any, .any, .any, .any, .any, .any, .any, .any, .any, .any, .any, .any, .any, .any, .any, .any, .any, .any, .any, .any, .any, .any, .any, .any, .any, .any, .any, .any, .any, .any, .any, .any, .any, .any, .any, .any, .any, .any, .any, .any, .any, .any, .buf 0 1, .int .i64, .int .i64, .any, .any, .any, .any, .any, .any, .any, .any, .any, .any, .any, .any, .any, .any, .any, .any, .any, .any, .any, .any, .any, .any, .any, .any, .any, .any, .any, .any, .any, .any, .any, .any, .any, .any, .any], [.ints .i64]⟩
def S11_1 (F : List Un → Option (List Un)) : StopS := ⟨[.lp [0, 1, 0, 1, 1, 1, 1, 1, 1, 1, 1, 1, 1, 1], .blk 2, .code [1, 1, 1, 1, 1, 1, 1, 1, 1, 1, 1, 1]], P11_1, F⟩
def L11_0s (m : Nat) (k : List Un → Option (List Un)) : List Un → Option (List Un)
  | [.l a0, .i a1, .i a2, .l a3] =>
    bif (decide (a2 < (a0.length : Int))) then
     bif decide (a2 < 30) then
      bif decide ((0 : Int) ≤ a2 ∧ a2 < (a0.length : Int)) then
       bif decide (a2.toNat < a0.length) then
        bif decide ((a3.length + 1) < 1099511627776 ∧ (a3.length + 1) * 8 < 35184372088832) then
         k [.l a0, .i a1, .i (IntKind.i64.wrap (a2 + 1)), .l (a3 ++ ([(within (a0.getD a2.toNat 0) 0 1125899906842624)]))]
        else
         none
       else
        none
      else
       none
     else
      bif decide (-2305843009213693952 ≤ 0 ∧ 0 ≤ (a3.length : Int) ∧ (a3.length : Int) ≤ 2305843009213693952) then
       lt ((within a1 0 (a3.length : Int)) : Int) fun x4 =>
       bif decide (a3.length < 1099511627776) then
        bif decide (0 ≤ x4) && (true && decide (0 ≤ x4.toNat ∧ x4.toNat ≤ a3.length)) then
         bif decide ((List.take x4.toNat a3).length < 1099511627776) then
          lt ((sumV (List.take x4.toNat a3)) : Int) fun x5 =>
          bif true && (decide (0 ≤ x4) && decide (x4.toNat ≤ a3.length ∧ a3.length ≤ a3.length)) then
           bif decide ((List.take (a3.length - x4.toNat) (List.drop x4.toNat a3)).length < 1099511627776) then
            lt ((sumV (List.take (a3.length - x4.toNat) (List.drop x4.toNat a3))) : Int) fun x7 =>
            bif decide (([x7, x5]).length < 1099511627776) then
             bif !(sumOk a3) then
              some [.b false]
             else
              bif !(sumOk (List.take x4.toNat a3)) then
               some [.b false]
              else
               bif !(sumOk (List.take (a3.length - x4.toNat) (List.drop x4.toNat a3))) then
                some [.b false]
               else
                bif !(sumOk ([x7, x5])) then
                 some [.b false]
                else
                 bif ((sumV a3) != (sumV ([x7, x5]))) then
                  some [.b false]
                 else
                  bif decide (a3.length < 1099511627776) then
                   L11_1 m m [.i x4, .i (leastV a3), .b ((a3.length : Int) == 0), .i (a3.length : Int), .i 0, .l a3]
                  else
                   none
            else
             none
           else
            none
          else
           none
         else
          none
        else
         none
       else
        none
      else
       none
    else
     bif decide (-2305843009213693952 ≤ 0 ∧ 0 ≤ (a3.length : Int) ∧ (a3.length : Int) ≤ 2305843009213693952) then
      lt ((within a1 0 (a3.length : Int)) : Int) fun x10 =>
      bif decide (a3.length < 1099511627776) then
       bif decide (0 ≤ x10) && (true && decide (0 ≤ x10.toNat ∧ x10.toNat ≤ a3.length)) then
        bif decide ((List.take x10.toNat a3).length < 1099511627776) then
         lt ((sumV (List.take x10.toNat a3)) : Int) fun x11 =>
         bif true && (decide (0 ≤ x10) && decide (x10.toNat ≤ a3.length ∧ a3.length ≤ a3.length)) then
          bif decide ((List.take (a3.length - x10.toNat) (List.drop x10.toNat a3)).length < 1099511627776) then
           lt ((sumV (List.take (a3.length - x10.toNat) (List.drop x10.toNat a3))) : Int) fun x13 =>
           bif decide (([x13, x11]).length < 1099511627776) then
            bif !(sumOk a3) then
             some [.b false]
            else
             bif !(sumOk (List.take x10.toNat a3)) then
              some [.b false]
             else
              bif !(sumOk (List.take (a3.length - x10.toNat) (List.drop x10.toNat a3))) then
               some [.b false]
              else
               bif !(sumOk ([x13, x11])) then
                some [.b false]
               else
                bif ((sumV a3) != (sumV ([x13, x11]))) then
                 some [.b false]
                else
                 bif decide (a3.length < 1099511627776) then
                  L11_1 m m [.i x10, .i (leastV a3), .b ((a3.length : Int) == 0), .i (a3.length : Int), .i 0, .l a3]
                 else
                  none
           else
            none
          else
           none
         else
          none
        else
         none
       else
        none
      else
       none
     else
      none
  | _ => none
def L11_0 (m : Nat) : Nat → List Un → Option (List Un) := iterS (L11_0s m)
theorem L11_0_succ (m : Nat) (n : Nat) : L11_0 m (n + 1) = L11_0s m (L11_0 m n) := rfl
def P11_0 : Pn := ⟨[.ints .i64, .int .i64, .any, .any, .any, .buf 0 1, .int .i64, .any, .any, .any, .any, .any, .any, .any, .any, .any, .any, .any, .any, .any, .any, .any, .any, .any, .any, .any, .any, .any, .any, .any, .any, .any, .any, .any, .any, .any, .any, .any, .any, .any, .any, .any, .any, .any, .any, .any, .any, .any, .any, .any, .any, .any, .any, .any, .any, .any, .any, .any, .any, .any, .any, .any, .any, .any, .any, .any, .any, .any, .any, .any, .any, .any, .any, .any, .any, .any, .any, .any, .any, .any, .any, .any, .any, .any, .any, .any, .any, .any, .any, .any, .any, .any, .any, .any, .any, .any, .any, .any, .any, .any, .any, .any, .any, .any, .any, .any, .any, .any, .any, .any, .any, .any, .any, .any, .any, .any, .any, .any, .any, .any, .any, .any, .any, .any, .any, .any, .any, .any, .any, .any], [.ints .i64]⟩
def S11_0 (F : List Un → Option (List Un)) : StopS := ⟨[.lp [0, 1, 0, 1, 1], .blk 0, .code [1, 1, 1]], P11_0, F⟩
def t11 (m : Nat) (a0 : List Int) (a1 : Int) : Option (List Un) :=
  L11_0 m m [.l a0, .i a1, .i 0, .l []]
def T11 : TabS := tabS TE [(26, e26), (27, e27)]
theorem T11_right : TabRight Try.prog [] (ofTab TE) T11 := tabS_right (all1 right26 (all1 right27 all0))
theorem G11_1 (m : Nat) (k : List Un → Option (List Un)) (a0 : Int) (a1 : Int) (a2 : Bool) (a3 : Int) (a4 : Int) (a5 : List Int) : roadFromS Try.prog [] T11 KN (bodyOf (fnOf Try.prog 11)) [0, 1, 0, 1, 1, 1, 1, 1, 1, 1, 1, 1, 1, 1] [.blk 2, .code [1, 1, 1, 1, 1, 1, 1, 1, 1, 1, 1, 1]] P11_1 [.i a0, .i a1, .b a2, .i a3, .i a4, .l a5] (kksS Try.prog (fnOf Try.prog 11).results.toList X11 0 [S11_1 k]) = L11_1s m k [.i a0, .i a1, .b a2, .i a3, .i a4, .l a5] := by kernel_rfl
theorem Y11_1 {m : Nat} {k : List Un → Option (List Un)} {xs : List Un} {v : List Un} (h : L11_1s m k xs = some v) : ∃ a0 a1 a2 a3 a4 a5, xs = [.i a0, .i a1, .b a2, .i a3, .i a4, .l a5] := by
  unfold L11_1s at h
  split at h
  · exact ⟨_, _, _, _, _, _, rfl⟩
  · cases h
theorem H11_1 (m : Nat) : ∀ n, HoldsS Try.prog [] (ofTab TE) (fnOf Try.prog 11).results.toList X11 0 (bodyOf (fnOf Try.prog 11)) (S11_1 (L11_1 m n)) :=
  StopS.iter KN_none T11_right (mk := S11_1) (Fs := L11_1s m) (W := fun k => [S11_1 k]) (p := [0, 1, 0, 1, 1, 1, 1, 1, 1, 1, 1, 1, 1, 1]) (rest := [.blk 2, .code [1, 1, 1, 1, 1, 1, 1, 1, 1, 1, 1, 1]]) (pat := P11_1)
    (fun _ => rfl) (fun _ => rfl) (fun _ => rfl) (by kernel_rfl) (by kernel_rfl)
    (fun k h => (all1 h all0))
    (fun k xs v h => by
      obtain ⟨a0, a1, a2, a3, a4, a5, rfl⟩ := Y11_1 h
      exact (G11_1 m k a0 a1 a2 a3 a4 a5).trans h)
theorem G11_0 (m : Nat) (k : List Un → Option (List Un)) (a0 : List Int) (a1 : Int) (a2 : Int) (a3 : List Int) : roadFromS Try.prog [] T11 KN (bodyOf (fnOf Try.prog 11)) [0, 1, 0, 1, 1] [.blk 0, .code [1, 1, 1]] P11_0 [.l a0, .i a1, .i a2, .l a3] (kksS Try.prog (fnOf Try.prog 11).results.toList X11 0 [S11_0 k, S11_1 (L11_1 m m)]) = L11_0s m k [.l a0, .i a1, .i a2, .l a3] := by kernel_rfl
theorem Y11_0 {m : Nat} {k : List Un → Option (List Un)} {xs : List Un} {v : List Un} (h : L11_0s m k xs = some v) : ∃ a0 a1 a2 a3, xs = [.l a0, .i a1, .i a2, .l a3] := by
  unfold L11_0s at h
  split at h
  · exact ⟨_, _, _, _, rfl⟩
  · cases h
theorem H11_0 (m : Nat) : ∀ n, HoldsS Try.prog [] (ofTab TE) (fnOf Try.prog 11).results.toList X11 0 (bodyOf (fnOf Try.prog 11)) (S11_0 (L11_0 m n)) :=
  StopS.iter KN_none T11_right (mk := S11_0) (Fs := L11_0s m) (W := fun k => [S11_0 k, S11_1 (L11_1 m m)]) (p := [0, 1, 0, 1, 1]) (rest := [.blk 0, .code [1, 1, 1]]) (pat := P11_0)
    (fun _ => rfl) (fun _ => rfl) (fun _ => rfl) (by kernel_rfl) (by kernel_rfl)
    (fun k h => (all1 h (all1 (H11_1 m m) all0)))
    (fun k xs v h => by
      obtain ⟨a0, a1, a2, a3, rfl⟩ := Y11_0 h
      exact (G11_0 m k a0 a1 a2 a3).trans h)
theorem G11 (m : Nat) (a0 : List Int) (a1 : Int) : roadInS Try.prog [] T11 KN (fnOf Try.prog 11) N11 [.l a0, .i a1] (kksS Try.prog (fnOf Try.prog 11).results.toList X11 0 [S11_0 (L11_0 m m)]) = t11 m a0 a1 := by kernel_rfl
theorem tells11 (m : Nat) (a0 : List Int) (a1 : Int) {ys : List Un} (h : t11 m a0 a1 = some ys) : TellsS Try.prog [] (ofTab TE) 11 N11 X11 [.l a0, .i a1] ys :=
  tells_road KN_none T11_right (W := [S11_0 (L11_0 m m)]) (by kernel_rfl) (by kernel_rfl) (by kernel_rfl)
    (all1 (H11_0 m m) all0) ((G11 m a0 a1).trans h)

def inB (own pre : List Int) : Bool := decide (own = []) || decide (leastV own ∈ pre)
theorem leastP (own : List Int) (k : Nat) : leastV (List.take (own.length - k) (List.drop k own) ++ List.take k own) = leastV own := by
  rw [List.take_of_length_le (by simp)]
  refine leastV_same fun x => ?_
  conv => rhs; rw [← List.take_append_drop k own]
  simp only [List.mem_append]
  exact or_comm
theorem sumsL1 (m : Nat) (k : Int) (own : List Int) (h30 : own.length ≤ 30) (hk : 0 ≤ k ∧ k ≤ own.length) : ∀ (rest pre : List Int) (n : Nat), rest.length < n → own = pre ++ rest →
    L11_1 m n [.i k, .i (leastV own), .b (inB own pre), .i (own.length : Int), .i (pre.length : Int), .l own] = some [.b true] := by
  intro rest
  induction rest with
  | nil =>
    intro pre n hn he
    obtain ⟨n, rfl⟩ := one_more n (by simp at hn; omega)
    rw [L11_1_succ]; unfold L11_1s; dsimp only
    rw [List.append_nil] at he
    have hin : inB own pre = true := by
      unfold inB
      subst he
      by_cases h : own = []
      · simp [h]
      · simp [leastV_mem h]
    have hl : pre.length = own.length := by rw [he]
    rw [hin, hl]
    have hp := leastP own k.toNat
    repeat' (first
      | with_reducible rfl
      | (with_reducible refine lt_i ?_; intro x hx; (try simp (disch := omega) only [wr, if_pos, if_neg, Int.sub_zero, Int.zero_add, hp, leastV_nil, Bool.not_true, Nat.zero_add, List.length_append, List.length_cons, List.length_nil, List.length_replicate, List.length_take, List.length_drop, Int.natCast_add, Int.toNat_natCast] at hx); (try simp only [min_if', max_if'] at hx); subst hx)
      | (with_reducible refine bif_t ?_ ?_; · ((try simp (disch := omega) only [wr, if_pos, if_neg, hp, leastV_nil, Bool.not_true, Nat.zero_add, List.length_append, List.length_cons, List.length_nil, List.length_replicate, List.length_take, List.length_drop, Int.natCast_add, Int.toNat_natCast]); (first | done | ((try simp only [min_if', max_if']); (first | done | ((try simp only [Bool.true_and, Bool.and_true, Bool.and_eq_true, Bool.and_eq_false_iff, Bool.or_eq_true, Bool.or_eq_false_iff, true_and, and_true, decide_eq_true_eq, decide_eq_false_iff_not, beq_iff_eq, beq_eq_false_iff_ne, bne_iff_ne, bne_eq_false_iff_eq, ne_eq, Bool.not_eq_true', Bool.not_eq_false', Decidable.not_not]) <;> omega))))))
      | (with_reducible refine bif_f ?_ ?_; · ((try simp (disch := omega) only [wr, if_pos, if_neg, hp, leastV_nil, Bool.not_true, Nat.zero_add, List.length_append, List.length_cons, List.length_nil, List.length_replicate, List.length_take, List.length_drop, Int.natCast_add, Int.toNat_natCast]); (first | done | ((try simp only [min_if', max_if']); (first | done | ((try simp only [Bool.true_and, Bool.and_true, Bool.and_eq_true, Bool.and_eq_false_iff, Bool.or_eq_true, Bool.or_eq_false_iff, true_and, and_true, decide_eq_true_eq, decide_eq_false_iff_not, beq_iff_eq, beq_eq_false_iff_ne, bne_iff_ne, bne_eq_false_iff_eq, ne_eq, Bool.not_eq_true', Bool.not_eq_false', Decidable.not_not]) <;> omega))))))
      | (with_reducible refine bif_s ?_ ?_ <;> (intro hc; (try simp (disch := omega) only [wr, if_pos, if_neg, hp, leastV_nil, Bool.not_true, Nat.zero_add, List.length_append, List.length_cons, List.length_nil, List.length_replicate, List.length_take, List.length_drop, Int.natCast_add, Int.toNat_natCast] at hc); (try simp only [min_if', max_if'] at hc); (try simp only [Bool.true_and, Bool.and_true, Bool.and_eq_true, Bool.and_eq_false_iff, Bool.or_eq_true, Bool.or_eq_false_iff, true_and, and_true, decide_eq_true_eq, decide_eq_false_iff_not, beq_iff_eq, beq_eq_false_iff_ne, bne_iff_ne, bne_eq_false_iff_eq, ne_eq, Bool.not_eq_true', Bool.not_eq_false', Decidable.not_not] at hc)))
      | fail "stuck")
    · exfalso
      have : own = [] := List.eq_nil_of_length_eq_zero (by omega)
      rw [this] at hc
      exact hc rfl
    · exfalso
      exact hc (by rw [List.take_of_length_le (by omega)])
  | cons x rest ih =>
    intro pre n hn he
    obtain ⟨n, rfl⟩ := one_more n (by simp at hn; omega)
    have hx : leastV own ≤ x := leastV_le (by rw [he]; simp)
    have hl : own.length = pre.length + (rest.length + 1) := by rw [he]; simp
    have hg : own.getD pre.length 0 = x := by rw [he]; simp
    have := ih (pre ++ [x]) n (by simp at hn; omega) (by rw [he]; simp)
    rw [L11_1_succ]; unfold L11_1s; dsimp only
    rw [Int.toNat_natCast, hg]
    simp only [List.length_append, List.length_cons, List.length_nil, Int.natCast_add] at this
    repeat' (first
      | with_reducible rfl
      | (with_reducible refine lt_i ?_; intro x hx; (try simp (disch := omega) only [wr, if_pos, if_neg, Int.sub_zero, Int.zero_add, List.length_append, List.length_cons, List.length_nil, List.length_replicate, List.length_take, List.length_drop, Int.natCast_add, Int.toNat_natCast] at hx); (try simp only [min_if', max_if'] at hx); subst hx)
      | (with_reducible refine bif_t ?_ ?_; · ((try simp (disch := omega) only [wr, if_pos, if_neg, List.length_append, List.length_cons, List.length_nil, List.length_replicate, List.length_take, List.length_drop, Int.natCast_add, Int.toNat_natCast]); (first | done | ((try simp only [min_if', max_if']); (first | done | ((try simp only [Bool.true_and, Bool.and_true, Bool.and_eq_true, Bool.and_eq_false_iff, Bool.or_eq_true, Bool.or_eq_false_iff, true_and, and_true, decide_eq_true_eq, decide_eq_false_iff_not, beq_iff_eq, beq_eq_false_iff_ne, bne_iff_ne, bne_eq_false_iff_eq, ne_eq, Bool.not_eq_true', Bool.not_eq_false', Decidable.not_not]) <;> omega))))))
      | (with_reducible refine bif_f ?_ ?_; · ((try simp (disch := omega) only [wr, if_pos, if_neg, List.length_append, List.length_cons, List.length_nil, List.length_replicate, List.length_take, List.length_drop, Int.natCast_add, Int.toNat_natCast]); (first | done | ((try simp only [min_if', max_if']); (first | done | ((try simp only [Bool.true_and, Bool.and_true, Bool.and_eq_true, Bool.and_eq_false_iff, Bool.or_eq_true, Bool.or_eq_false_iff, true_and, and_true, decide_eq_true_eq, decide_eq_false_iff_not, beq_iff_eq, beq_eq_false_iff_ne, bne_iff_ne, bne_eq_false_iff_eq, ne_eq, Bool.not_eq_true', Bool.not_eq_false', Decidable.not_not]) <;> omega))))))
      | (with_reducible refine bif_s ?_ ?_ <;> (intro hc; (try simp (disch := omega) only [wr, if_pos, if_neg, List.length_append, List.length_cons, List.length_nil, List.length_replicate, List.length_take, List.length_drop, Int.natCast_add, Int.toNat_natCast] at hc); (try simp only [min_if', max_if'] at hc); (try simp only [Bool.true_and, Bool.and_true, Bool.and_eq_true, Bool.and_eq_false_iff, Bool.or_eq_true, Bool.or_eq_false_iff, true_and, and_true, decide_eq_true_eq, decide_eq_false_iff_not, beq_iff_eq, beq_eq_false_iff_ne, bne_iff_ne, bne_eq_false_iff_eq, ne_eq, Bool.not_eq_true', Bool.not_eq_false', Decidable.not_not] at hc)))
      | fail "stuck")
    · rw [show inB own (pre ++ [x]) = true by
        unfold inB at hc ⊢
        simp only [Bool.or_eq_true, decide_eq_true_eq, List.mem_append] at hc ⊢
        rcases hc with h | h
        · exact .inl h
        · exact .inr (.inl h)] at this
      simp (disch := omega) only [wr]
      exact this
    · rw [show inB own (pre ++ [x]) = (x == leastV own) by
        unfold inB at hc ⊢
        simp only [Bool.or_eq_false_iff, decide_eq_false_iff_not] at hc
        by_cases h : x = leastV own
        · simp [h]
        · simp [hc.1, hc.2, h, Ne.symm h]] at this
      simp (disch := omega) only [wr]
      exact this
theorem sumsL0 (m : Nat) (l : List Int) (cut : Int) : ∀ (r i : Nat) (own : List Int) (n : Nat), r < n → i + r = min 30 l.length → own.length = i → (∀ x ∈ own, 0 ≤ x ∧ x ≤ 1125899906842624) →
    L11_0 32 n [.l l, .i cut, .i (i : Int), .l own] = some [.b true] := by
  intro r
  induction r with
  | zero =>
    intro i own n hn hr hi hb
    obtain ⟨n, rfl⟩ := one_more n (by omega)
    rw [L11_0_succ]; unfold L11_0s; dsimp only
    have hw := within_le (a := cut) (lo := 0) (hi := (own.length : Int)) (by omega)
    generalize within cut 0 (own.length : Int) = k at *
    have hA : List.take (own.length - k.toNat) (List.drop k.toNat own) = List.drop k.toNat own := List.take_of_length_le (by simp)
    have b1 : ∀ x ∈ List.take k.toNat own, 0 ≤ x ∧ x ≤ 1125899906842624 := fun x hx => hb x (List.mem_of_mem_take hx)
    have b2 : ∀ x ∈ List.drop k.toNat own, 0 ≤ x ∧ x ≤ 1125899906842624 := fun x hx => hb x (List.mem_of_mem_drop hx)
    have l1 : (List.take k.toNat own).length ≤ own.length := by simp; omega
    have l2 : (List.drop k.toNat own).length ≤ own.length := by simp
    obtain ⟨s1, o1⟩ := sumV_ok (l := own) (b := 1125899906842624) (by omega) hb (by omega)
    obtain ⟨s2, o2⟩ := sumV_ok (b := 1125899906842624) (by omega) b1 (by omega)
    obtain ⟨s3, o3⟩ := sumV_ok (b := 1125899906842624) (by omega) b2 (by omega)
    have t2 := sum_bound _ 1125899906842624 (by omega) b1
    have t3 := sum_bound _ 1125899906842624 (by omega) b2
    obtain ⟨s4, o4⟩ := sumV_ok (l := [sumV (List.drop k.toNat own), sumV (List.take k.toNat own)]) (b := 36028797018963968) (by omega) (by
      intro x hx
      simp only [List.mem_cons, List.not_mem_nil, or_false] at hx
      rcases hx with rfl | rfl <;> omega) (by simp)
    have s5 : sumV own = sumV [sumV (List.drop k.toNat own), sumV (List.take k.toNat own)] := by
      rw [s4, s1, s2, s3]
      conv => lhs; rw [← List.take_append_drop k.toNat own, List.sum_append]
      simp
      omega
    have e0 : ((own.length : Int) == 0) = inB own [] := by unfold inB; cases own <;> simp <;> omega
    rw [e0]
    have fin := sumsL1 32 k own (by omega) hw own [] 32 (by omega) rfl
    simp only [List.length_nil] at fin
    repeat' (first
      | with_reducible rfl
      | (with_reducible refine lt_i ?_; intro x hx; (try simp (disch := omega) only [wr, if_pos, if_neg, Int.sub_zero, Int.zero_add, hA, o1, o2, o3, o4, s5, Bool.not_true, List.length_append, List.length_cons, List.length_nil, List.length_replicate, List.length_take, List.length_drop, Int.natCast_add, Int.toNat_natCast] at hx); (try simp only [min_if', max_if'] at hx); subst hx)
      | (with_reducible refine bif_t ?_ ?_; · ((try simp (disch := omega) only [wr, if_pos, if_neg, hA, o1, o2, o3, o4, s5, Bool.not_true, List.length_append, List.length_cons, List.length_nil, List.length_replicate, List.length_take, List.length_drop, Int.natCast_add, Int.toNat_natCast]); (first | done | ((try simp only [min_if', max_if']); (first | done | ((try simp only [Bool.true_and, Bool.and_true, Bool.and_eq_true, Bool.and_eq_false_iff, Bool.or_eq_true, Bool.or_eq_false_iff, true_and, and_true, decide_eq_true_eq, decide_eq_false_iff_not, beq_iff_eq, beq_eq_false_iff_ne, bne_iff_ne, bne_eq_false_iff_eq, ne_eq, Bool.not_eq_true', Bool.not_eq_false', Decidable.not_not]) <;> omega))))))
      | (with_reducible refine bif_f ?_ ?_; · ((try simp (disch := omega) only [wr, if_pos, if_neg, hA, o1, o2, o3, o4, s5, Bool.not_true, List.length_append, List.length_cons, List.length_nil, List.length_replicate, List.length_take, List.length_drop, Int.natCast_add, Int.toNat_natCast]); (first | done | ((try simp only [min_if', max_if']); (first | done | ((try simp only [Bool.true_and, Bool.and_true, Bool.and_eq_true, Bool.and_eq_false_iff, Bool.or_eq_true, Bool.or_eq_false_iff, true_and, and_true, decide_eq_true_eq, decide_eq_false_iff_not, beq_iff_eq, beq_eq_false_iff_ne, bne_iff_ne, bne_eq_false_iff_eq, ne_eq, Bool.not_eq_true', Bool.not_eq_false', Decidable.not_not]) <;> omega))))))
      | (with_reducible refine bif_s ?_ ?_ <;> (intro hc; (try simp (disch := omega) only [wr, if_pos, if_neg, hA, o1, o2, o3, o4, s5, Bool.not_true, List.length_append, List.length_cons, List.length_nil, List.length_replicate, List.length_take, List.length_drop, Int.natCast_add, Int.toNat_natCast] at hc); (try simp only [min_if', max_if'] at hc); (try simp only [Bool.true_and, Bool.and_true, Bool.and_eq_true, Bool.and_eq_false_iff, Bool.or_eq_true, Bool.or_eq_false_iff, true_and, and_true, decide_eq_true_eq, decide_eq_false_iff_not, beq_iff_eq, beq_eq_false_iff_ne, bne_iff_ne, bne_eq_false_iff_eq, ne_eq, Bool.not_eq_true', Bool.not_eq_false', Decidable.not_not] at hc)))
      | fail "stuck")
    all_goals exact fin
  | succ r ih =>
    intro i own n hn hr hi hb
    obtain ⟨n, rfl⟩ := one_more n (by omega)
    have hw := within_le (a := l.getD i 0) (lo := 0) (hi := 1125899906842624) (by omega)
    have := ih (i + 1) (own ++ [within (l.getD i 0) 0 1125899906842624]) n (by omega) (by omega) (by simp; omega) (by
      intro x hx
      rcases List.mem_append.1 hx with hx | hx
      · exact hb x hx
      · simp at hx; subst hx; exact hw)
    rw [L11_0_succ]; unfold L11_0s; dsimp only
    rw [Int.toNat_natCast]
    simp only [Int.natCast_add] at this
    repeat' (first
      | with_reducible rfl
      | (with_reducible refine lt_i ?_; intro x hx; (try simp (disch := omega) only [wr, if_pos, if_neg, Int.sub_zero, Int.zero_add, List.length_append, List.length_cons, List.length_nil, List.length_replicate, List.length_take, List.length_drop, Int.natCast_add, Int.toNat_natCast] at hx); (try simp only [min_if', max_if'] at hx); subst hx)
      | (with_reducible refine bif_t ?_ ?_; · ((try simp (disch := omega) only [wr, if_pos, if_neg, List.length_append, List.length_cons, List.length_nil, List.length_replicate, List.length_take, List.length_drop, Int.natCast_add, Int.toNat_natCast]); (first | done | ((try simp only [min_if', max_if']); (first | done | ((try simp only [Bool.true_and, Bool.and_true, Bool.and_eq_true, Bool.and_eq_false_iff, Bool.or_eq_true, Bool.or_eq_false_iff, true_and, and_true, decide_eq_true_eq, decide_eq_false_iff_not, beq_iff_eq, beq_eq_false_iff_ne, bne_iff_ne, bne_eq_false_iff_eq, ne_eq, Bool.not_eq_true', Bool.not_eq_false', Decidable.not_not]) <;> omega))))))
      | (with_reducible refine bif_f ?_ ?_; · ((try simp (disch := omega) only [wr, if_pos, if_neg, List.length_append, List.length_cons, List.length_nil, List.length_replicate, List.length_take, List.length_drop, Int.natCast_add, Int.toNat_natCast]); (first | done | ((try simp only [min_if', max_if']); (first | done | ((try simp only [Bool.true_and, Bool.and_true, Bool.and_eq_true, Bool.and_eq_false_iff, Bool.or_eq_true, Bool.or_eq_false_iff, true_and, and_true, decide_eq_true_eq, decide_eq_false_iff_not, beq_iff_eq, beq_eq_false_iff_ne, bne_iff_ne, bne_eq_false_iff_eq, ne_eq, Bool.not_eq_true', Bool.not_eq_false', Decidable.not_not]) <;> omega))))))
      | (with_reducible refine bif_s ?_ ?_ <;> (intro hc; (try simp (disch := omega) only [wr, if_pos, if_neg, List.length_append, List.length_cons, List.length_nil, List.length_replicate, List.length_take, List.length_drop, Int.natCast_add, Int.toNat_natCast] at hc); (try simp only [min_if', max_if'] at hc); (try simp only [Bool.true_and, Bool.and_true, Bool.and_eq_true, Bool.and_eq_false_iff, Bool.or_eq_true, Bool.or_eq_false_iff, true_and, and_true, decide_eq_true_eq, decide_eq_false_iff_not, beq_iff_eq, beq_eq_false_iff_ne, bne_iff_ne, bne_eq_false_iff_eq, ne_eq, Bool.not_eq_true', Bool.not_eq_false', Decidable.not_not] at hc)))
      | fail "stuck")
    simp (disch := omega) only [wr]
    exact this

theorem spec11 (a0 : List Int) (w0 : ∀ n ∈ a0, (Lit.int .i64 n).wf = true) (a1 : Int) (w1 : (Lit.int .i64 a1).wf = true) : ∃ m, t11 m a0 a1 = some [.b true] := by
  exact ⟨32, sumsL0 32 a0 a1 (min 30 a0.length) 0 [] 32 (by omega) (by omega) rfl (by simp)⟩

theorem walkCentsSums (w : World) (b0 : LArg) (o0 : b0.ok w) (p0 : b0.vp = .ints .i64) (u0 : ∀ n, (∃ xs, b0.un = .l xs ∧ n ∈ xs) → (Lit.int .i64 n).wf = true) (a1 : Int) (w1 : (Lit.int .i64 a1).wf = true) : Calls Try.prog 11 #[b0.val, .int .i64 a1] w fun e w' => e = .returned (.bool true) ∧ RowKit.Below w.heap.size w w' := by
  obtain ⟨x0, hx0⟩ := LArg.list p0
  obtain ⟨m, hm⟩ := spec11 x0 (fun n hn => u0 n ⟨_, hx0, hn⟩) a1 w1
  exact law_lists Seat.mix Seat.names TE_right (xs := [b0, .i .i64 a1]) (vps := N11.vals) (tells11 m x0 a1 hm) (by simp only [List.map_cons, List.map_nil, hx0] <;> rfl) (by simp only [List.map_cons, List.map_nil, p0] <;> rfl)
    (by intro a ha; simp only [List.mem_cons, List.not_mem_nil, or_false] at ha; rcases ha with rfl | rfl <;> first | assumption | trivial)
end Go.Proofs.Ytlnnlkjjgenddaa
