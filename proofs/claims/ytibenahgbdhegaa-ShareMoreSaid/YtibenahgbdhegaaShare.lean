/- Shares in order and by weight: what the program answers. Conditions: none. -/
import Derived.Test.YtibenahgbdhegaaLists
namespace Go.Proofs.Ytibenahgbdhegaa
open Go Go.Proofs.Ytibenahgbdhegaa.Ev
set_option linter.unusedVariables false
set_option linter.unusedSimpArgs false
set_option linter.unnecessarySimpa false
/-- Shares in order. -/
def inOrd : Int → List Int → List Int
  | _, [] => []
  | n, c :: l => max (min c n) 0 :: inOrd (n - max (min c n) 0) l
theorem set_mid2 (pre done : List Int) (x y : Int) (rest : List Int) (h : done.length = pre.length) : List.set (done ++ x :: rest) pre.length y = done ++ y :: rest := by rw [← h]; simp


/-! cascade/share.InOrder -/
def N10 : Pn := ⟨[.int .i64, .ints .i64], []⟩
def X10 : Pn := ⟨[.buf 0 1], [.ints .i64]⟩
def L10_0s (m : Nat) (k : List Un → Option (List Un)) : List Un → Option (List Un)
  | [.i a0, .l a1, .i a2, .i a3, .l a4] =>
    bif decide (a3 < a2) then
     bif decide ((0 : Int) ≤ a3 ∧ a3 < (a1.length : Int)) then
      bif decide (a3.toNat < a1.length) then
       lt ((if a0 < (a1.getD a3.toNat 0) then a0 else (a1.getD a3.toNat 0)) : Int) fun x3 =>
       bif decide ((0 : Int) ≤ a3 ∧ a3 < (a4.length : Int)) then
        bif decide (a3.toNat < a4.length) then
         lt ((List.set a4 a3.toNat (if x3 < 0 then 0 else x3)) : List Int) fun l5 =>
         bif decide ((0 : Int) ≤ a3 ∧ a3 < (l5.length : Int)) then
          bif decide (a3.toNat < l5.length) then
           k [.i (IntKind.i64.wrap (a0 - (l5.getD a3.toNat 0))), .l a1, .i a2, .i (IntKind.i64.wrap (a3 + 1)), .l l5]
          else
           none
         else
          none
        else
         none
       else
        none
      else
       none
     else
      none
    else
     some [.l a4]
  | _ => none
def L10_0 (m : Nat) : Nat → List Un → Option (List Un) := iterS (L10_0s m)
theorem L10_0_succ (m : Nat) (n : Nat) : L10_0 m (n + 1) = L10_0s m (L10_0 m n) := rfl
def P10_0 : Pn := ⟨[.any, .any, .any, .any, .any, .int .i64, .buf 0 1, .any, .any, .any, .any, .any, .any, .any, .ints .i64, .int .i64, .int .i64, .any, .any, .any, .any, .any, .any, .any, .any, .any, .any, .any, .any, .any, .any, .any, .any, .any, .any, .any], [.ints .i64]⟩
def S10_0 (F : List Un → Option (List Un)) : StopS := ⟨[.lp [0, 1, 0, 1, 1, 1], .blk 0, .code [1, 1, 1, 1]], P10_0, F⟩
def t10 (m : Nat) (a0 : Int) (a1 : List Int) : Option (List Un) :=
  bif decide (0 ≤ (a1.length : Int) ∧ 8 * (a1.length : Int) ≤ 140737488355328 ∧ (a1.length : Int) ≤ 9223372036854775807) then
   L10_0 m m [.i (if a0 < 0 then 0 else a0), .l a1, .i (a1.length : Int), .i 0, .l (List.replicate a1.length 0)]
  else
   none
def T10 : TabS := tabS TE []
theorem T10_right : TabRight Try.prog [] (ofTab TE) T10 := tabS_right all0
theorem G10_0 (m : Nat) (k : List Un → Option (List Un)) (a0 : Int) (a1 : List Int) (a2 : Int) (a3 : Int) (a4 : List Int) : roadFromS Try.prog [] T10 KN (bodyOf (fnOf Try.prog 10)) [0, 1, 0, 1, 1, 1] [.blk 0, .code [1, 1, 1, 1]] P10_0 [.i a0, .l a1, .i a2, .i a3, .l a4] (kksS Try.prog (fnOf Try.prog 10).results.toList X10 0 [S10_0 k]) = L10_0s m k [.i a0, .l a1, .i a2, .i a3, .l a4] := by kernel_rfl
theorem Y10_0 {m : Nat} {k : List Un → Option (List Un)} {xs : List Un} {v : List Un} (h : L10_0s m k xs = some v) : ∃ a0 a1 a2 a3 a4, xs = [.i a0, .l a1, .i a2, .i a3, .l a4] := by
  unfold L10_0s at h
  split at h
  · exact ⟨_, _, _, _, _, rfl⟩
  · cases h
theorem H10_0 (m : Nat) : ∀ n, HoldsS Try.prog [] (ofTab TE) (fnOf Try.prog 10).results.toList X10 0 (bodyOf (fnOf Try.prog 10)) (S10_0 (L10_0 m n)) :=
  StopS.iter KN_none T10_right (mk := S10_0) (Fs := L10_0s m) (W := fun k => [S10_0 k]) (p := [0, 1, 0, 1, 1, 1]) (rest := [.blk 0, .code [1, 1, 1, 1]]) (pat := P10_0)
    (fun _ => rfl) (fun _ => rfl) (fun _ => rfl) (by kernel_rfl) (by kernel_rfl)
    (fun k h => (all1 h all0))
    (fun k xs v h => by
      obtain ⟨a0, a1, a2, a3, a4, rfl⟩ := Y10_0 h
      exact (G10_0 m k a0 a1 a2 a3 a4).trans h)
theorem G10 (m : Nat) (a0 : Int) (a1 : List Int) : roadInS Try.prog [] T10 KN (fnOf Try.prog 10) N10 [.i a0, .l a1] (kksS Try.prog (fnOf Try.prog 10).results.toList X10 0 [S10_0 (L10_0 m m)]) = t10 m a0 a1 := by kernel_rfl
theorem tells10 (m : Nat) (a0 : Int) (a1 : List Int) {ys : List Un} (h : t10 m a0 a1 = some ys) : TellsS Try.prog [] (ofTab TE) 10 N10 X10 [.i a0, .l a1] ys :=
  tells_road KN_none T10_right (W := [S10_0 (L10_0 m m)]) (by kernel_rfl) (by kernel_rfl) (by kernel_rfl)
    (all1 (H10_0 m m) all0) ((G10 m a0 a1).trans h)

theorem inOrdL10 (m : Nat) : ∀ (rest pre done : List Int) (left : Int) (n : Nat), rest.length < n → done.length = pre.length → 0 ≤ left → left ≤ 9223372036854775807 → (pre ++ rest).length < 1099511627776 →
    L10_0 m n [.i left, .l (pre ++ rest), .i ((pre ++ rest).length : Int), .i (pre.length : Int), .l (done ++ List.replicate rest.length 0)] = some [.l (done ++ inOrd left rest)] := by
  intro rest
  induction rest with
  | nil =>
    intro pre done left n hn hp h1 h2 h3
    obtain ⟨n, rfl⟩ := one_more n (by simp at hn; omega)
    rw [L10_0_succ]; unfold L10_0s; dsimp only
    simp only [List.append_nil, List.length_nil, List.replicate_zero, inOrd] at h3 ⊢
    repeat' (first
      | with_reducible rfl
      | (with_reducible refine lt_i ?_; intro x hx; (try simp (disch := omega) only [wr, if_pos, if_neg, Int.sub_zero, Int.zero_add, set_mid2 _ _ _ _ _ hp, getD_mid2 _ _ _ _ _ hp, getD_mid, List.length_append, List.length_cons, List.length_nil, List.length_replicate, List.length_take, List.length_drop, Int.natCast_add, Int.toNat_natCast] at hx); (try simp only [min_if', max_if'] at hx); subst hx)
      | (with_reducible refine bif_t ?_ ?_; · ((try simp (disch := omega) only [wr, if_pos, if_neg, set_mid2 _ _ _ _ _ hp, getD_mid2 _ _ _ _ _ hp, getD_mid, List.length_append, List.length_cons, List.length_nil, List.length_replicate, List.length_take, List.length_drop, Int.natCast_add, Int.toNat_natCast]); (first | done | ((try simp only [min_if', max_if']); (first | done | ((try simp only [Bool.true_and, Bool.and_true, Bool.and_eq_true, Bool.and_eq_false_iff, Bool.or_eq_true, Bool.or_eq_false_iff, true_and, and_true, decide_eq_true_eq, decide_eq_false_iff_not, beq_iff_eq, beq_eq_false_iff_ne, bne_iff_ne, bne_eq_false_iff_eq, ne_eq, Bool.not_eq_true', Bool.not_eq_false', Decidable.not_not]) <;> omega))))))
      | (with_reducible refine bif_f ?_ ?_; · ((try simp (disch := omega) only [wr, if_pos, if_neg, set_mid2 _ _ _ _ _ hp, getD_mid2 _ _ _ _ _ hp, getD_mid, List.length_append, List.length_cons, List.length_nil, List.length_replicate, List.length_take, List.length_drop, Int.natCast_add, Int.toNat_natCast]); (first | done | ((try simp only [min_if', max_if']); (first | done | ((try simp only [Bool.true_and, Bool.and_true, Bool.and_eq_true, Bool.and_eq_false_iff, Bool.or_eq_true, Bool.or_eq_false_iff, true_and, and_true, decide_eq_true_eq, decide_eq_false_iff_not, beq_iff_eq, beq_eq_false_iff_ne, bne_iff_ne, bne_eq_false_iff_eq, ne_eq, Bool.not_eq_true', Bool.not_eq_false', Decidable.not_not]) <;> omega))))))
      | (with_reducible refine bif_s ?_ ?_ <;> (intro hc; (try simp (disch := omega) only [wr, if_pos, if_neg, set_mid2 _ _ _ _ _ hp, getD_mid2 _ _ _ _ _ hp, getD_mid, List.length_append, List.length_cons, List.length_nil, List.length_replicate, List.length_take, List.length_drop, Int.natCast_add, Int.toNat_natCast] at hc); (try simp only [min_if', max_if'] at hc); (try simp only [Bool.true_and, Bool.and_true, Bool.and_eq_true, Bool.and_eq_false_iff, Bool.or_eq_true, Bool.or_eq_false_iff, true_and, and_true, decide_eq_true_eq, decide_eq_false_iff_not, beq_iff_eq, beq_eq_false_iff_ne, bne_iff_ne, bne_eq_false_iff_eq, ne_eq, Bool.not_eq_true', Bool.not_eq_false', Decidable.not_not] at hc)))
      | fail "stuck")
  | cons x rest ih =>
    intro pre done left n hn hp h1 h2 h3
    obtain ⟨n, rfl⟩ := one_more n (by simp at hn; omega)
    simp only [List.length_append, List.length_cons] at h3 hn
    rw [L10_0_succ]; unfold L10_0s; dsimp only
    simp only [List.length_cons, List.replicate_succ, inOrd]
    have hb : 0 ≤ max (min x left) 0 ∧ max (min x left) 0 ≤ left := by omega
    have := ih (pre ++ [x]) (done ++ [max (min x left) 0]) (left - max (min x left) 0) n (by omega) (by simp; omega) (by omega) (by omega) (by simp; omega)
    simp only [List.append_assoc, List.cons_append, List.nil_append, List.length_append, List.length_cons, List.length_nil, Int.natCast_add] at this
    repeat' (first
      | with_reducible rfl
      | (with_reducible refine lt_i ?_; intro x hx; (try simp (disch := omega) only [wr, if_pos, if_neg, Int.sub_zero, Int.zero_add, set_mid2 _ _ _ _ _ hp, getD_mid2 _ _ _ _ _ hp, getD_mid, List.length_append, List.length_cons, List.length_nil, List.length_replicate, List.length_take, List.length_drop, Int.natCast_add, Int.toNat_natCast] at hx); (try simp only [min_if', max_if'] at hx); subst hx)
      | (with_reducible refine bif_t ?_ ?_; · ((try simp (disch := omega) only [wr, if_pos, if_neg, set_mid2 _ _ _ _ _ hp, getD_mid2 _ _ _ _ _ hp, getD_mid, List.length_append, List.length_cons, List.length_nil, List.length_replicate, List.length_take, List.length_drop, Int.natCast_add, Int.toNat_natCast]); (first | done | ((try simp only [min_if', max_if']); (first | done | ((try simp only [Bool.true_and, Bool.and_true, Bool.and_eq_true, Bool.and_eq_false_iff, Bool.or_eq_true, Bool.or_eq_false_iff, true_and, and_true, decide_eq_true_eq, decide_eq_false_iff_not, beq_iff_eq, beq_eq_false_iff_ne, bne_iff_ne, bne_eq_false_iff_eq, ne_eq, Bool.not_eq_true', Bool.not_eq_false', Decidable.not_not]) <;> omega))))))
      | (with_reducible refine bif_f ?_ ?_; · ((try simp (disch := omega) only [wr, if_pos, if_neg, set_mid2 _ _ _ _ _ hp, getD_mid2 _ _ _ _ _ hp, getD_mid, List.length_append, List.length_cons, List.length_nil, List.length_replicate, List.length_take, List.length_drop, Int.natCast_add, Int.toNat_natCast]); (first | done | ((try simp only [min_if', max_if']); (first | done | ((try simp only [Bool.true_and, Bool.and_true, Bool.and_eq_true, Bool.and_eq_false_iff, Bool.or_eq_true, Bool.or_eq_false_iff, true_and, and_true, decide_eq_true_eq, decide_eq_false_iff_not, beq_iff_eq, beq_eq_false_iff_ne, bne_iff_ne, bne_eq_false_iff_eq, ne_eq, Bool.not_eq_true', Bool.not_eq_false', Decidable.not_not]) <;> omega))))))
      | (with_reducible refine bif_s ?_ ?_ <;> (intro hc; (try simp (disch := omega) only [wr, if_pos, if_neg, set_mid2 _ _ _ _ _ hp, getD_mid2 _ _ _ _ _ hp, getD_mid, List.length_append, List.length_cons, List.length_nil, List.length_replicate, List.length_take, List.length_drop, Int.natCast_add, Int.toNat_natCast] at hc); (try simp only [min_if', max_if'] at hc); (try simp only [Bool.true_and, Bool.and_true, Bool.and_eq_true, Bool.and_eq_false_iff, Bool.or_eq_true, Bool.or_eq_false_iff, true_and, and_true, decide_eq_true_eq, decide_eq_false_iff_not, beq_iff_eq, beq_eq_false_iff_ne, bne_iff_ne, bne_eq_false_iff_eq, ne_eq, Bool.not_eq_true', Bool.not_eq_false', Decidable.not_not] at hc)))
      | fail "stuck")
    skip
    simp (disch := omega) only [wr, set_mid2 _ _ _ _ _ hp, getD_mid2 _ _ _ _ _ hp, getD_mid, Int.toNat_natCast, List.length_append, List.length_cons, List.length_nil, Int.natCast_add] at this ⊢
    exact this

def q10 : List Un → Option (Bool × List Un)
  | [.i a0, .l a1] => some (decide (a0 ≤ 9223372036854775807 ∧ a1.length < 1099511627776), [.l (inOrd (max a0 0) a1)])
  | _ => none
def e10 : EntS := ⟨N10, X10, q10⟩

theorem spec10 (a0 : Int) (a1 : List Int) (hc : (decide (a0 ≤ 9223372036854775807 ∧ a1.length < 1099511627776)) = true) : ∃ m, t10 m a0 a1 = some [.l (inOrd (max a0 0) a1)] := by
  simp only [decide_eq_true_eq] at hc
  refine ⟨a1.length + 1, ?_⟩
  unfold t10
  repeat' (first
    | with_reducible rfl
    | (with_reducible refine lt_i ?_; intro x hx; (try simp (disch := omega) only [wr, if_pos, if_neg, Int.sub_zero, Int.zero_add, List.length_append, List.length_cons, List.length_nil, List.length_replicate, List.length_take, List.length_drop, Int.natCast_add, Int.toNat_natCast] at hx); (try simp only [min_if', max_if'] at hx); subst hx)
    | (with_reducible refine bif_t ?_ ?_; · ((try simp (disch := omega) only [wr, if_pos, if_neg, List.length_append, List.length_cons, List.length_nil, List.length_replicate, List.length_take, List.length_drop, Int.natCast_add, Int.toNat_natCast]); (first | done | ((try simp only [min_if', max_if']); (first | done | ((try simp only [Bool.true_and, Bool.and_true, Bool.and_eq_true, Bool.and_eq_false_iff, Bool.or_eq_true, Bool.or_eq_false_iff, true_and, and_true, decide_eq_true_eq, decide_eq_false_iff_not, beq_iff_eq, beq_eq_false_iff_ne, bne_iff_ne, bne_eq_false_iff_eq, ne_eq, Bool.not_eq_true', Bool.not_eq_false', Decidable.not_not]) <;> omega))))))
    | (with_reducible refine bif_f ?_ ?_; · ((try simp (disch := omega) only [wr, if_pos, if_neg, List.length_append, List.length_cons, List.length_nil, List.length_replicate, List.length_take, List.length_drop, Int.natCast_add, Int.toNat_natCast]); (first | done | ((try simp only [min_if', max_if']); (first | done | ((try simp only [Bool.true_and, Bool.and_true, Bool.and_eq_true, Bool.and_eq_false_iff, Bool.or_eq_true, Bool.or_eq_false_iff, true_and, and_true, decide_eq_true_eq, decide_eq_false_iff_not, beq_iff_eq, beq_eq_false_iff_ne, bne_iff_ne, bne_eq_false_iff_eq, ne_eq, Bool.not_eq_true', Bool.not_eq_false', Decidable.not_not]) <;> omega))))))
    | (with_reducible refine bif_s ?_ ?_ <;> (intro hc; (try simp (disch := omega) only [wr, if_pos, if_neg, List.length_append, List.length_cons, List.length_nil, List.length_replicate, List.length_take, List.length_drop, Int.natCast_add, Int.toNat_natCast] at hc); (try simp only [min_if', max_if'] at hc); (try simp only [Bool.true_and, Bool.and_true, Bool.and_eq_true, Bool.and_eq_false_iff, Bool.or_eq_true, Bool.or_eq_false_iff, true_and, and_true, decide_eq_true_eq, decide_eq_false_iff_not, beq_iff_eq, beq_eq_false_iff_ne, bne_iff_ne, bne_eq_false_iff_eq, ne_eq, Bool.not_eq_true', Bool.not_eq_false', Decidable.not_not] at hc)))
    | fail "stuck")
  have := inOrdL10 (a1.length + 1) a1 [] [] (max a0 0) (a1.length + 1) (by omega) rfl (by omega) (by omega) (by simpa using hc.2)
  simp only [max_if'] at this ⊢
  exact this

theorem right10 : EntSRight Try.prog [] (ofTab TE) 10 e10 := by
  intro us ys h
  replace h : q10 us = some (true, ys) := h
  unfold q10 at h
  split at h
  · rename_i a0 a1
    simp only [Option.some.injEq, Prod.mk.injEq] at h
    obtain ⟨hc, rfl⟩ := h
    obtain ⟨m, hm⟩ := spec10 a0 a1 hc
    exact tells10 m a0 a1 hm
  · cases h


/-! cascade/cascaderef1.InOrder -/
def N14 : Pn := ⟨[.int .i64, .ints .i64], []⟩
def X14 : Pn := ⟨[.buf 0 1], [.ints .i64]⟩
def L14_0s (m : Nat) (k : List Un → Option (List Un)) : List Un → Option (List Un)
  | [.i a0, .l a1, .i a2, .i a3, .l a4] =>
    bif decide (a3 < a2) then
     bif decide ((0 : Int) ≤ a3 ∧ a3 < (a1.length : Int)) then
      bif decide (a3.toNat < a1.length) then
       lt ((if (a1.getD a3.toNat 0) < a0 then (a1.getD a3.toNat 0) else a0) : Int) fun x2 =>
       bif decide ((0 : Int) ≤ a3 ∧ a3 < (a4.length : Int)) then
        bif decide (a3.toNat < a4.length) then
         lt ((List.set a4 a3.toNat (if 0 < x2 then x2 else 0)) : List Int) fun l4 =>
         bif decide ((0 : Int) ≤ a3 ∧ a3 < (l4.length : Int)) then
          bif decide (a3.toNat < l4.length) then
           k [.i (IntKind.i64.wrap (a0 - (l4.getD a3.toNat 0))), .l a1, .i a2, .i (IntKind.i64.wrap (a3 + 1)), .l l4]
          else
           none
         else
          none
        else
         none
       else
        none
      else
       none
     else
      none
    else
     some [.l a4]
  | _ => none
def L14_0 (m : Nat) : Nat → List Un → Option (List Un) := iterS (L14_0s m)
theorem L14_0_succ (m : Nat) (n : Nat) : L14_0 m (n + 1) = L14_0s m (L14_0 m n) := rfl
def P14_0 : Pn := ⟨[.int .i64, .any, .any, .any, .any, .buf 0 1, .any, .any, .any, .any, .any, .ints .i64, .int .i64, .int .i64, .any, .any, .any, .any, .any, .any, .any, .any, .any, .any, .any, .any, .any, .any, .any, .any, .any, .any, .any], [.ints .i64]⟩
def S14_0 (F : List Un → Option (List Un)) : StopS := ⟨[.lp [0, 1, 0, 1, 1], .blk 0, .code [1, 1, 1]], P14_0, F⟩
def t14 (m : Nat) (a0 : Int) (a1 : List Int) : Option (List Un) :=
  bif decide (0 ≤ (a1.length : Int) ∧ 8 * (a1.length : Int) ≤ 140737488355328 ∧ (a1.length : Int) ≤ 9223372036854775807) then
   L14_0 m m [.i a0, .l a1, .i (a1.length : Int), .i 0, .l (List.replicate a1.length 0)]
  else
   none
def T14 : TabS := tabS TE []
theorem T14_right : TabRight Try.prog [] (ofTab TE) T14 := tabS_right all0
theorem G14_0 (m : Nat) (k : List Un → Option (List Un)) (a0 : Int) (a1 : List Int) (a2 : Int) (a3 : Int) (a4 : List Int) : roadFromS Try.prog [] T14 KN (bodyOf (fnOf Try.prog 14)) [0, 1, 0, 1, 1] [.blk 0, .code [1, 1, 1]] P14_0 [.i a0, .l a1, .i a2, .i a3, .l a4] (kksS Try.prog (fnOf Try.prog 14).results.toList X14 0 [S14_0 k]) = L14_0s m k [.i a0, .l a1, .i a2, .i a3, .l a4] := by kernel_rfl
theorem Y14_0 {m : Nat} {k : List Un → Option (List Un)} {xs : List Un} {v : List Un} (h : L14_0s m k xs = some v) : ∃ a0 a1 a2 a3 a4, xs = [.i a0, .l a1, .i a2, .i a3, .l a4] := by
  unfold L14_0s at h
  split at h
  · exact ⟨_, _, _, _, _, rfl⟩
  · cases h
theorem H14_0 (m : Nat) : ∀ n, HoldsS Try.prog [] (ofTab TE) (fnOf Try.prog 14).results.toList X14 0 (bodyOf (fnOf Try.prog 14)) (S14_0 (L14_0 m n)) :=
  StopS.iter KN_none T14_right (mk := S14_0) (Fs := L14_0s m) (W := fun k => [S14_0 k]) (p := [0, 1, 0, 1, 1]) (rest := [.blk 0, .code [1, 1, 1]]) (pat := P14_0)
    (fun _ => rfl) (fun _ => rfl) (fun _ => rfl) (by kernel_rfl) (by kernel_rfl)
    (fun k h => (all1 h all0))
    (fun k xs v h => by
      obtain ⟨a0, a1, a2, a3, a4, rfl⟩ := Y14_0 h
      exact (G14_0 m k a0 a1 a2 a3 a4).trans h)
theorem G14 (m : Nat) (a0 : Int) (a1 : List Int) : roadInS Try.prog [] T14 KN (fnOf Try.prog 14) N14 [.i a0, .l a1] (kksS Try.prog (fnOf Try.prog 14).results.toList X14 0 [S14_0 (L14_0 m m)]) = t14 m a0 a1 := by kernel_rfl
theorem tells14 (m : Nat) (a0 : Int) (a1 : List Int) {ys : List Un} (h : t14 m a0 a1 = some ys) : TellsS Try.prog [] (ofTab TE) 14 N14 X14 [.i a0, .l a1] ys :=
  tells_road KN_none T14_right (W := [S14_0 (L14_0 m m)]) (by kernel_rfl) (by kernel_rfl) (by kernel_rfl)
    (all1 (H14_0 m m) all0) ((G14 m a0 a1).trans h)

theorem inOrdL14 (m : Nat) : ∀ (rest pre done : List Int) (left : Int) (n : Nat), rest.length < n → done.length = pre.length → 0 ≤ left → left ≤ 9223372036854775807 → (pre ++ rest).length < 1099511627776 →
    L14_0 m n [.i left, .l (pre ++ rest), .i ((pre ++ rest).length : Int), .i (pre.length : Int), .l (done ++ List.replicate rest.length 0)] = some [.l (done ++ inOrd left rest)] := by
  intro rest
  induction rest with
  | nil =>
    intro pre done left n hn hp h1 h2 h3
    obtain ⟨n, rfl⟩ := one_more n (by simp at hn; omega)
    rw [L14_0_succ]; unfold L14_0s; dsimp only
    simp only [List.append_nil, List.length_nil, List.replicate_zero, inOrd] at h3 ⊢
    repeat' (first
      | with_reducible rfl
      | (with_reducible refine lt_i ?_; intro x hx; (try simp (disch := omega) only [wr, if_pos, if_neg, Int.sub_zero, Int.zero_add, set_mid2 _ _ _ _ _ hp, getD_mid2 _ _ _ _ _ hp, getD_mid, List.length_append, List.length_cons, List.length_nil, List.length_replicate, List.length_take, List.length_drop, Int.natCast_add, Int.toNat_natCast] at hx); (try simp only [min_if', max_if'] at hx); subst hx)
      | (with_reducible refine bif_t ?_ ?_; · ((try simp (disch := omega) only [wr, if_pos, if_neg, set_mid2 _ _ _ _ _ hp, getD_mid2 _ _ _ _ _ hp, getD_mid, List.length_append, List.length_cons, List.length_nil, List.length_replicate, List.length_take, List.length_drop, Int.natCast_add, Int.toNat_natCast]); (first | done | ((try simp only [min_if', max_if']); (first | done | ((try simp only [Bool.true_and, Bool.and_true, Bool.and_eq_true, Bool.and_eq_false_iff, Bool.or_eq_true, Bool.or_eq_false_iff, true_and, and_true, decide_eq_true_eq, decide_eq_false_iff_not, beq_iff_eq, beq_eq_false_iff_ne, bne_iff_ne, bne_eq_false_iff_eq, ne_eq, Bool.not_eq_true', Bool.not_eq_false', Decidable.not_not]) <;> omega))))))
      | (with_reducible refine bif_f ?_ ?_; · ((try simp (disch := omega) only [wr, if_pos, if_neg, set_mid2 _ _ _ _ _ hp, getD_mid2 _ _ _ _ _ hp, getD_mid, List.length_append, List.length_cons, List.length_nil, List.length_replicate, List.length_take, List.length_drop, Int.natCast_add, Int.toNat_natCast]); (first | done | ((try simp only [min_if', max_if']); (first | done | ((try simp only [Bool.true_and, Bool.and_true, Bool.and_eq_true, Bool.and_eq_false_iff, Bool.or_eq_true, Bool.or_eq_false_iff, true_and, and_true, decide_eq_true_eq, decide_eq_false_iff_not, beq_iff_eq, beq_eq_false_iff_ne, bne_iff_ne, bne_eq_false_iff_eq, ne_eq, Bool.not_eq_true', Bool.not_eq_false', Decidable.not_not]) <;> omega))))))
      | (with_reducible refine bif_s ?_ ?_ <;> (intro hc; (try simp (disch := omega) only [wr, if_pos, if_neg, set_mid2 _ _ _ _ _ hp, getD_mid2 _ _ _ _ _ hp, getD_mid, List.length_append, List.length_cons, List.length_nil, List.length_replicate, List.length_take, List.length_drop, Int.natCast_add, Int.toNat_natCast] at hc); (try simp only [min_if', max_if'] at hc); (try simp only [Bool.true_and, Bool.and_true, Bool.and_eq_true, Bool.and_eq_false_iff, Bool.or_eq_true, Bool.or_eq_false_iff, true_and, and_true, decide_eq_true_eq, decide_eq_false_iff_not, beq_iff_eq, beq_eq_false_iff_ne, bne_iff_ne, bne_eq_false_iff_eq, ne_eq, Bool.not_eq_true', Bool.not_eq_false', Decidable.not_not] at hc)))
      | fail "stuck")
  | cons x rest ih =>
    intro pre done left n hn hp h1 h2 h3
    obtain ⟨n, rfl⟩ := one_more n (by simp at hn; omega)
    simp only [List.length_append, List.length_cons] at h3 hn
    rw [L14_0_succ]; unfold L14_0s; dsimp only
    simp only [List.length_cons, List.replicate_succ, inOrd]
    have hb : 0 ≤ max (min x left) 0 ∧ max (min x left) 0 ≤ left := by omega
    have := ih (pre ++ [x]) (done ++ [max (min x left) 0]) (left - max (min x left) 0) n (by omega) (by simp; omega) (by omega) (by omega) (by simp; omega)
    simp only [List.append_assoc, List.cons_append, List.nil_append, List.length_append, List.length_cons, List.length_nil, Int.natCast_add] at this
    repeat' (first
      | with_reducible rfl
      | (with_reducible refine lt_i ?_; intro x hx; (try simp (disch := omega) only [wr, if_pos, if_neg, Int.sub_zero, Int.zero_add, set_mid2 _ _ _ _ _ hp, getD_mid2 _ _ _ _ _ hp, getD_mid, List.length_append, List.length_cons, List.length_nil, List.length_replicate, List.length_take, List.length_drop, Int.natCast_add, Int.toNat_natCast] at hx); (try simp only [min_if', max_if'] at hx); subst hx)
      | (with_reducible refine bif_t ?_ ?_; · ((try simp (disch := omega) only [wr, if_pos, if_neg, set_mid2 _ _ _ _ _ hp, getD_mid2 _ _ _ _ _ hp, getD_mid, List.length_append, List.length_cons, List.length_nil, List.length_replicate, List.length_take, List.length_drop, Int.natCast_add, Int.toNat_natCast]); (first | done | ((try simp only [min_if', max_if']); (first | done | ((try simp only [Bool.true_and, Bool.and_true, Bool.and_eq_true, Bool.and_eq_false_iff, Bool.or_eq_true, Bool.or_eq_false_iff, true_and, and_true, decide_eq_true_eq, decide_eq_false_iff_not, beq_iff_eq, beq_eq_false_iff_ne, bne_iff_ne, bne_eq_false_iff_eq, ne_eq, Bool.not_eq_true', Bool.not_eq_false', Decidable.not_not]) <;> omega))))))
      | (with_reducible refine bif_f ?_ ?_; · ((try simp (disch := omega) only [wr, if_pos, if_neg, set_mid2 _ _ _ _ _ hp, getD_mid2 _ _ _ _ _ hp, getD_mid, List.length_append, List.length_cons, List.length_nil, List.length_replicate, List.length_take, List.length_drop, Int.natCast_add, Int.toNat_natCast]); (first | done | ((try simp only [min_if', max_if']); (first | done | ((try simp only [Bool.true_and, Bool.and_true, Bool.and_eq_true, Bool.and_eq_false_iff, Bool.or_eq_true, Bool.or_eq_false_iff, true_and, and_true, decide_eq_true_eq, decide_eq_false_iff_not, beq_iff_eq, beq_eq_false_iff_ne, bne_iff_ne, bne_eq_false_iff_eq, ne_eq, Bool.not_eq_true', Bool.not_eq_false', Decidable.not_not]) <;> omega))))))
      | (with_reducible refine bif_s ?_ ?_ <;> (intro hc; (try simp (disch := omega) only [wr, if_pos, if_neg, set_mid2 _ _ _ _ _ hp, getD_mid2 _ _ _ _ _ hp, getD_mid, List.length_append, List.length_cons, List.length_nil, List.length_replicate, List.length_take, List.length_drop, Int.natCast_add, Int.toNat_natCast] at hc); (try simp only [min_if', max_if'] at hc); (try simp only [Bool.true_and, Bool.and_true, Bool.and_eq_true, Bool.and_eq_false_iff, Bool.or_eq_true, Bool.or_eq_false_iff, true_and, and_true, decide_eq_true_eq, decide_eq_false_iff_not, beq_iff_eq, beq_eq_false_iff_ne, bne_iff_ne, bne_eq_false_iff_eq, ne_eq, Bool.not_eq_true', Bool.not_eq_false', Decidable.not_not] at hc)))
      | fail "stuck")
    rw [show max 0 (min left x) = max (min x left) 0 by omega]
    simp (disch := omega) only [wr, set_mid2 _ _ _ _ _ hp, getD_mid2 _ _ _ _ _ hp, getD_mid, Int.toNat_natCast, List.length_append, List.length_cons, List.length_nil, Int.natCast_add] at this ⊢
    exact this

def q14 : List Un → Option (Bool × List Un)
  | [.i a0, .l a1] => some (decide (0 ≤ a0 ∧ a0 ≤ 9223372036854775807 ∧ a1.length < 1099511627776), [.l (inOrd (max a0 0) a1)])
  | _ => none
def e14 : EntS := ⟨N14, X14, q14⟩

theorem spec14 (a0 : Int) (a1 : List Int) (hc : (decide (0 ≤ a0 ∧ a0 ≤ 9223372036854775807 ∧ a1.length < 1099511627776)) = true) : ∃ m, t14 m a0 a1 = some [.l (inOrd (max a0 0) a1)] := by
  simp only [decide_eq_true_eq] at hc
  refine ⟨a1.length + 1, ?_⟩
  unfold t14
  repeat' (first
    | with_reducible rfl
    | (with_reducible refine lt_i ?_; intro x hx; (try simp (disch := omega) only [wr, if_pos, if_neg, Int.sub_zero, Int.zero_add, List.length_append, List.length_cons, List.length_nil, List.length_replicate, List.length_take, List.length_drop, Int.natCast_add, Int.toNat_natCast] at hx); (try simp only [min_if', max_if'] at hx); subst hx)
    | (with_reducible refine bif_t ?_ ?_; · ((try simp (disch := omega) only [wr, if_pos, if_neg, List.length_append, List.length_cons, List.length_nil, List.length_replicate, List.length_take, List.length_drop, Int.natCast_add, Int.toNat_natCast]); (first | done | ((try simp only [min_if', max_if']); (first | done | ((try simp only [Bool.true_and, Bool.and_true, Bool.and_eq_true, Bool.and_eq_false_iff, Bool.or_eq_true, Bool.or_eq_false_iff, true_and, and_true, decide_eq_true_eq, decide_eq_false_iff_not, beq_iff_eq, beq_eq_false_iff_ne, bne_iff_ne, bne_eq_false_iff_eq, ne_eq, Bool.not_eq_true', Bool.not_eq_false', Decidable.not_not]) <;> omega))))))
    | (with_reducible refine bif_f ?_ ?_; · ((try simp (disch := omega) only [wr, if_pos, if_neg, List.length_append, List.length_cons, List.length_nil, List.length_replicate, List.length_take, List.length_drop, Int.natCast_add, Int.toNat_natCast]); (first | done | ((try simp only [min_if', max_if']); (first | done | ((try simp only [Bool.true_and, Bool.and_true, Bool.and_eq_true, Bool.and_eq_false_iff, Bool.or_eq_true, Bool.or_eq_false_iff, true_and, and_true, decide_eq_true_eq, decide_eq_false_iff_not, beq_iff_eq, beq_eq_false_iff_ne, bne_iff_ne, bne_eq_false_iff_eq, ne_eq, Bool.not_eq_true', Bool.not_eq_false', Decidable.not_not]) <;> omega))))))
    | (with_reducible refine bif_s ?_ ?_ <;> (intro hc; (try simp (disch := omega) only [wr, if_pos, if_neg, List.length_append, List.length_cons, List.length_nil, List.length_replicate, List.length_take, List.length_drop, Int.natCast_add, Int.toNat_natCast] at hc); (try simp only [min_if', max_if'] at hc); (try simp only [Bool.true_and, Bool.and_true, Bool.and_eq_true, Bool.and_eq_false_iff, Bool.or_eq_true, Bool.or_eq_false_iff, true_and, and_true, decide_eq_true_eq, decide_eq_false_iff_not, beq_iff_eq, beq_eq_false_iff_ne, bne_iff_ne, bne_eq_false_iff_eq, ne_eq, Bool.not_eq_true', Bool.not_eq_false', Decidable.not_not] at hc)))
    | fail "stuck")
  have := inOrdL14 (a1.length + 1) a1 [] [] (max a0 0) (a1.length + 1) (by omega) rfl (by omega) (by omega) (by simpa using hc.2.2)
  rw [show max a0 0 = a0 by omega] at this ⊢
  exact this

theorem right14 : EntSRight Try.prog [] (ofTab TE) 14 e14 := by
  intro us ys h
  replace h : q14 us = some (true, ys) := h
  unfold q14 at h
  split at h
  · rename_i a0 a1
    simp only [Option.some.injEq, Prod.mk.injEq] at h
    obtain ⟨hc, rfl⟩ := h
    obtain ⟨m, hm⟩ := spec14 a0 a1 hc
    exact tells14 m a0 a1 hm
  · cases h


/-! cascade/cascaderef1.remainder -/
def N23 : Pn := ⟨[.int .i64, .int .i64, .int .i64], []⟩
def X23 : Pn := ⟨[.int .i64], []⟩
def L23_0s (m : Nat) (k : List Un → Option (List Un)) : List Un → Option (List Un)
  | [.i a0, .i a1, .i a2, .i a3, .i a4] =>
    bif decide (a4 ≥ 0) then
     lt ((IntKind.i64.wrap (2 * a3)) : Int) fun x1 =>
     bif decide (a2 = 0) then
      none
     else
      bif decide (a4 < 0) then
       none
      else
       bif (IntKind.i64.wrap ((BitVec.ofInt 64 (a1.fdiv (2 ^ (min a4.toNat 64))) &&& BitVec.ofInt 64 1).toNat)) == 1 then
        bif decide (a2 = 0) then
         none
        else
         bif decide (a2 = 0) then
          none
         else
          k [.i a0, .i a1, .i a2, .i ((IntKind.i64.wrap ((x1.tmod a2) + (a0.tmod a2))).tmod a2), .i (IntKind.i64.wrap (a4 - 1))]
       else
        k [.i a0, .i a1, .i a2, .i (x1.tmod a2), .i (IntKind.i64.wrap (a4 - 1))]
    else
     some [.i a3]
  | _ => none
def L23_0 (m : Nat) : Nat → List Un → Option (List Un) := iterS (L23_0s m)
theorem L23_0_succ (m : Nat) (n : Nat) : L23_0 m (n + 1) = L23_0s m (L23_0 m n) := rfl
def P23_0 : Pn := ⟨[.int .i64, .int .i64, .int .i64, .any, .any, .any, .any, .int .i64, .int .i64, .any, .any, .any, .any, .any, .any, .any, .any, .any, .any, .any, .any, .any, .any, .any, .any, .any, .any, .any, .any, .any], []⟩
def S23_0 (F : List Un → Option (List Un)) : StopS := ⟨[.lp [0, 1, 0, 1, 1], .blk 0, .code [1, 1, 1]], P23_0, F⟩
def t23 (m : Nat) (a0 : Int) (a1 : Int) (a2 : Int) : Option (List Un) :=
  L23_0 m m [.i a0, .i a1, .i a2, .i 0, .i 60]
def T23 : TabS := tabS TE []
theorem T23_right : TabRight Try.prog [] (ofTab TE) T23 := tabS_right all0
theorem G23_0 (m : Nat) (k : List Un → Option (List Un)) (a0 : Int) (a1 : Int) (a2 : Int) (a3 : Int) (a4 : Int) : roadFromS Try.prog [] T23 KN (bodyOf (fnOf Try.prog 23)) [0, 1, 0, 1, 1] [.blk 0, .code [1, 1, 1]] P23_0 [.i a0, .i a1, .i a2, .i a3, .i a4] (kksS Try.prog (fnOf Try.prog 23).results.toList X23 0 [S23_0 k]) = L23_0s m k [.i a0, .i a1, .i a2, .i a3, .i a4] := by kernel_rfl
theorem Y23_0 {m : Nat} {k : List Un → Option (List Un)} {xs : List Un} {v : List Un} (h : L23_0s m k xs = some v) : ∃ a0 a1 a2 a3 a4, xs = [.i a0, .i a1, .i a2, .i a3, .i a4] := by
  unfold L23_0s at h
  split at h
  · exact ⟨_, _, _, _, _, rfl⟩
  · cases h
theorem H23_0 (m : Nat) : ∀ n, HoldsS Try.prog [] (ofTab TE) (fnOf Try.prog 23).results.toList X23 0 (bodyOf (fnOf Try.prog 23)) (S23_0 (L23_0 m n)) :=
  StopS.iter KN_none T23_right (mk := S23_0) (Fs := L23_0s m) (W := fun k => [S23_0 k]) (p := [0, 1, 0, 1, 1]) (rest := [.blk 0, .code [1, 1, 1]]) (pat := P23_0)
    (fun _ => rfl) (fun _ => rfl) (fun _ => rfl) (by kernel_rfl) (by kernel_rfl)
    (fun k h => (all1 h all0))
    (fun k xs v h => by
      obtain ⟨a0, a1, a2, a3, a4, rfl⟩ := Y23_0 h
      exact (G23_0 m k a0 a1 a2 a3 a4).trans h)
theorem G23 (m : Nat) (a0 : Int) (a1 : Int) (a2 : Int) : roadInS Try.prog [] T23 KN (fnOf Try.prog 23) N23 [.i a0, .i a1, .i a2] (kksS Try.prog (fnOf Try.prog 23).results.toList X23 0 [S23_0 (L23_0 m m)]) = t23 m a0 a1 a2 := by kernel_rfl
theorem tells23 (m : Nat) (a0 : Int) (a1 : Int) (a2 : Int) {ys : List Un} (h : t23 m a0 a1 a2 = some ys) : TellsS Try.prog [] (ofTab TE) 23 N23 X23 [.i a0, .i a1, .i a2] ys :=
  tells_road KN_none T23_right (W := [S23_0 (L23_0 m m)]) (by kernel_rfl) (by kernel_rfl) (by kernel_rfl)
    (all1 (H23_0 m m) all0) ((G23 m a0 a1 a2).trans h)


def q23 : List Un → Option (Bool × List Un)
  | [.i a0, .i a1, .i a2] => some (decide (0 ≤ a0 ∧ a0 ≤ 1152921504606846976 ∧ 0 ≤ a1 ∧ a1 ≤ 1152921504606846976 ∧ 1 ≤ a2 ∧ a2 ≤ 1152921504606846976), [.i (a0 * a1 % a2)])
  | _ => none
def e23 : EntS := ⟨N23, X23, q23⟩

theorem spec23 (a0 : Int) (a1 : Int) (a2 : Int) (hc : (decide (0 ≤ a0 ∧ a0 ≤ 1152921504606846976 ∧ 0 ≤ a1 ∧ a1 ≤ 1152921504606846976 ∧ 1 ≤ a2 ∧ a2 ≤ 1152921504606846976)) = true) : ∃ m, t23 m a0 a1 a2 = some [.i (a0 * a1 % a2)] := by
  obtain ⟨g1, g2, g3, g4, g5, g6⟩ := of_decide_eq_true hc
  clear hc
  refine ⟨62, ?_⟩
  have key : ∀ (k : Nat) (r i : Int), k ≤ 61 → i = (k : Int) - 1 → r = a0 * (a1 / 2 ^ k) % a2 → L23_0 62 (k + 1) [.i a0, .i a1, .i a2, .i r, .i i] = some [.i (a0 * a1 % a2)] := by
    intro k
    induction k with
    | zero =>
      intro r i _ hi hr
      rw [L23_0_succ]; unfold L23_0s; dsimp only
      simp only [Int.pow_zero, Int.ediv_one] at hr
      rw [← hr]
      repeat' (first
        | with_reducible rfl
        | (with_reducible refine lt_i ?_; intro x hx; (try simp (disch := omega) only [wr, if_pos, if_neg, Int.sub_zero, Int.zero_add] at hx); (try simp only [min_if', max_if'] at hx); subst hx)
        | (with_reducible refine bif_t ?_ ?_; · ((try simp (disch := omega) only [wr, if_pos, if_neg]); (first | done | ((try simp only [min_if', max_if']); (first | done | ((try simp only [decide_eq_true_eq, decide_eq_false_iff_not, beq_iff_eq, beq_eq_false_iff_ne, bne_iff_ne, bne_eq_false_iff_eq, ne_eq, Bool.not_eq_true', Bool.not_eq_false', Decidable.not_not]) <;> omega))))))
        | (with_reducible refine bif_f ?_ ?_; · ((try simp (disch := omega) only [wr, if_pos, if_neg]); (first | done | ((try simp only [min_if', max_if']); (first | done | ((try simp only [decide_eq_true_eq, decide_eq_false_iff_not, beq_iff_eq, beq_eq_false_iff_ne, bne_iff_ne, bne_eq_false_iff_eq, ne_eq, Bool.not_eq_true', Bool.not_eq_false', Decidable.not_not]) <;> omega))))))
        | (with_reducible refine bif_s ?_ ?_ <;> (intro hc; (try simp (disch := omega) only [wr, if_pos, if_neg] at hc); (try simp only [min_if', max_if'] at hc); (try simp only [decide_eq_true_eq, decide_eq_false_iff_not, beq_iff_eq, beq_eq_false_iff_ne, bne_iff_ne, bne_eq_false_iff_eq, ne_eq, Bool.not_eq_true', Bool.not_eq_false', Decidable.not_not] at hc)))
        | fail "stuck")
    | succ k ih =>
      intro r i hk hi hr
      rw [L23_0_succ]; unfold L23_0s; dsimp only
      have i3 : min i.toNat 64 = k := by omega
      have i4 : ¬ a2 = 0 := by omega
      have hP' : (0 : Int) < 2 ^ k := Int.pow_pos (by decide)
      have hd0 : 0 ≤ a1 / 2 ^ k := Int.ediv_nonneg g3 (by omega)
      have hd1 : a1 / 2 ^ k ≤ a1 := Int.ediv_le_self _ g3
      have hr0 : 0 ≤ r := by rw [hr]; exact Int.emod_nonneg _ (by omega)
      have hr1 : r < a2 := by rw [hr]; exact Int.emod_lt_of_pos _ (by omega)
      have hm0 := Int.emod_nonneg a0 i4
      have hm1 := Int.emod_lt_of_pos a0 (show 0 < a2 by omega)
      have hph := pow_half a1 k
      have hc : (a1 / 2 ^ k) % 2 = 0 ∨ (a1 / 2 ^ k) % 2 = 1 := by omega
      obtain ⟨_, s2⟩ := md_step (q := a0 * (a1 / 2 ^ (k + 1)) / a2) (n := a0) (p := a2) (c := (a1 / 2 ^ k) % 2) (by omega) hc rfl hr
      rw [← hph] at s2
      have z0 := Int.emod_nonneg (2 * r) i4
      have z1 := Int.emod_lt_of_pos (2 * r) (show 0 < a2 by omega)
      rw [fd (by rw [i3]; omega), i3, and_one (by omega) (by omega), wr (n := a1 / 2 ^ k % 2) (by omega) (by omega)]
      rcases hc with hc | hc
      · rw [hc] at s2 ⊢
        simp only [Int.zero_mul, Int.add_zero] at s2
        repeat' (first
          | with_reducible rfl
          | (with_reducible refine lt_i ?_; intro x hx; (try simp (disch := omega) only [wr, if_pos, if_neg, Int.sub_zero, Int.zero_add, tm] at hx); (try simp only [min_if', max_if'] at hx); subst hx)
          | (with_reducible refine bif_t ?_ ?_; · ((try simp (disch := omega) only [wr, if_pos, if_neg, tm]); (first | done | ((try simp only [min_if', max_if']); (first | done | ((try simp only [decide_eq_true_eq, decide_eq_false_iff_not, beq_iff_eq, beq_eq_false_iff_ne, bne_iff_ne, bne_eq_false_iff_eq, ne_eq, Bool.not_eq_true', Bool.not_eq_false', Decidable.not_not]) <;> omega))))))
          | (with_reducible refine bif_f ?_ ?_; · ((try simp (disch := omega) only [wr, if_pos, if_neg, tm]); (first | done | ((try simp only [min_if', max_if']); (first | done | ((try simp only [decide_eq_true_eq, decide_eq_false_iff_not, beq_iff_eq, beq_eq_false_iff_ne, bne_iff_ne, bne_eq_false_iff_eq, ne_eq, Bool.not_eq_true', Bool.not_eq_false', Decidable.not_not]) <;> omega))))))
          | (with_reducible refine bif_s ?_ ?_ <;> (intro hc; (try simp (disch := omega) only [wr, if_pos, if_neg, tm] at hc); (try simp only [min_if', max_if'] at hc); (try simp only [decide_eq_true_eq, decide_eq_false_iff_not, beq_iff_eq, beq_eq_false_iff_ne, bne_iff_ne, bne_eq_false_iff_eq, ne_eq, Bool.not_eq_true', Bool.not_eq_false', Decidable.not_not] at hc)))
          | fail "stuck")
        simp (disch := omega) only [wr, tm]
        exact ih _ _ (by omega) (by omega) s2.symm
      · rw [hc] at s2 ⊢
        simp only [Int.one_mul] at s2
        repeat' (first
          | with_reducible rfl
          | (with_reducible refine lt_i ?_; intro x hx; (try simp (disch := omega) only [wr, if_pos, if_neg, Int.sub_zero, Int.zero_add, tm] at hx); (try simp only [min_if', max_if'] at hx); subst hx)
          | (with_reducible refine bif_t ?_ ?_; · ((try simp (disch := omega) only [wr, if_pos, if_neg, tm]); (first | done | ((try simp only [min_if', max_if']); (first | done | ((try simp only [decide_eq_true_eq, decide_eq_false_iff_not, beq_iff_eq, beq_eq_false_iff_ne, bne_iff_ne, bne_eq_false_iff_eq, ne_eq, Bool.not_eq_true', Bool.not_eq_false', Decidable.not_not]) <;> omega))))))
          | (with_reducible refine bif_f ?_ ?_; · ((try simp (disch := omega) only [wr, if_pos, if_neg, tm]); (first | done | ((try simp only [min_if', max_if']); (first | done | ((try simp only [decide_eq_true_eq, decide_eq_false_iff_not, beq_iff_eq, beq_eq_false_iff_ne, bne_iff_ne, bne_eq_false_iff_eq, ne_eq, Bool.not_eq_true', Bool.not_eq_false', Decidable.not_not]) <;> omega))))))
          | (with_reducible refine bif_s ?_ ?_ <;> (intro hc; (try simp (disch := omega) only [wr, if_pos, if_neg, tm] at hc); (try simp only [min_if', max_if'] at hc); (try simp only [decide_eq_true_eq, decide_eq_false_iff_not, beq_iff_eq, beq_eq_false_iff_ne, bne_iff_ne, bne_eq_false_iff_eq, ne_eq, Bool.not_eq_true', Bool.not_eq_false', Decidable.not_not] at hc)))
          | fail "stuck")
        simp (disch := omega) only [wr, tm]
        rw [Int.emod_add_emod]
        exact ih _ _ (by omega) (by omega) s2.symm
  have z : a1 / 2 ^ 61 = 0 := by omega
  exact key 61 0 60 (by omega) (by omega) (by rw [z]; simp)

theorem right23 : EntSRight Try.prog [] (ofTab TE) 23 e23 := by
  intro us ys h
  replace h : q23 us = some (true, ys) := h
  unfold q23 at h
  split at h
  · rename_i a0 a1 a2
    simp only [Option.some.injEq, Prod.mk.injEq] at h
    obtain ⟨hc, rfl⟩ := h
    obtain ⟨m, hm⟩ := spec23 a0 a1 a2 hc
    exact tells23 m a0 a1 a2 hm
  · cases h

theorem mdDown {n c p : Int} (h1 : 0 ≤ n) (h2 : n < p) (h3 : p ≤ 1152921504606846976) (h4 : 0 ≤ c) (h5 : c ≤ 1152921504606846976) : mdV n c p 0 = n * c / p ∧ mdOk n c p 0 = true ∧ 0 ≤ n * c / p ∧ n * c / p ≤ c := by
  have h : n * c / p ≤ c := by
    have : n * c ≤ p * c := Int.mul_le_mul_of_nonneg_right (by omega) h4
    exact Int.ediv_le_of_le_mul (by omega) (by rw [Int.mul_comm c p]; exact this)
  have ok : mdOk n c p 0 = true := by rw [md_ok h1 (by omega) h4 h5 (by omega) h3 (by omega) (by omega), mdQ0]; simp; omega
  exact ⟨by unfold mdV; rw [ok, mdQ0]; rfl, ok, Int.ediv_nonneg (Int.mul_nonneg h1 h4) (by omega), h⟩
theorem lost_eq {n c s q : Int} (hq : q = n * c / s) (h1 : 0 ≤ n) (h2 : 0 < s) (h3 : s ≤ 1152921504606846976) (h4 : 0 ≤ c) :
    IntKind.u64.wrap (IntKind.u64.wrap (IntKind.u64.wrap n * IntKind.u64.wrap c) - IntKind.u64.wrap (IntKind.u64.wrap q * IntKind.u64.wrap s)) = n * c % s := by
  simp only [wu_mod]
  rw [← Int.mul_emod, ← Int.mul_emod, ← Int.sub_emod]
  have e := Int.mul_ediv_add_emod (n * c) s
  have a := Int.emod_nonneg (n * c) (show s ≠ 0 by omega)
  have b := Int.emod_lt_of_pos (n * c) h2
  rw [← hq] at e
  rw [show n * c - q * s = n * c % s by rw [Int.mul_comm q s]; omega]
  exact Int.emod_eq_of_lt a (by omega)
def floors (n s : Int) (l : List Int) : List Int := l.map fun c => n * c / s
def rems (n s : Int) (l : List Int) : List Int := l.map fun c => n * c % s
theorem rightV_mem {l : List Int} : rightV l = true ↔ ∀ x ∈ l, 0 ≤ x ∧ x ≤ 1152921504606846976 := by simp [rightV]


/-! cascade/share.parts -/
def N20 : Pn := ⟨[.int .i64, .int .i64, .ints .i64], []⟩
def X20 : Pn := ⟨[.buf 0 1, .buf 1 1], [.ints .i64, .ints .u64]⟩
def L20_0s (m : Nat) (k : List Un → Option (List Un)) : List Un → Option (List Un)
  | [.i a0, .i a1, .l a2, .i a3, .i a4, .l a5, .l a6] =>
    bif decide (a4 < a3) then
     bif decide ((0 : Int) ≤ a4 ∧ a4 < (a2.length : Int)) then
      bif decide (a4.toNat < a2.length) then
       bif decide ((0 : Int) ≤ a4 ∧ a4 < (a5.length : Int)) then
        bif decide (a4.toNat < a5.length) then
         lt ((List.set a5 a4.toNat (mdV a0 (a2.getD a4.toNat 0) a1 0)) : List Int) fun l5 =>
         bif decide ((0 : Int) ≤ a4 ∧ a4 < (l5.length : Int)) then
          bif decide (a4.toNat < l5.length) then
           bif decide ((0 : Int) ≤ a4 ∧ a4 < (a6.length : Int)) then
            bif decide (a4.toNat < a6.length) then
             k [.i a0, .i a1, .l a2, .i a3, .i (IntKind.i64.wrap (a4 + 1)), .l l5, .l (List.set a6 a4.toNat (IntKind.u64.wrap ((IntKind.u64.wrap ((IntKind.u64.wrap a0) * (IntKind.u64.wrap (a2.getD a4.toNat 0)))) - (IntKind.u64.wrap ((IntKind.u64.wrap (l5.getD a4.toNat 0)) * (IntKind.u64.wrap a1))))))]
            else
             none
           else
            none
          else
           none
         else
          none
        else
         none
       else
        none
      else
       none
     else
      none
    else
     some [.l a5, .l a6]
  | _ => none
def L20_0 (m : Nat) : Nat → List Un → Option (List Un) := iterS (L20_0s m)
theorem L20_0_succ (m : Nat) (n : Nat) : L20_0 m (n + 1) = L20_0s m (L20_0 m n) := rfl
def P20_0 : Pn := ⟨[.int .i64, .int .i64, .any, .any, .any, .any, .any, .any, .buf 0 1, .buf 1 1, .any, .any, .any, .any, .any, .any, .any, .any, .ints .i64, .int .i64, .int .i64, .any, .any, .any, .any, .any, .any, .any, .any, .any, .any, .any, .any, .any, .any, .any, .any, .any, .any, .any, .any, .any, .any, .any, .any, .any, .any, .any, .any, .any, .any, .any, .any, .any, .any], [.ints .i64, .ints .u64]⟩
def S20_0 (F : List Un → Option (List Un)) : StopS := ⟨[.lp [0, 1, 0, 1, 1], .blk 0, .code [1, 1, 1]], P20_0, F⟩
def t20 (m : Nat) (a0 : Int) (a1 : Int) (a2 : List Int) : Option (List Un) :=
  bif decide (0 ≤ (a2.length : Int) ∧ 8 * (a2.length : Int) ≤ 140737488355328 ∧ (a2.length : Int) ≤ 9223372036854775807) then
   bif decide (0 ≤ (a2.length : Int) ∧ 8 * (a2.length : Int) ≤ 140737488355328 ∧ (a2.length : Int) ≤ 9223372036854775807) then
    L20_0 m m [.i a0, .i a1, .l a2, .i (a2.length : Int), .i 0, .l (List.replicate a2.length 0), .l (List.replicate a2.length 0)]
   else
    none
  else
   none
def T20 : TabS := tabS TE []
theorem T20_right : TabRight Try.prog [] (ofTab TE) T20 := tabS_right all0
theorem G20_0 (m : Nat) (k : List Un → Option (List Un)) (a0 : Int) (a1 : Int) (a2 : List Int) (a3 : Int) (a4 : Int) (a5 : List Int) (a6 : List Int) : roadFromS Try.prog [] T20 KN (bodyOf (fnOf Try.prog 20)) [0, 1, 0, 1, 1] [.blk 0, .code [1, 1, 1]] P20_0 [.i a0, .i a1, .l a2, .i a3, .i a4, .l a5, .l a6] (kksS Try.prog (fnOf Try.prog 20).results.toList X20 0 [S20_0 k]) = L20_0s m k [.i a0, .i a1, .l a2, .i a3, .i a4, .l a5, .l a6] := by kernel_rfl
theorem Y20_0 {m : Nat} {k : List Un → Option (List Un)} {xs : List Un} {v : List Un} (h : L20_0s m k xs = some v) : ∃ a0 a1 a2 a3 a4 a5 a6, xs = [.i a0, .i a1, .l a2, .i a3, .i a4, .l a5, .l a6] := by
  unfold L20_0s at h
  split at h
  · exact ⟨_, _, _, _, _, _, _, rfl⟩
  · cases h
theorem H20_0 (m : Nat) : ∀ n, HoldsS Try.prog [] (ofTab TE) (fnOf Try.prog 20).results.toList X20 0 (bodyOf (fnOf Try.prog 20)) (S20_0 (L20_0 m n)) :=
  StopS.iter KN_none T20_right (mk := S20_0) (Fs := L20_0s m) (W := fun k => [S20_0 k]) (p := [0, 1, 0, 1, 1]) (rest := [.blk 0, .code [1, 1, 1]]) (pat := P20_0)
    (fun _ => rfl) (fun _ => rfl) (fun _ => rfl) (by kernel_rfl) (by kernel_rfl)
    (fun k h => (all1 h all0))
    (fun k xs v h => by
      obtain ⟨a0, a1, a2, a3, a4, a5, a6, rfl⟩ := Y20_0 h
      exact (G20_0 m k a0 a1 a2 a3 a4 a5 a6).trans h)
theorem G20 (m : Nat) (a0 : Int) (a1 : Int) (a2 : List Int) : roadInS Try.prog [] T20 KN (fnOf Try.prog 20) N20 [.i a0, .i a1, .l a2] (kksS Try.prog (fnOf Try.prog 20).results.toList X20 0 [S20_0 (L20_0 m m)]) = t20 m a0 a1 a2 := by kernel_rfl
theorem tells20 (m : Nat) (a0 : Int) (a1 : Int) (a2 : List Int) {ys : List Un} (h : t20 m a0 a1 a2 = some ys) : TellsS Try.prog [] (ofTab TE) 20 N20 X20 [.i a0, .i a1, .l a2] ys :=
  tells_road KN_none T20_right (W := [S20_0 (L20_0 m m)]) (by kernel_rfl) (by kernel_rfl) (by kernel_rfl)
    (all1 (H20_0 m m) all0) ((G20 m a0 a1 a2).trans h)

theorem partsL20 (m : Nat) (a s : Int) (h1 : 0 ≤ a) (h2 : a < s) (h3 : s ≤ 1152921504606846976) : ∀ (rest pre d1 d2 : List Int) (n : Nat), rest.length < n → d1.length = pre.length → d2.length = pre.length → (∀ x ∈ rest, 0 ≤ x ∧ x ≤ 1152921504606846976) → (pre ++ rest).length < 1099511627776 →
    L20_0 m n [.i a, .i s, .l (pre ++ rest), .i ((pre ++ rest).length : Int), .i (pre.length : Int), .l (d1 ++ List.replicate rest.length 0), .l (d2 ++ List.replicate rest.length 0)] = some [.l (d1 ++ floors a s rest), .l (d2 ++ rems a s rest)] := by
  intro rest
  induction rest with
  | nil =>
    intro pre d1 d2 n hn p1 p2 hb h4
    obtain ⟨n, rfl⟩ := one_more n (by simp at hn; omega)
    rw [L20_0_succ]; unfold L20_0s; dsimp only
    simp only [List.append_nil, List.length_nil, List.replicate_zero] at h4 ⊢
    repeat' (first
      | with_reducible rfl
      | (with_reducible refine lt_i ?_; intro x hx; (try simp (disch := omega) only [wr, if_pos, if_neg, Int.sub_zero, Int.zero_add, set_mid2 _ _ _ _ _ p1, getD_mid2 _ _ _ _ _ p1, set_mid2 _ _ _ _ _ p2, getD_mid2 _ _ _ _ _ p2, getD_mid, List.length_append, List.length_cons, List.length_nil, List.length_replicate, List.length_take, List.length_drop, Int.natCast_add, Int.toNat_natCast] at hx); (try simp only [min_if', max_if'] at hx); subst hx)
      | (with_reducible refine bif_t ?_ ?_; · ((try simp (disch := omega) only [wr, if_pos, if_neg, set_mid2 _ _ _ _ _ p1, getD_mid2 _ _ _ _ _ p1, set_mid2 _ _ _ _ _ p2, getD_mid2 _ _ _ _ _ p2, getD_mid, List.length_append, List.length_cons, List.length_nil, List.length_replicate, List.length_take, List.length_drop, Int.natCast_add, Int.toNat_natCast]); (first | done | ((try simp only [min_if', max_if']); (first | done | ((try simp only [Bool.true_and, Bool.and_true, Bool.and_eq_true, Bool.and_eq_false_iff, Bool.or_eq_true, Bool.or_eq_false_iff, true_and, and_true, decide_eq_true_eq, decide_eq_false_iff_not, beq_iff_eq, beq_eq_false_iff_ne, bne_iff_ne, bne_eq_false_iff_eq, ne_eq, Bool.not_eq_true', Bool.not_eq_false', Decidable.not_not]) <;> omega))))))
      | (with_reducible refine bif_f ?_ ?_; · ((try simp (disch := omega) only [wr, if_pos, if_neg, set_mid2 _ _ _ _ _ p1, getD_mid2 _ _ _ _ _ p1, set_mid2 _ _ _ _ _ p2, getD_mid2 _ _ _ _ _ p2, getD_mid, List.length_append, List.length_cons, List.length_nil, List.length_replicate, List.length_take, List.length_drop, Int.natCast_add, Int.toNat_natCast]); (first | done | ((try simp only [min_if', max_if']); (first | done | ((try simp only [Bool.true_and, Bool.and_true, Bool.and_eq_true, Bool.and_eq_false_iff, Bool.or_eq_true, Bool.or_eq_false_iff, true_and, and_true, decide_eq_true_eq, decide_eq_false_iff_not, beq_iff_eq, beq_eq_false_iff_ne, bne_iff_ne, bne_eq_false_iff_eq, ne_eq, Bool.not_eq_true', Bool.not_eq_false', Decidable.not_not]) <;> omega))))))
      | (with_reducible refine bif_s ?_ ?_ <;> (intro hc; (try simp (disch := omega) only [wr, if_pos, if_neg, set_mid2 _ _ _ _ _ p1, getD_mid2 _ _ _ _ _ p1, set_mid2 _ _ _ _ _ p2, getD_mid2 _ _ _ _ _ p2, getD_mid, List.length_append, List.length_cons, List.length_nil, List.length_replicate, List.length_take, List.length_drop, Int.natCast_add, Int.toNat_natCast] at hc); (try simp only [min_if', max_if'] at hc); (try simp only [Bool.true_and, Bool.and_true, Bool.and_eq_true, Bool.and_eq_false_iff, Bool.or_eq_true, Bool.or_eq_false_iff, true_and, and_true, decide_eq_true_eq, decide_eq_false_iff_not, beq_iff_eq, beq_eq_false_iff_ne, bne_iff_ne, bne_eq_false_iff_eq, ne_eq, Bool.not_eq_true', Bool.not_eq_false', Decidable.not_not] at hc)))
      | fail "stuck")
    simp [floors, rems]
  | cons x rest ih =>
    intro pre d1 d2 n hn p1 p2 hb h4
    obtain ⟨n, rfl⟩ := one_more n (by simp at hn; omega)
    simp only [List.length_append, List.length_cons] at h4 hn
    rw [L20_0_succ]; unfold L20_0s; dsimp only
    simp only [List.length_cons, List.replicate_succ]
    have hx := hb x (by simp)
    obtain ⟨e1, _, _, _⟩ := mdDown h1 h2 h3 hx.1 hx.2
    have := ih (pre ++ [x]) (d1 ++ [a * x / s]) (d2 ++ [a * x % s]) n (by omega) (by simp; omega) (by simp; omega) (fun y hy => hb y (by simp [hy])) (by simp; omega)
    simp only [List.append_assoc, List.cons_append, List.nil_append, List.length_append, List.length_cons, List.length_nil, Int.natCast_add] at this
    repeat' (first
      | with_reducible rfl
      | (with_reducible refine lt_i ?_; intro x hx; (try simp (disch := omega) only [wr, if_pos, if_neg, Int.sub_zero, Int.zero_add, set_mid2 _ _ _ _ _ p1, getD_mid2 _ _ _ _ _ p1, set_mid2 _ _ _ _ _ p2, getD_mid2 _ _ _ _ _ p2, getD_mid, List.length_append, List.length_cons, List.length_nil, List.length_replicate, List.length_take, List.length_drop, Int.natCast_add, Int.toNat_natCast] at hx); (try simp only [min_if', max_if'] at hx); subst hx)
      | (with_reducible refine bif_t ?_ ?_; · ((try simp (disch := omega) only [wr, if_pos, if_neg, set_mid2 _ _ _ _ _ p1, getD_mid2 _ _ _ _ _ p1, set_mid2 _ _ _ _ _ p2, getD_mid2 _ _ _ _ _ p2, getD_mid, List.length_append, List.length_cons, List.length_nil, List.length_replicate, List.length_take, List.length_drop, Int.natCast_add, Int.toNat_natCast]); (first | done | ((try simp only [min_if', max_if']); (first | done | ((try simp only [Bool.true_and, Bool.and_true, Bool.and_eq_true, Bool.and_eq_false_iff, Bool.or_eq_true, Bool.or_eq_false_iff, true_and, and_true, decide_eq_true_eq, decide_eq_false_iff_not, beq_iff_eq, beq_eq_false_iff_ne, bne_iff_ne, bne_eq_false_iff_eq, ne_eq, Bool.not_eq_true', Bool.not_eq_false', Decidable.not_not]) <;> omega))))))
      | (with_reducible refine bif_f ?_ ?_; · ((try simp (disch := omega) only [wr, if_pos, if_neg, set_mid2 _ _ _ _ _ p1, getD_mid2 _ _ _ _ _ p1, set_mid2 _ _ _ _ _ p2, getD_mid2 _ _ _ _ _ p2, getD_mid, List.length_append, List.length_cons, List.length_nil, List.length_replicate, List.length_take, List.length_drop, Int.natCast_add, Int.toNat_natCast]); (first | done | ((try simp only [min_if', max_if']); (first | done | ((try simp only [Bool.true_and, Bool.and_true, Bool.and_eq_true, Bool.and_eq_false_iff, Bool.or_eq_true, Bool.or_eq_false_iff, true_and, and_true, decide_eq_true_eq, decide_eq_false_iff_not, beq_iff_eq, beq_eq_false_iff_ne, bne_iff_ne, bne_eq_false_iff_eq, ne_eq, Bool.not_eq_true', Bool.not_eq_false', Decidable.not_not]) <;> omega))))))
      | (with_reducible refine bif_s ?_ ?_ <;> (intro hc; (try simp (disch := omega) only [wr, if_pos, if_neg, set_mid2 _ _ _ _ _ p1, getD_mid2 _ _ _ _ _ p1, set_mid2 _ _ _ _ _ p2, getD_mid2 _ _ _ _ _ p2, getD_mid, List.length_append, List.length_cons, List.length_nil, List.length_replicate, List.length_take, List.length_drop, Int.natCast_add, Int.toNat_natCast] at hc); (try simp only [min_if', max_if'] at hc); (try simp only [Bool.true_and, Bool.and_true, Bool.and_eq_true, Bool.and_eq_false_iff, Bool.or_eq_true, Bool.or_eq_false_iff, true_and, and_true, decide_eq_true_eq, decide_eq_false_iff_not, beq_iff_eq, beq_eq_false_iff_ne, bne_iff_ne, bne_eq_false_iff_eq, ne_eq, Bool.not_eq_true', Bool.not_eq_false', Decidable.not_not] at hc)))
      | fail "stuck")
    have le := lost_eq (n := a) (c := x) (s := s) rfl h1 (by omega) h3 hx.1
    simp (disch := omega) only [wr, e1, set_mid2 _ _ _ _ _ p1, getD_mid2 _ _ _ _ _ p1, set_mid2 _ _ _ _ _ p2, getD_mid, Int.toNat_natCast, List.length_append, List.length_cons, List.length_nil, Int.natCast_add] at this ⊢
    rw [le]
    refine this.trans ?_
    simp [floors, rems]

def q20 : List Un → Option (Bool × List Un)
  | [.i a0, .i a1, .l a2] => some (decide (0 ≤ a0 ∧ a0 < a1 ∧ a1 ≤ 1152921504606846976 ∧ a2.length < 1099511627776) && rightV a2, [.l (floors a0 a1 a2), .l (rems a0 a1 a2)])
  | _ => none
def e20 : EntS := ⟨N20, X20, q20⟩

theorem spec20 (a0 : Int) (a1 : Int) (a2 : List Int) (hc : (decide (0 ≤ a0 ∧ a0 < a1 ∧ a1 ≤ 1152921504606846976 ∧ a2.length < 1099511627776) && rightV a2) = true) : ∃ m, t20 m a0 a1 a2 = some [.l (floors a0 a1 a2), .l (rems a0 a1 a2)] := by
  simp only [Bool.and_eq_true, decide_eq_true_eq, rightV_mem] at hc
  obtain ⟨⟨h1, h2, h3, h4⟩, hb⟩ := hc
  refine ⟨a2.length + 1, ?_⟩
  unfold t20
  repeat' (first
    | with_reducible rfl
    | (with_reducible refine lt_i ?_; intro x hx; (try simp (disch := omega) only [wr, if_pos, if_neg, Int.sub_zero, Int.zero_add, List.length_append, List.length_cons, List.length_nil, List.length_replicate, List.length_take, List.length_drop, Int.natCast_add, Int.toNat_natCast] at hx); (try simp only [min_if', max_if'] at hx); subst hx)
    | (with_reducible refine bif_t ?_ ?_; · ((try simp (disch := omega) only [wr, if_pos, if_neg, List.length_append, List.length_cons, List.length_nil, List.length_replicate, List.length_take, List.length_drop, Int.natCast_add, Int.toNat_natCast]); (first | done | ((try simp only [min_if', max_if']); (first | done | ((try simp only [Bool.true_and, Bool.and_true, Bool.and_eq_true, Bool.and_eq_false_iff, Bool.or_eq_true, Bool.or_eq_false_iff, true_and, and_true, decide_eq_true_eq, decide_eq_false_iff_not, beq_iff_eq, beq_eq_false_iff_ne, bne_iff_ne, bne_eq_false_iff_eq, ne_eq, Bool.not_eq_true', Bool.not_eq_false', Decidable.not_not]) <;> omega))))))
    | (with_reducible refine bif_f ?_ ?_; · ((try simp (disch := omega) only [wr, if_pos, if_neg, List.length_append, List.length_cons, List.length_nil, List.length_replicate, List.length_take, List.length_drop, Int.natCast_add, Int.toNat_natCast]); (first | done | ((try simp only [min_if', max_if']); (first | done | ((try simp only [Bool.true_and, Bool.and_true, Bool.and_eq_true, Bool.and_eq_false_iff, Bool.or_eq_true, Bool.or_eq_false_iff, true_and, and_true, decide_eq_true_eq, decide_eq_false_iff_not, beq_iff_eq, beq_eq_false_iff_ne, bne_iff_ne, bne_eq_false_iff_eq, ne_eq, Bool.not_eq_true', Bool.not_eq_false', Decidable.not_not]) <;> omega))))))
    | (with_reducible refine bif_s ?_ ?_ <;> (intro hc; (try simp (disch := omega) only [wr, if_pos, if_neg, List.length_append, List.length_cons, List.length_nil, List.length_replicate, List.length_take, List.length_drop, Int.natCast_add, Int.toNat_natCast] at hc); (try simp only [min_if', max_if'] at hc); (try simp only [Bool.true_and, Bool.and_true, Bool.and_eq_true, Bool.and_eq_false_iff, Bool.or_eq_true, Bool.or_eq_false_iff, true_and, and_true, decide_eq_true_eq, decide_eq_false_iff_not, beq_iff_eq, beq_eq_false_iff_ne, bne_iff_ne, bne_eq_false_iff_eq, ne_eq, Bool.not_eq_true', Bool.not_eq_false', Decidable.not_not] at hc)))
    | fail "stuck")
  exact partsL20 (a2.length + 1) a0 a1 h1 h2 h3 a2 [] [] [] (a2.length + 1) (by omega) rfl rfl hb (by simpa using h4)

theorem right20 : EntSRight Try.prog [] (ofTab TE) 20 e20 := by
  intro us ys h
  replace h : q20 us = some (true, ys) := h
  unfold q20 at h
  split at h
  · rename_i a0 a1 a2
    simp only [Option.some.injEq, Prod.mk.injEq] at h
    obtain ⟨hc, rfl⟩ := h
    obtain ⟨m, hm⟩ := spec20 a0 a1 a2 hc
    exact tells20 m a0 a1 a2 hm
  · cases h

/-- The first of the greatest: where it is. -/
def bestF (l : List Int) : List Int → Nat → Nat → Nat
  | [], _, b => b
  | x :: r, i, b => bestF l r (i + 1) (bif decide (x > l.getD b 0) then i else b)
def bestOf (l : List Int) : Nat := bestF l l 0 0
def dealZ (z : Int) : Nat → List Int → List Int → List Int
  | 0, o, _ => o
  | k + 1, o, l => dealZ z k (o.set (bestOf l) (o.getD (bestOf l) 0 + 1)) (l.set (bestOf l) z)
/-- Shares by weight. -/
def proV (n : Int) (l : List Int) : List Int :=
  bif !(sumOk l) then List.replicate l.length 0 else
  bif decide (max n 0 ≥ sumV l) then l else
  dealZ 0 (max n 0 - (floors (max n 0) (sumV l) l).sum).toNat (floors (max n 0) (sumV l) l) (rems (max n 0) (sumV l) l)
theorem bestF_lt (l : List Int) : ∀ (r : List Int) (i b : Nat), b < l.length → i + r.length ≤ l.length → bestF l r i b < l.length
  | [], _, b, h, _ => h
  | x :: r, i, b, h, h2 => by
    simp only [List.length_cons] at h2
    unfold bestF
    refine bestF_lt l r (i + 1) _ ?_ (by omega)
    cases decide (x > l.getD b 0)
    · exact h
    · show i < l.length; omega
theorem bestOf_lt {l : List Int} (h : l ≠ []) : bestOf l < l.length := bestF_lt l l 0 0 (List.length_pos_iff.2 h) (by simp)
theorem sumF_inv : ∀ (l : List Int) (s : Int), 0 ≤ s → s ≤ 1152921504606846976 → (sumF l s).2 = true → (∀ x ∈ l, 0 ≤ x ∧ x ≤ 1152921504606846976) ∧ (sumF l s).1 = s + l.sum ∧ s + l.sum ≤ 1152921504606846976
  | [], s, h1, h2, _ => by simp [sumF, h2]
  | x :: l, s, h1, h2, h3 => by
    simp only [sumF] at h3 ⊢
    by_cases hx : x < 0 ∨ x > 1152921504606846976 - s
    · rw [show (decide (x < 0) || decide (x > 1152921504606846976 - s)) = true by simpa using hx] at h3
      cases h3
    · rw [show (decide (x < 0) || decide (x > 1152921504606846976 - s)) = false by simp; omega] at h3 ⊢
      simp only [cond_false] at h3 ⊢
      obtain ⟨a, b, c⟩ := sumF_inv l (s + x) (by omega) (by omega) h3
      refine ⟨fun y hy => ?_, by rw [b, List.sum_cons]; omega, by rw [List.sum_cons]; omega⟩
      rcases List.mem_cons.1 hy with rfl | hy
      · omega
      · exact a y hy
theorem sumOk_inv {l : List Int} (h : sumOk l = true) : (∀ x ∈ l, 0 ≤ x ∧ x ≤ 1152921504606846976) ∧ sumV l = l.sum ∧ l.sum ≤ 1152921504606846976 := by
  obtain ⟨a, b, c⟩ := sumF_inv l 0 (by omega) (by omega) h
  exact ⟨a, by unfold sumV; omega, by omega⟩
theorem sum_nonneg : ∀ (l : List Int), (∀ x ∈ l, 0 ≤ x) → 0 ≤ l.sum
  | [], _ => by simp
  | x :: l, h => by
    have := h x (by simp)
    have := sum_nonneg l (fun y hy => h y (by simp [hy]))
    rw [List.sum_cons]; omega
theorem sum_le_sum {f g : Int → Int} : ∀ (l : List Int), (∀ x ∈ l, f x ≤ g x) → (l.map f).sum ≤ (l.map g).sum
  | [], _ => by simp
  | x :: l, h => by
    have := h x (by simp)
    have := sum_le_sum l (fun y hy => h y (by simp [hy]))
    simp only [List.map_cons, List.sum_cons]; omega
theorem floors_bound {n s : Int} {l : List Int} (h1 : 0 ≤ n) (h2 : n < s) (hb : ∀ x ∈ l, 0 ≤ x ∧ x ≤ 1152921504606846976) : (∀ y ∈ floors n s l, 0 ≤ y ∧ y ≤ 1152921504606846976) ∧ 0 ≤ (floors n s l).sum ∧ (floors n s l).sum ≤ l.sum := by
  have e : ∀ x ∈ l, 0 ≤ n * x / s ∧ n * x / s ≤ x := fun x hx => by
    have hx := hb x hx
    refine ⟨Int.ediv_nonneg (Int.mul_nonneg h1 hx.1) (by omega), ?_⟩
    have : n * x ≤ s * x := Int.mul_le_mul_of_nonneg_right (by omega) hx.1
    exact Int.ediv_le_of_le_mul (by omega) (by rw [Int.mul_comm x s]; exact this)
  have a : ∀ y ∈ floors n s l, 0 ≤ y ∧ y ≤ 1152921504606846976 := by
    intro y hy
    obtain ⟨x, hx, rfl⟩ := List.mem_map.1 hy
    have := e x hx; have := hb x hx
    omega
  refine ⟨a, sum_nonneg _ (fun y hy => (a y hy).1), ?_⟩
  have := sum_le_sum (f := fun c => n * c / s) (g := id) l (fun x hx => (e x hx).2)
  simpa [floors] using this
theorem getD_mem {l : List Int} {i : Nat} (h : i < l.length) : l.getD i 0 ∈ l := by
  rw [List.getD_eq_getElem?_getD, List.getElem?_eq_getElem h]; exact List.getElem_mem h


/-! cascade/share.Pro -/
def N11 : Pn := ⟨[.int .i64, .ints .i64], []⟩
def X11 : Pn := ⟨[.buf 0 1], [.ints .i64]⟩
def L11_2s (m : Nat) (k1 : List Un → Option (List Un)) (k : List Un → Option (List Un)) : List Un → Option (List Un)
  | [.i a0, .i a1, .i a2, .i a3, .l a4, .l a5] =>
    bif decide (a3 < a2) then
     bif decide ((0 : Int) ≤ a3 ∧ a3 < (a5.length : Int)) then
      bif decide (a3.toNat < a5.length) then
       bif decide ((0 : Int) ≤ a1 ∧ a1 < (a5.length : Int)) then
        bif decide (a1.toNat < a5.length) then
         bif (decide ((a5.getD a3.toNat 0) > (a5.getD a1.toNat 0))) then
          k [.i a0, .i a3, .i a2, .i (IntKind.i64.wrap (a3 + 1)), .l a4, .l a5]
         else
          k [.i a0, .i a1, .i a2, .i (IntKind.i64.wrap (a3 + 1)), .l a4, .l a5]
        else
         none
       else
        none
      else
       none
     else
      none
    else
     bif decide ((0 : Int) ≤ a1 ∧ a1 < (a4.length : Int)) then
      bif decide (a1.toNat < a4.length) then
       bif decide ((0 : Int) ≤ a1 ∧ a1 < (a4.length : Int)) then
        bif decide (a1.toNat < a4.length) then
         bif decide ((0 : Int) ≤ a1 ∧ a1 < (a5.length : Int)) then
          bif decide (a1.toNat < a5.length) then
           k1 [.i (IntKind.i64.wrap (a0 - 1)), .l (List.set a4 a1.toNat (IntKind.i64.wrap ((a4.getD a1.toNat 0) + 1))), .l (List.set a5 a1.toNat 0)]
          else
           none
         else
          none
        else
         none
       else
        none
      else
       none
     else
      none
  | _ => none
def L11_2 (m : Nat) (k1 : List Un → Option (List Un)) : Nat → List Un → Option (List Un) := iterS (L11_2s m k1)
theorem L11_2_succ (m : Nat) (k1 : List Un → Option (List Un)) (n : Nat) : L11_2 m k1 (n + 1) = L11_2s m k1 (L11_2 m k1 n) := rfl
def P11_2 : Pn := ⟨[.any, .any, .any, .any, .any, .any, .any, .buf 0 1, .buf 1 1, .int .i64, .any, .any, .int .i64, .any, .any, .any, .any, .any, .any, .any, .any, .any, .any, .any, .any, .any, .any, .any, .any, .any, .any, .any, .any, .any, .any, .any, .any, .any, .any, .any, .any, .any, .any, .any, .any, .any, .any, .any, .any, .any, .any, .any, .any, .any, .any, .int .i64, .int .i64, .any, .any, .any, .any, .any, .any, .any, .any, .any, .any, .any, .any, .any, .any, .any, .any, .any, .any, .any, .any, .any, .any, .any], [.ints .i64, .ints .u64]⟩
def S11_2 (F : List Un → Option (List Un)) : StopS := ⟨[.lp [0, 1, 0, 1, 0, 0, 1, 0, 0, 0, 1, 1, 1, 1, 1, 1, 1, 1], .blk 4, .code [1, 1, 0, 0, 1, 0, 0, 0, 1, 1, 1, 1, 1, 1, 1, 1], .blk 3, .code [1, 1, 0, 0, 0, 1, 1, 1, 1, 1, 1, 1, 1], .lp [0, 0, 1, 1, 1, 1, 1, 1, 1, 1], .blk 2, .code [1, 1, 1, 1, 1, 1, 1, 1, 1]], P11_2, F⟩
def L11_1s (m : Nat) (k : List Un → Option (List Un)) : List Un → Option (List Un)
  | [.i a0, .l a1, .l a2] =>
    bif decide (a0 > 0) then
     L11_2 m k m [.i a0, .i 0, .i (a2.length : Int), .i 0, .l a1, .l a2]
    else
     some [.l a1]
  | _ => none
def L11_1 (m : Nat) : Nat → List Un → Option (List Un) := iterS (L11_1s m)
theorem L11_1_succ (m : Nat) (n : Nat) : L11_1 m (n + 1) = L11_1s m (L11_1 m n) := rfl
def P11_1 : Pn := ⟨[.any, .any, .any, .any, .any, .any, .any, .buf 0 1, .buf 1 1, .int .i64, .any, .any, .any, .any, .any, .any, .any, .any, .any, .any, .any, .any, .any, .any, .any, .any, .any, .any, .any, .any, .any, .any, .any, .any, .any, .any, .any, .any, .any, .any, .any, .any, .any, .any, .any, .any, .any, .any, .any, .any, .any, .any, .any, .any, .any, .any, .any, .any, .any, .any, .any, .any, .any, .any, .any, .any, .any, .any, .any, .any, .any, .any, .any, .any, .any, .any, .any, .any, .any, .any], [.ints .i64, .ints .u64]⟩
def S11_1 (F : List Un → Option (List Un)) : StopS := ⟨[.lp [0, 0, 1, 1, 1, 1, 1, 1, 1, 1], .blk 2, .code [1, 1, 1, 1, 1, 1, 1, 1, 1]], P11_1, F⟩
def L11_0s (m : Nat) (k : List Un → Option (List Un)) : List Un → Option (List Un)
  | [.i a0, .i a1, .i a2, .l a3, .l a4] =>
    bif decide (a2 < a1) then
     bif decide ((0 : Int) ≤ a2 ∧ a2 < (a3.length : Int)) then
      bif decide (a2.toNat < a3.length) then
       k [.i (IntKind.i64.wrap (a0 - (a3.getD a2.toNat 0))), .i a1, .i (IntKind.i64.wrap (a2 + 1)), .l a3, .l a4]
      else
       none
     else
      none
    else
     L11_1 m m [.i a0, .l a3, .l a4]
  | _ => none
def L11_0 (m : Nat) : Nat → List Un → Option (List Un) := iterS (L11_0s m)
theorem L11_0_succ (m : Nat) (n : Nat) : L11_0 m (n + 1) = L11_0s m (L11_0 m n) := rfl
def P11_0 : Pn := ⟨[.any, .any, .any, .any, .any, .any, .any, .buf 0 1, .buf 1 1, .int .i64, .any, .any, .any, .any, .any, .any, .any, .any, .any, .any, .any, .any, .any, .any, .any, .any, .any, .any, .any, .any, .any, .any, .any, .any, .any, .any, .any, .any, .any, .any, .buf 0 1, .int .i64, .int .i64, .any, .any, .any, .any, .any, .any, .any, .any, .any, .any, .any, .any, .any, .any, .any, .any, .any, .any, .any, .any, .any, .any, .any, .any, .any, .any, .any, .any, .any, .any, .any, .any, .any, .any, .any, .any, .any], [.ints .i64, .ints .u64]⟩
def S11_0 (F : List Un → Option (List Un)) : StopS := ⟨[.lp [0, 1, 0, 1, 1, 1, 1, 1, 1, 1], .blk 0, .code [1, 1, 1, 1, 1, 1, 1, 1]], P11_0, F⟩
def t11 (m : Nat) (a0 : Int) (a1 : List Int) : Option (List Un) :=
  bif decide (a1.length < 1099511627776) then
   bif !(sumOk a1) then
    bif decide (0 ≤ (a1.length : Int) ∧ 8 * (a1.length : Int) ≤ 140737488355328 ∧ (a1.length : Int) ≤ 9223372036854775807) then
     some [.l (List.replicate a1.length 0)]
    else
     none
   else
    lt ((if a0 < 0 then 0 else a0) : Int) fun x2 =>
    bif decide (x2 ≥ (sumV a1)) then
     bif decide ((0 + a1.length) < 1099511627776 ∧ (0 + a1.length) * 8 < 35184372088832) then
      some [.l a1]
     else
      none
    else
     bif decide (0 ≤ x2 ∧ x2 < (sumV a1) ∧ (sumV a1) ≤ 1152921504606846976 ∧ a1.length < 1099511627776) && rightV a1 then
      lt ((floors x2 (sumV a1) a1) : List Int) fun l3 =>
      L11_0 m m [.i x2, .i (l3.length : Int), .i 0, .l l3, .l (rems x2 (sumV a1) a1)]
     else
      none
  else
   none
def T11 : TabS := tabS TE [(18, e18), (20, e20)]
theorem T11_right : TabRight Try.prog [] (ofTab TE) T11 := tabS_right (all1 right18 (all1 right20 all0))
theorem G11_2 (m : Nat) (k1 : List Un → Option (List Un)) (k : List Un → Option (List Un)) (a0 : Int) (a1 : Int) (a2 : Int) (a3 : Int) (a4 : List Int) (a5 : List Int) : roadFromS Try.prog [] T11 KN (bodyOf (fnOf Try.prog 11)) [0, 1, 0, 1, 0, 0, 1, 0, 0, 0, 1, 1, 1, 1, 1, 1, 1, 1] [.blk 4, .code [1, 1, 0, 0, 1, 0, 0, 0, 1, 1, 1, 1, 1, 1, 1, 1], .blk 3, .code [1, 1, 0, 0, 0, 1, 1, 1, 1, 1, 1, 1, 1], .lp [0, 0, 1, 1, 1, 1, 1, 1, 1, 1], .blk 2, .code [1, 1, 1, 1, 1, 1, 1, 1, 1]] P11_2 [.i a0, .i a1, .i a2, .i a3, .l a4, .l a5] (kksS Try.prog (fnOf Try.prog 11).results.toList X11 0 [S11_1 k1, S11_2 k]) = L11_2s m k1 k [.i a0, .i a1, .i a2, .i a3, .l a4, .l a5] := by kernel_rfl
theorem Y11_2 {m : Nat} {k1 : List Un → Option (List Un)} {k : List Un → Option (List Un)} {xs : List Un} {v : List Un} (h : L11_2s m k1 k xs = some v) : ∃ a0 a1 a2 a3 a4 a5, xs = [.i a0, .i a1, .i a2, .i a3, .l a4, .l a5] := by
  unfold L11_2s at h
  split at h
  · exact ⟨_, _, _, _, _, _, rfl⟩
  · cases h
theorem H11_2 (m : Nat) (k1 : List Un → Option (List Un)) (h1 : HoldsS Try.prog [] (ofTab TE) (fnOf Try.prog 11).results.toList X11 0 (bodyOf (fnOf Try.prog 11)) (S11_1 k1)) : ∀ n, HoldsS Try.prog [] (ofTab TE) (fnOf Try.prog 11).results.toList X11 0 (bodyOf (fnOf Try.prog 11)) (S11_2 (L11_2 m k1 n)) :=
  StopS.iter KN_none T11_right (mk := S11_2) (Fs := L11_2s m k1) (W := fun k => [S11_1 k1, S11_2 k]) (p := [0, 1, 0, 1, 0, 0, 1, 0, 0, 0, 1, 1, 1, 1, 1, 1, 1, 1]) (rest := [.blk 4, .code [1, 1, 0, 0, 1, 0, 0, 0, 1, 1, 1, 1, 1, 1, 1, 1], .blk 3, .code [1, 1, 0, 0, 0, 1, 1, 1, 1, 1, 1, 1, 1], .lp [0, 0, 1, 1, 1, 1, 1, 1, 1, 1], .blk 2, .code [1, 1, 1, 1, 1, 1, 1, 1, 1]]) (pat := P11_2)
    (fun _ => rfl) (fun _ => rfl) (fun _ => rfl) (by kernel_rfl) (by kernel_rfl)
    (fun k h => (all1 h1 (all1 h all0)))
    (fun k xs v h => by
      obtain ⟨a0, a1, a2, a3, a4, a5, rfl⟩ := Y11_2 h
      exact (G11_2 m k1 k a0 a1 a2 a3 a4 a5).trans h)
theorem G11_1 (m : Nat) (k : List Un → Option (List Un)) (a0 : Int) (a1 : List Int) (a2 : List Int) : roadFromS Try.prog [] T11 KN (bodyOf (fnOf Try.prog 11)) [0, 0, 1, 1, 1, 1, 1, 1, 1, 1] [.blk 2, .code [1, 1, 1, 1, 1, 1, 1, 1, 1]] P11_1 [.i a0, .l a1, .l a2] (kksS Try.prog (fnOf Try.prog 11).results.toList X11 0 [S11_2 (L11_2 m (k) m)]) = L11_1s m k [.i a0, .l a1, .l a2] := by kernel_rfl
theorem Y11_1 {m : Nat} {k : List Un → Option (List Un)} {xs : List Un} {v : List Un} (h : L11_1s m k xs = some v) : ∃ a0 a1 a2, xs = [.i a0, .l a1, .l a2] := by
  unfold L11_1s at h
  split at h
  · exact ⟨_, _, _, rfl⟩
  · cases h
theorem H11_1 (m : Nat) : ∀ n, HoldsS Try.prog [] (ofTab TE) (fnOf Try.prog 11).results.toList X11 0 (bodyOf (fnOf Try.prog 11)) (S11_1 (L11_1 m n)) :=
  StopS.iter KN_none T11_right (mk := S11_1) (Fs := L11_1s m) (W := fun k => [S11_2 (L11_2 m (k) m)]) (p := [0, 0, 1, 1, 1, 1, 1, 1, 1, 1]) (rest := [.blk 2, .code [1, 1, 1, 1, 1, 1, 1, 1, 1]]) (pat := P11_1)
    (fun _ => rfl) (fun _ => rfl) (fun _ => rfl) (by kernel_rfl) (by kernel_rfl)
    (fun k h => (all1 (H11_2 m _ h m) all0))
    (fun k xs v h => by
      obtain ⟨a0, a1, a2, rfl⟩ := Y11_1 h
      exact (G11_1 m k a0 a1 a2).trans h)
theorem G11_0 (m : Nat) (k : List Un → Option (List Un)) (a0 : Int) (a1 : Int) (a2 : Int) (a3 : List Int) (a4 : List Int) : roadFromS Try.prog [] T11 KN (bodyOf (fnOf Try.prog 11)) [0, 1, 0, 1, 1, 1, 1, 1, 1, 1] [.blk 0, .code [1, 1, 1, 1, 1, 1, 1, 1]] P11_0 [.i a0, .i a1, .i a2, .l a3, .l a4] (kksS Try.prog (fnOf Try.prog 11).results.toList X11 0 [S11_0 k, S11_1 (L11_1 m m)]) = L11_0s m k [.i a0, .i a1, .i a2, .l a3, .l a4] := by kernel_rfl
theorem Y11_0 {m : Nat} {k : List Un → Option (List Un)} {xs : List Un} {v : List Un} (h : L11_0s m k xs = some v) : ∃ a0 a1 a2 a3 a4, xs = [.i a0, .i a1, .i a2, .l a3, .l a4] := by
  unfold L11_0s at h
  split at h
  · exact ⟨_, _, _, _, _, rfl⟩
  · cases h
theorem H11_0 (m : Nat) : ∀ n, HoldsS Try.prog [] (ofTab TE) (fnOf Try.prog 11).results.toList X11 0 (bodyOf (fnOf Try.prog 11)) (S11_0 (L11_0 m n)) :=
  StopS.iter KN_none T11_right (mk := S11_0) (Fs := L11_0s m) (W := fun k => [S11_0 k, S11_1 (L11_1 m m)]) (p := [0, 1, 0, 1, 1, 1, 1, 1, 1, 1]) (rest := [.blk 0, .code [1, 1, 1, 1, 1, 1, 1, 1]]) (pat := P11_0)
    (fun _ => rfl) (fun _ => rfl) (fun _ => rfl) (by kernel_rfl) (by kernel_rfl)
    (fun k h => (all1 h (all1 (H11_1 m m) all0)))
    (fun k xs v h => by
      obtain ⟨a0, a1, a2, a3, a4, rfl⟩ := Y11_0 h
      exact (G11_0 m k a0 a1 a2 a3 a4).trans h)
theorem G11 (m : Nat) (a0 : Int) (a1 : List Int) : roadInS Try.prog [] T11 KN (fnOf Try.prog 11) N11 [.i a0, .l a1] (kksS Try.prog (fnOf Try.prog 11).results.toList X11 0 [S11_0 (L11_0 m m)]) = t11 m a0 a1 := by kernel_rfl
theorem tells11 (m : Nat) (a0 : Int) (a1 : List Int) {ys : List Un} (h : t11 m a0 a1 = some ys) : TellsS Try.prog [] (ofTab TE) 11 N11 X11 [.i a0, .l a1] ys :=
  tells_road KN_none T11_right (W := [S11_0 (L11_0 m m)]) (by kernel_rfl) (by kernel_rfl) (by kernel_rfl)
    (all1 (H11_0 m m) all0) ((G11 m a0 a1).trans h)

theorem bestL11 (m : Nat) (k1 : List Un → Option (List Un)) (left : Int) (out lost : List Int) (h1 : 0 < left) (h2 : left < 4611686018427387904) (hl : out.length = lost.length) (hs : lost.length < 1099511627776)
    (hb : ∀ x ∈ out, 0 ≤ x ∧ x < 4611686018427387904) : ∀ (rest pre : List Int) (b n : Nat), rest.length < n → lost = pre ++ rest → b < lost.length →
    L11_2 m k1 n [.i left, .i (b : Int), .i (lost.length : Int), .i (pre.length : Int), .l out, .l lost] =
      k1 [.i (left - 1), .l (out.set (bestF lost rest pre.length b) (out.getD (bestF lost rest pre.length b) 0 + 1)), .l (lost.set (bestF lost rest pre.length b) 0)] := by
  intro rest
  induction rest with
  | nil =>
    intro pre b n hn he hlt
    obtain ⟨n, rfl⟩ := one_more n (by simp at hn; omega)
    rw [L11_2_succ]; unfold L11_2s; dsimp only
    have hp : pre.length = lost.length := by rw [he]; simp
    have hm := hb _ (getD_mem (l := out) (i := b) (by omega))
    simp only [bestF, Int.toNat_natCast]
    repeat' (first
      | with_reducible rfl
      | (with_reducible refine lt_i ?_; intro x hx; (try simp (disch := omega) only [wr, if_pos, if_neg, Int.sub_zero, Int.zero_add, List.length_append, List.length_cons, List.length_nil, List.length_replicate, List.length_take, List.length_drop, Int.natCast_add, Int.toNat_natCast] at hx); (try simp only [min_if', max_if'] at hx); subst hx)
      | (with_reducible refine bif_t ?_ ?_; · ((try simp (disch := omega) only [wr, if_pos, if_neg, List.length_append, List.length_cons, List.length_nil, List.length_replicate, List.length_take, List.length_drop, Int.natCast_add, Int.toNat_natCast]); (first | done | ((try simp only [min_if', max_if']); (first | done | ((try simp only [Bool.true_and, Bool.and_true, Bool.and_eq_true, Bool.and_eq_false_iff, Bool.or_eq_true, Bool.or_eq_false_iff, true_and, and_true, decide_eq_true_eq, decide_eq_false_iff_not, beq_iff_eq, beq_eq_false_iff_ne, bne_iff_ne, bne_eq_false_iff_eq, ne_eq, Bool.not_eq_true', Bool.not_eq_false', Decidable.not_not]) <;> omega))))))
      | (with_reducible refine bif_f ?_ ?_; · ((try simp (disch := omega) only [wr, if_pos, if_neg, List.length_append, List.length_cons, List.length_nil, List.length_replicate, List.length_take, List.length_drop, Int.natCast_add, Int.toNat_natCast]); (first | done | ((try simp only [min_if', max_if']); (first | done | ((try simp only [Bool.true_and, Bool.and_true, Bool.and_eq_true, Bool.and_eq_false_iff, Bool.or_eq_true, Bool.or_eq_false_iff, true_and, and_true, decide_eq_true_eq, decide_eq_false_iff_not, beq_iff_eq, beq_eq_false_iff_ne, bne_iff_ne, bne_eq_false_iff_eq, ne_eq, Bool.not_eq_true', Bool.not_eq_false', Decidable.not_not]) <;> omega))))))
      | (with_reducible refine bif_s ?_ ?_ <;> (intro hc; (try simp (disch := omega) only [wr, if_pos, if_neg, List.length_append, List.length_cons, List.length_nil, List.length_replicate, List.length_take, List.length_drop, Int.natCast_add, Int.toNat_natCast] at hc); (try simp only [min_if', max_if'] at hc); (try simp only [Bool.true_and, Bool.and_true, Bool.and_eq_true, Bool.and_eq_false_iff, Bool.or_eq_true, Bool.or_eq_false_iff, true_and, and_true, decide_eq_true_eq, decide_eq_false_iff_not, beq_iff_eq, beq_eq_false_iff_ne, bne_iff_ne, bne_eq_false_iff_eq, ne_eq, Bool.not_eq_true', Bool.not_eq_false', Decidable.not_not] at hc)))
      | fail "stuck")
    simp (disch := omega) only [wr]
  | cons x rest ih =>
    intro pre b n hn he hlt
    obtain ⟨n, rfl⟩ := one_more n (by simp at hn; omega)
    have hp : lost.length = pre.length + (rest.length + 1) := by rw [he]; simp
    have hg : lost.getD pre.length 0 = x := by rw [he]; simp
    rw [L11_2_succ]; unfold L11_2s; dsimp only
    simp only [bestF, Int.toNat_natCast, hg]
    have i1 := ih (pre ++ [x]) pre.length n (by simp at hn; omega) (by rw [he]; simp) (by omega)
    have i2 := ih (pre ++ [x]) b n (by simp at hn; omega) (by rw [he]; simp) hlt
    simp only [List.length_append, List.length_cons, List.length_nil, Int.natCast_add] at i1 i2
    repeat' (first
      | with_reducible rfl
      | (with_reducible refine lt_i ?_; intro x hx; (try simp (disch := omega) only [wr, if_pos, if_neg, Int.sub_zero, Int.zero_add, List.length_append, List.length_cons, List.length_nil, List.length_replicate, List.length_take, List.length_drop, Int.natCast_add, Int.toNat_natCast] at hx); (try simp only [min_if', max_if'] at hx); subst hx)
      | (with_reducible refine bif_t ?_ ?_; · ((try simp (disch := omega) only [wr, if_pos, if_neg, List.length_append, List.length_cons, List.length_nil, List.length_replicate, List.length_take, List.length_drop, Int.natCast_add, Int.toNat_natCast]); (first | done | ((try simp only [min_if', max_if']); (first | done | ((try simp only [Bool.true_and, Bool.and_true, Bool.and_eq_true, Bool.and_eq_false_iff, Bool.or_eq_true, Bool.or_eq_false_iff, true_and, and_true, decide_eq_true_eq, decide_eq_false_iff_not, beq_iff_eq, beq_eq_false_iff_ne, bne_iff_ne, bne_eq_false_iff_eq, ne_eq, Bool.not_eq_true', Bool.not_eq_false', Decidable.not_not]) <;> omega))))))
      | (with_reducible refine bif_f ?_ ?_; · ((try simp (disch := omega) only [wr, if_pos, if_neg, List.length_append, List.length_cons, List.length_nil, List.length_replicate, List.length_take, List.length_drop, Int.natCast_add, Int.toNat_natCast]); (first | done | ((try simp only [min_if', max_if']); (first | done | ((try simp only [Bool.true_and, Bool.and_true, Bool.and_eq_true, Bool.and_eq_false_iff, Bool.or_eq_true, Bool.or_eq_false_iff, true_and, and_true, decide_eq_true_eq, decide_eq_false_iff_not, beq_iff_eq, beq_eq_false_iff_ne, bne_iff_ne, bne_eq_false_iff_eq, ne_eq, Bool.not_eq_true', Bool.not_eq_false', Decidable.not_not]) <;> omega))))))
      | (with_reducible refine bif_s ?_ ?_ <;> (intro hc; (try simp (disch := omega) only [wr, if_pos, if_neg, List.length_append, List.length_cons, List.length_nil, List.length_replicate, List.length_take, List.length_drop, Int.natCast_add, Int.toNat_natCast] at hc); (try simp only [min_if', max_if'] at hc); (try simp only [Bool.true_and, Bool.and_true, Bool.and_eq_true, Bool.and_eq_false_iff, Bool.or_eq_true, Bool.or_eq_false_iff, true_and, and_true, decide_eq_true_eq, decide_eq_false_iff_not, beq_iff_eq, beq_eq_false_iff_ne, bne_iff_ne, bne_eq_false_iff_eq, ne_eq, Bool.not_eq_true', Bool.not_eq_false', Decidable.not_not] at hc)))
      | fail "stuck")
    · simp (disch := omega) only [wr]
      rw [show decide (x > lost.getD b 0) = true from decide_eq_true (by omega)]
      exact i1
    · simp (disch := omega) only [wr]
      rw [show decide (x > lost.getD b 0) = false from decide_eq_false (by omega)]
      exact i2
theorem dealL11 (m : Nat) : ∀ (k : Nat) (left : Int) (out lost : List Int) (n : Nat), left.toNat = k → k < n → left < 4611686018427387904 → out.length = lost.length → lost.length < 1099511627776 → lost.length < m → lost ≠ [] → (∀ x ∈ out, 0 ≤ x ∧ x + k < 4611686018427387904) →
    L11_1 m n [.i left, .l out, .l lost] = some [.l (dealZ 0 k out lost)] := by
  intro k
  induction k with
  | zero =>
    intro left out lost n hk hn h2 hl hs hm hne hb
    obtain ⟨n, rfl⟩ := one_more n (by omega)
    rw [L11_1_succ]; unfold L11_1s; dsimp only
    simp only [dealZ]
    repeat' (first
      | with_reducible rfl
      | (with_reducible refine lt_i ?_; intro x hx; (try simp (disch := omega) only [wr, if_pos, if_neg, Int.sub_zero, Int.zero_add, List.length_append, List.length_cons, List.length_nil, List.length_replicate, List.length_take, List.length_drop, Int.natCast_add, Int.toNat_natCast] at hx); (try simp only [min_if', max_if'] at hx); subst hx)
      | (with_reducible refine bif_t ?_ ?_; · ((try simp (disch := omega) only [wr, if_pos, if_neg, List.length_append, List.length_cons, List.length_nil, List.length_replicate, List.length_take, List.length_drop, Int.natCast_add, Int.toNat_natCast]); (first | done | ((try simp only [min_if', max_if']); (first | done | ((try simp only [Bool.true_and, Bool.and_true, Bool.and_eq_true, Bool.and_eq_false_iff, Bool.or_eq_true, Bool.or_eq_false_iff, true_and, and_true, decide_eq_true_eq, decide_eq_false_iff_not, beq_iff_eq, beq_eq_false_iff_ne, bne_iff_ne, bne_eq_false_iff_eq, ne_eq, Bool.not_eq_true', Bool.not_eq_false', Decidable.not_not]) <;> omega))))))
      | (with_reducible refine bif_f ?_ ?_; · ((try simp (disch := omega) only [wr, if_pos, if_neg, List.length_append, List.length_cons, List.length_nil, List.length_replicate, List.length_take, List.length_drop, Int.natCast_add, Int.toNat_natCast]); (first | done | ((try simp only [min_if', max_if']); (first | done | ((try simp only [Bool.true_and, Bool.and_true, Bool.and_eq_true, Bool.and_eq_false_iff, Bool.or_eq_true, Bool.or_eq_false_iff, true_and, and_true, decide_eq_true_eq, decide_eq_false_iff_not, beq_iff_eq, beq_eq_false_iff_ne, bne_iff_ne, bne_eq_false_iff_eq, ne_eq, Bool.not_eq_true', Bool.not_eq_false', Decidable.not_not]) <;> omega))))))
      | (with_reducible refine bif_s ?_ ?_ <;> (intro hc; (try simp (disch := omega) only [wr, if_pos, if_neg, List.length_append, List.length_cons, List.length_nil, List.length_replicate, List.length_take, List.length_drop, Int.natCast_add, Int.toNat_natCast] at hc); (try simp only [min_if', max_if'] at hc); (try simp only [Bool.true_and, Bool.and_true, Bool.and_eq_true, Bool.and_eq_false_iff, Bool.or_eq_true, Bool.or_eq_false_iff, true_and, and_true, decide_eq_true_eq, decide_eq_false_iff_not, beq_iff_eq, beq_eq_false_iff_ne, bne_iff_ne, bne_eq_false_iff_eq, ne_eq, Bool.not_eq_true', Bool.not_eq_false', Decidable.not_not] at hc)))
      | fail "stuck")
  | succ k ih =>
    intro left out lost n hk hn h2 hl hs hm hne hb
    obtain ⟨n, rfl⟩ := one_more n (by omega)
    rw [L11_1_succ]; unfold L11_1s; dsimp only
    have hB := bestOf_lt hne
    repeat' (first
      | with_reducible rfl
      | (with_reducible refine lt_i ?_; intro x hx; (try simp (disch := omega) only [wr, if_pos, if_neg, Int.sub_zero, Int.zero_add, List.length_append, List.length_cons, List.length_nil, List.length_replicate, List.length_take, List.length_drop, Int.natCast_add, Int.toNat_natCast] at hx); (try simp only [min_if', max_if'] at hx); subst hx)
      | (with_reducible refine bif_t ?_ ?_; · ((try simp (disch := omega) only [wr, if_pos, if_neg, List.length_append, List.length_cons, List.length_nil, List.length_replicate, List.length_take, List.length_drop, Int.natCast_add, Int.toNat_natCast]); (first | done | ((try simp only [min_if', max_if']); (first | done | ((try simp only [Bool.true_and, Bool.and_true, Bool.and_eq_true, Bool.and_eq_false_iff, Bool.or_eq_true, Bool.or_eq_false_iff, true_and, and_true, decide_eq_true_eq, decide_eq_false_iff_not, beq_iff_eq, beq_eq_false_iff_ne, bne_iff_ne, bne_eq_false_iff_eq, ne_eq, Bool.not_eq_true', Bool.not_eq_false', Decidable.not_not]) <;> omega))))))
      | (with_reducible refine bif_f ?_ ?_; · ((try simp (disch := omega) only [wr, if_pos, if_neg, List.length_append, List.length_cons, List.length_nil, List.length_replicate, List.length_take, List.length_drop, Int.natCast_add, Int.toNat_natCast]); (first | done | ((try simp only [min_if', max_if']); (first | done | ((try simp only [Bool.true_and, Bool.and_true, Bool.and_eq_true, Bool.and_eq_false_iff, Bool.or_eq_true, Bool.or_eq_false_iff, true_and, and_true, decide_eq_true_eq, decide_eq_false_iff_not, beq_iff_eq, beq_eq_false_iff_ne, bne_iff_ne, bne_eq_false_iff_eq, ne_eq, Bool.not_eq_true', Bool.not_eq_false', Decidable.not_not]) <;> omega))))))
      | (with_reducible refine bif_s ?_ ?_ <;> (intro hc; (try simp (disch := omega) only [wr, if_pos, if_neg, List.length_append, List.length_cons, List.length_nil, List.length_replicate, List.length_take, List.length_drop, Int.natCast_add, Int.toNat_natCast] at hc); (try simp only [min_if', max_if'] at hc); (try simp only [Bool.true_and, Bool.and_true, Bool.and_eq_true, Bool.and_eq_false_iff, Bool.or_eq_true, Bool.or_eq_false_iff, true_and, and_true, decide_eq_true_eq, decide_eq_false_iff_not, beq_iff_eq, beq_eq_false_iff_ne, bne_iff_ne, bne_eq_false_iff_eq, ne_eq, Bool.not_eq_true', Bool.not_eq_false', Decidable.not_not] at hc)))
      | fail "stuck")
    have := bestL11 m (L11_1 m n) left out lost (by omega) h2 hl hs (fun x hx => by have := hb x hx; omega) lost [] 0 m hm rfl (List.length_pos_iff.2 hne)
    simp only [List.length_nil, Int.natCast_zero] at this
    refine this.trans ?_
    have hq := hb _ (getD_mem (l := out) (i := bestOf lost) (by omega))
    rw [show bestF lost lost 0 0 = bestOf lost from rfl]
    refine ih _ _ _ _ (by omega) (by omega) (by omega) (by simp [hl]) (by simpa using hs) (by simpa using hm) (by intro h; simp at h; exact hne h) (fun x hx => ?_)
    rcases List.mem_or_eq_of_mem_set hx with h | h
    · have := hb x h; omega
    · omega
theorem leftL11 (m : Nat) (lost : List Int) : ∀ (rest pre : List Int) (left : Int) (n : Nat), rest.length < n → (∀ x ∈ rest, 0 ≤ x ∧ x ≤ 1152921504606846976) → left ≤ 1152921504606846976 → -1152921504606846976 ≤ left - rest.sum → (pre ++ rest).length < 1099511627776 →
    L11_0 m n [.i left, .i ((pre ++ rest).length : Int), .i (pre.length : Int), .l (pre ++ rest), .l lost] = L11_1 m m [.i (left - rest.sum), .l (pre ++ rest), .l lost] := by
  intro rest
  induction rest with
  | nil =>
    intro pre left n hn hb h1 h2 h3
    obtain ⟨n, rfl⟩ := one_more n (by simp at hn; omega)
    rw [L11_0_succ]; unfold L11_0s; dsimp only
    simp only [List.append_nil, List.sum_nil, Int.sub_zero] at h3 ⊢
    repeat' (first
      | with_reducible rfl
      | (with_reducible refine lt_i ?_; intro x hx; (try simp (disch := omega) only [wr, if_pos, if_neg, Int.sub_zero, Int.zero_add, getD_mid, List.length_append, List.length_cons, List.length_nil, List.length_replicate, List.length_take, List.length_drop, Int.natCast_add, Int.toNat_natCast] at hx); (try simp only [min_if', max_if'] at hx); subst hx)
      | (with_reducible refine bif_t ?_ ?_; · ((try simp (disch := omega) only [wr, if_pos, if_neg, getD_mid, List.length_append, List.length_cons, List.length_nil, List.length_replicate, List.length_take, List.length_drop, Int.natCast_add, Int.toNat_natCast]); (first | done | ((try simp only [min_if', max_if']); (first | done | ((try simp only [Bool.true_and, Bool.and_true, Bool.and_eq_true, Bool.and_eq_false_iff, Bool.or_eq_true, Bool.or_eq_false_iff, true_and, and_true, decide_eq_true_eq, decide_eq_false_iff_not, beq_iff_eq, beq_eq_false_iff_ne, bne_iff_ne, bne_eq_false_iff_eq, ne_eq, Bool.not_eq_true', Bool.not_eq_false', Decidable.not_not]) <;> omega))))))
      | (with_reducible refine bif_f ?_ ?_; · ((try simp (disch := omega) only [wr, if_pos, if_neg, getD_mid, List.length_append, List.length_cons, List.length_nil, List.length_replicate, List.length_take, List.length_drop, Int.natCast_add, Int.toNat_natCast]); (first | done | ((try simp only [min_if', max_if']); (first | done | ((try simp only [Bool.true_and, Bool.and_true, Bool.and_eq_true, Bool.and_eq_false_iff, Bool.or_eq_true, Bool.or_eq_false_iff, true_and, and_true, decide_eq_true_eq, decide_eq_false_iff_not, beq_iff_eq, beq_eq_false_iff_ne, bne_iff_ne, bne_eq_false_iff_eq, ne_eq, Bool.not_eq_true', Bool.not_eq_false', Decidable.not_not]) <;> omega))))))
      | (with_reducible refine bif_s ?_ ?_ <;> (intro hc; (try simp (disch := omega) only [wr, if_pos, if_neg, getD_mid, List.length_append, List.length_cons, List.length_nil, List.length_replicate, List.length_take, List.length_drop, Int.natCast_add, Int.toNat_natCast] at hc); (try simp only [min_if', max_if'] at hc); (try simp only [Bool.true_and, Bool.and_true, Bool.and_eq_true, Bool.and_eq_false_iff, Bool.or_eq_true, Bool.or_eq_false_iff, true_and, and_true, decide_eq_true_eq, decide_eq_false_iff_not, beq_iff_eq, beq_eq_false_iff_ne, bne_iff_ne, bne_eq_false_iff_eq, ne_eq, Bool.not_eq_true', Bool.not_eq_false', Decidable.not_not] at hc)))
      | fail "stuck")
  | cons x rest ih =>
    intro pre left n hn hb h1 h2 h3
    obtain ⟨n, rfl⟩ := one_more n (by simp at hn; omega)
    simp only [List.length_append, List.length_cons] at h3 hn
    have hx := hb x (by simp)
    have hs := sum_nonneg rest (fun y hy => (hb y (by simp [hy])).1)
    rw [List.sum_cons] at h2 ⊢
    rw [L11_0_succ]; unfold L11_0s; dsimp only
    have := ih (pre ++ [x]) (left - x) n (by omega) (fun y hy => hb y (by simp [hy])) (by omega) (by omega) (by simp; omega)
    simp only [List.append_assoc, List.cons_append, List.nil_append, List.length_append, List.length_cons, List.length_nil, Int.natCast_add] at this
    repeat' (first
      | with_reducible rfl
      | (with_reducible refine lt_i ?_; intro x hx; (try simp (disch := omega) only [wr, if_pos, if_neg, Int.sub_zero, Int.zero_add, getD_mid, List.length_append, List.length_cons, List.length_nil, List.length_replicate, List.length_take, List.length_drop, Int.natCast_add, Int.toNat_natCast] at hx); (try simp only [min_if', max_if'] at hx); subst hx)
      | (with_reducible refine bif_t ?_ ?_; · ((try simp (disch := omega) only [wr, if_pos, if_neg, getD_mid, List.length_append, List.length_cons, List.length_nil, List.length_replicate, List.length_take, List.length_drop, Int.natCast_add, Int.toNat_natCast]); (first | done | ((try simp only [min_if', max_if']); (first | done | ((try simp only [Bool.true_and, Bool.and_true, Bool.and_eq_true, Bool.and_eq_false_iff, Bool.or_eq_true, Bool.or_eq_false_iff, true_and, and_true, decide_eq_true_eq, decide_eq_false_iff_not, beq_iff_eq, beq_eq_false_iff_ne, bne_iff_ne, bne_eq_false_iff_eq, ne_eq, Bool.not_eq_true', Bool.not_eq_false', Decidable.not_not]) <;> omega))))))
      | (with_reducible refine bif_f ?_ ?_; · ((try simp (disch := omega) only [wr, if_pos, if_neg, getD_mid, List.length_append, List.length_cons, List.length_nil, List.length_replicate, List.length_take, List.length_drop, Int.natCast_add, Int.toNat_natCast]); (first | done | ((try simp only [min_if', max_if']); (first | done | ((try simp only [Bool.true_and, Bool.and_true, Bool.and_eq_true, Bool.and_eq_false_iff, Bool.or_eq_true, Bool.or_eq_false_iff, true_and, and_true, decide_eq_true_eq, decide_eq_false_iff_not, beq_iff_eq, beq_eq_false_iff_ne, bne_iff_ne, bne_eq_false_iff_eq, ne_eq, Bool.not_eq_true', Bool.not_eq_false', Decidable.not_not]) <;> omega))))))
      | (with_reducible refine bif_s ?_ ?_ <;> (intro hc; (try simp (disch := omega) only [wr, if_pos, if_neg, getD_mid, List.length_append, List.length_cons, List.length_nil, List.length_replicate, List.length_take, List.length_drop, Int.natCast_add, Int.toNat_natCast] at hc); (try simp only [min_if', max_if'] at hc); (try simp only [Bool.true_and, Bool.and_true, Bool.and_eq_true, Bool.and_eq_false_iff, Bool.or_eq_true, Bool.or_eq_false_iff, true_and, and_true, decide_eq_true_eq, decide_eq_false_iff_not, beq_iff_eq, beq_eq_false_iff_ne, bne_iff_ne, bne_eq_false_iff_eq, ne_eq, Bool.not_eq_true', Bool.not_eq_false', Decidable.not_not] at hc)))
      | fail "stuck")
    simp (disch := omega) only [wr, getD_mid, Int.toNat_natCast, List.length_append, List.length_cons, List.length_nil, Int.natCast_add] at this ⊢
    rw [show left - (x + rest.sum) = left - x - rest.sum by omega]
    exact this

def q11 : List Un → Option (Bool × List Un)
  | [.i a0, .l a1] => some (decide (a0 ≤ 9223372036854775807 ∧ a1.length < 1099511627776), [.l (proV a0 a1)])
  | _ => none
def e11 : EntS := ⟨N11, X11, q11⟩

theorem spec11 (a0 : Int) (a1 : List Int) (hc : (decide (a0 ≤ 9223372036854775807 ∧ a1.length < 1099511627776)) = true) : ∃ m, t11 m a0 a1 = some [.l (proV a0 a1)] := by
  obtain ⟨h1, h2⟩ := of_decide_eq_true hc
  clear hc
  refine ⟨1152921504606846976 + a1.length + 2, ?_⟩
  unfold t11 proV
  cases hok : sumOk a1 with
  | false =>
    simp only [Bool.not_false, cond_true]
    repeat' (first
        | with_reducible rfl
        | (with_reducible refine lt_i ?_; intro x hx; (try simp (disch := omega) only [wr, if_pos, if_neg, Int.sub_zero, Int.zero_add, Bool.not_true, List.length_append, List.length_cons, List.length_nil, List.length_replicate, List.length_take, List.length_drop, Int.natCast_add, Int.toNat_natCast] at hx); (try simp only [min_if', max_if'] at hx); subst hx)
        | (with_reducible refine bif_t ?_ ?_; · ((try simp (disch := omega) only [wr, if_pos, if_neg, Bool.not_true, List.length_append, List.length_cons, List.length_nil, List.length_replicate, List.length_take, List.length_drop, Int.natCast_add, Int.toNat_natCast]); (first | done | ((try simp only [min_if', max_if']); (first | done | ((try simp only [Bool.true_and, Bool.and_true, Bool.and_eq_true, Bool.and_eq_false_iff, Bool.or_eq_true, Bool.or_eq_false_iff, true_and, and_true, decide_eq_true_eq, decide_eq_false_iff_not, beq_iff_eq, beq_eq_false_iff_ne, bne_iff_ne, bne_eq_false_iff_eq, ne_eq, Bool.not_eq_true', Bool.not_eq_false', Decidable.not_not]) <;> omega))))))
        | (with_reducible refine bif_f ?_ ?_; · ((try simp (disch := omega) only [wr, if_pos, if_neg, Bool.not_true, List.length_append, List.length_cons, List.length_nil, List.length_replicate, List.length_take, List.length_drop, Int.natCast_add, Int.toNat_natCast]); (first | done | ((try simp only [min_if', max_if']); (first | done | ((try simp only [Bool.true_and, Bool.and_true, Bool.and_eq_true, Bool.and_eq_false_iff, Bool.or_eq_true, Bool.or_eq_false_iff, true_and, and_true, decide_eq_true_eq, decide_eq_false_iff_not, beq_iff_eq, beq_eq_false_iff_ne, bne_iff_ne, bne_eq_false_iff_eq, ne_eq, Bool.not_eq_true', Bool.not_eq_false', Decidable.not_not]) <;> omega))))))
        | (with_reducible refine bif_s ?_ ?_ <;> (intro hc; (try simp (disch := omega) only [wr, if_pos, if_neg, Bool.not_true, List.length_append, List.length_cons, List.length_nil, List.length_replicate, List.length_take, List.length_drop, Int.natCast_add, Int.toNat_natCast] at hc); (try simp only [min_if', max_if'] at hc); (try simp only [Bool.true_and, Bool.and_true, Bool.and_eq_true, Bool.and_eq_false_iff, Bool.or_eq_true, Bool.or_eq_false_iff, true_and, and_true, decide_eq_true_eq, decide_eq_false_iff_not, beq_iff_eq, beq_eq_false_iff_ne, bne_iff_ne, bne_eq_false_iff_eq, ne_eq, Bool.not_eq_true', Bool.not_eq_false', Decidable.not_not] at hc)))
        | fail "stuck")
  | true =>
    simp only [Bool.not_true, cond_false]
    obtain ⟨hb, hs, hs2⟩ := sumOk_inv hok
    rw [max_if' a0 0]
    generalize hn : max a0 0 = a
    have ha : 0 ≤ a := by omega
    have hr : rightV a1 = true := rightV_mem.2 hb
    by_cases hge : a ≥ sumV a1
    · simp only [show decide (a ≥ sumV a1) = true by simpa using hge, cond_true]
      repeat' (first
        | with_reducible rfl
        | (with_reducible refine lt_i ?_; intro x hx; (try simp (disch := omega) only [wr, if_pos, if_neg, Int.sub_zero, Int.zero_add, Bool.not_true, List.length_append, List.length_cons, List.length_nil, List.length_replicate, List.length_take, List.length_drop, Int.natCast_add, Int.toNat_natCast] at hx); (try simp only [min_if', max_if'] at hx); subst hx)
        | (with_reducible refine bif_t ?_ ?_; · ((try simp (disch := omega) only [wr, if_pos, if_neg, Bool.not_true, List.length_append, List.length_cons, List.length_nil, List.length_replicate, List.length_take, List.length_drop, Int.natCast_add, Int.toNat_natCast]); (first | done | ((try simp only [min_if', max_if']); (first | done | ((try simp only [Bool.true_and, Bool.and_true, Bool.and_eq_true, Bool.and_eq_false_iff, Bool.or_eq_true, Bool.or_eq_false_iff, true_and, and_true, decide_eq_true_eq, decide_eq_false_iff_not, beq_iff_eq, beq_eq_false_iff_ne, bne_iff_ne, bne_eq_false_iff_eq, ne_eq, Bool.not_eq_true', Bool.not_eq_false', Decidable.not_not]) <;> omega))))))
        | (with_reducible refine bif_f ?_ ?_; · ((try simp (disch := omega) only [wr, if_pos, if_neg, Bool.not_true, List.length_append, List.length_cons, List.length_nil, List.length_replicate, List.length_take, List.length_drop, Int.natCast_add, Int.toNat_natCast]); (first | done | ((try simp only [min_if', max_if']); (first | done | ((try simp only [Bool.true_and, Bool.and_true, Bool.and_eq_true, Bool.and_eq_false_iff, Bool.or_eq_true, Bool.or_eq_false_iff, true_and, and_true, decide_eq_true_eq, decide_eq_false_iff_not, beq_iff_eq, beq_eq_false_iff_ne, bne_iff_ne, bne_eq_false_iff_eq, ne_eq, Bool.not_eq_true', Bool.not_eq_false', Decidable.not_not]) <;> omega))))))
        | (with_reducible refine bif_s ?_ ?_ <;> (intro hc; (try simp (disch := omega) only [wr, if_pos, if_neg, Bool.not_true, List.length_append, List.length_cons, List.length_nil, List.length_replicate, List.length_take, List.length_drop, Int.natCast_add, Int.toNat_natCast] at hc); (try simp only [min_if', max_if'] at hc); (try simp only [Bool.true_and, Bool.and_true, Bool.and_eq_true, Bool.and_eq_false_iff, Bool.or_eq_true, Bool.or_eq_false_iff, true_and, and_true, decide_eq_true_eq, decide_eq_false_iff_not, beq_iff_eq, beq_eq_false_iff_ne, bne_iff_ne, bne_eq_false_iff_eq, ne_eq, Bool.not_eq_true', Bool.not_eq_false', Decidable.not_not] at hc)))
        | fail "stuck")
    · simp only [show decide (a ≥ sumV a1) = false by simpa using hge, cond_false]
      obtain ⟨f1, f2, f3⟩ := floors_bound (l := a1) ha (show a < sumV a1 by omega) hb
      have hlf : (floors a (sumV a1) a1).length = a1.length := by simp [floors]
      have hlr : (rems a (sumV a1) a1).length = a1.length := by simp [rems]
      have hne : a1 ≠ [] := by rintro rfl; simp at hs; omega
      have e1 := leftL11 (1152921504606846976 + a1.length + 2) (rems a (sumV a1) a1) (floors a (sumV a1) a1) [] a (1152921504606846976 + a1.length + 2) (by omega) f1 (by omega) (by omega) (by simp; omega)
      have e2 := dealL11 (1152921504606846976 + a1.length + 2) _ (a - (floors a (sumV a1) a1).sum) (floors a (sumV a1) a1) (rems a (sumV a1) a1) (1152921504606846976 + a1.length + 2) rfl (by omega) (by omega) (by omega) (by omega) (by omega)
        (by intro h; have := congrArg List.length h; rw [hlr] at this; exact hne (List.eq_nil_of_length_eq_zero this)) (fun x hx => by have := f1 x hx; omega)
      repeat' (first
        | with_reducible rfl
        | (with_reducible refine lt_i ?_; intro x hx; (try simp (disch := omega) only [wr, if_pos, if_neg, Int.sub_zero, Int.zero_add, hr, Bool.not_true, List.length_append, List.length_cons, List.length_nil, List.length_replicate, List.length_take, List.length_drop, Int.natCast_add, Int.toNat_natCast] at hx); (try simp only [min_if', max_if'] at hx); subst hx)
        | (with_reducible refine bif_t ?_ ?_; · ((try simp (disch := omega) only [wr, if_pos, if_neg, hr, Bool.not_true, List.length_append, List.length_cons, List.length_nil, List.length_replicate, List.length_take, List.length_drop, Int.natCast_add, Int.toNat_natCast]); (first | done | ((try simp only [min_if', max_if']); (first | done | ((try simp only [Bool.true_and, Bool.and_true, Bool.and_eq_true, Bool.and_eq_false_iff, Bool.or_eq_true, Bool.or_eq_false_iff, true_and, and_true, decide_eq_true_eq, decide_eq_false_iff_not, beq_iff_eq, beq_eq_false_iff_ne, bne_iff_ne, bne_eq_false_iff_eq, ne_eq, Bool.not_eq_true', Bool.not_eq_false', Decidable.not_not]) <;> omega))))))
        | (with_reducible refine bif_f ?_ ?_; · ((try simp (disch := omega) only [wr, if_pos, if_neg, hr, Bool.not_true, List.length_append, List.length_cons, List.length_nil, List.length_replicate, List.length_take, List.length_drop, Int.natCast_add, Int.toNat_natCast]); (first | done | ((try simp only [min_if', max_if']); (first | done | ((try simp only [Bool.true_and, Bool.and_true, Bool.and_eq_true, Bool.and_eq_false_iff, Bool.or_eq_true, Bool.or_eq_false_iff, true_and, and_true, decide_eq_true_eq, decide_eq_false_iff_not, beq_iff_eq, beq_eq_false_iff_ne, bne_iff_ne, bne_eq_false_iff_eq, ne_eq, Bool.not_eq_true', Bool.not_eq_false', Decidable.not_not]) <;> omega))))))
        | (with_reducible refine bif_s ?_ ?_ <;> (intro hc; (try simp (disch := omega) only [wr, if_pos, if_neg, hr, Bool.not_true, List.length_append, List.length_cons, List.length_nil, List.length_replicate, List.length_take, List.length_drop, Int.natCast_add, Int.toNat_natCast] at hc); (try simp only [min_if', max_if'] at hc); (try simp only [Bool.true_and, Bool.and_true, Bool.and_eq_true, Bool.and_eq_false_iff, Bool.or_eq_true, Bool.or_eq_false_iff, true_and, and_true, decide_eq_true_eq, decide_eq_false_iff_not, beq_iff_eq, beq_eq_false_iff_ne, bne_iff_ne, bne_eq_false_iff_eq, ne_eq, Bool.not_eq_true', Bool.not_eq_false', Decidable.not_not] at hc)))
        | fail "stuck")
      exact (e1.trans e2)

theorem right11 : EntSRight Try.prog [] (ofTab TE) 11 e11 := by
  intro us ys h
  replace h : q11 us = some (true, ys) := h
  unfold q11 at h
  split at h
  · rename_i a0 a1
    simp only [Option.some.injEq, Prod.mk.injEq] at h
    obtain ⟨hc, rfl⟩ := h
    obtain ⟨m, hm⟩ := spec11 a0 a1 hc
    exact tells11 m a0 a1 hm
  · cases h

end Go.Proofs.Ytibenahgbdhegaa
