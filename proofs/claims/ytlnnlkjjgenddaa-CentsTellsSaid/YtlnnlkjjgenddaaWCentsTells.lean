/- The law CentsTells answers true. Conditions: none. -/
import Derived.Test.YtlnnlkjjgenddaaCentsLists
namespace Go.Proofs.Ytlnnlkjjgenddaa
open Go Go.Proofs.Ytlnnlkjjgenddaa.Ev
set_option linter.unusedVariables false
set_option linter.unusedSimpArgs false
set_option linter.unnecessarySimpa false
theorem rightV_snoc (l : List Int) (x : Int) : rightV (l ++ [x]) = (rightV l && decide (0 ≤ x ∧ x ≤ 1152921504606846976)) := by simp [rightV, List.all_append]


/-! cascade/cascadelaw1.CentsTells -/
def N9 : Pn := ⟨[.int .i64, .int .i64, .int .i64, .int .i64, .ints .i64], []⟩
def X9 : Pn := ⟨[.bool], []⟩
def L9_0s (m : Nat) (k : List Un → Option (List Un)) : List Un → Option (List Un)
  | [.i a0, .b a1, .i a2, .b a3, .i a4, .b a5, .i a6, .b a7, .b a8, .i a9, .i a10, .l a11, .l a12] =>
    bif decide (a10 < a9) then
     bif decide ((0 : Int) ≤ a10 ∧ a10 < (a11.length : Int)) then
      bif decide (a10.toNat < a11.length) then
       bif a8 then
        bif (decide ((a11.getD a10.toNat 0) ≥ 0)) then
         k [.i a0, .b a1, .i a2, .b a3, .i a4, .b a5, .i a6, .b a7, .b (decide ((a11.getD a10.toNat 0) ≤ 1152921504606846976)), .i a9, .i (IntKind.i64.wrap (a10 + 1)), .l a11, .l a12]
        else
         k [.i a0, .b a1, .i a2, .b a3, .i a4, .b a5, .i a6, .b a7, .b false, .i a9, .i (IntKind.i64.wrap (a10 + 1)), .l a11, .l a12]
       else
        k [.i a0, .b a1, .i a2, .b a3, .i a4, .b a5, .i a6, .b a7, .b false, .i a9, .i (IntKind.i64.wrap (a10 + 1)), .l a11, .l a12]
      else
       none
     else
      none
    else
     bif a0 == a2 then
      bif a1 == a3 then
       bif a4 == a6 then
        bif a5 == a7 then
         bif decide (a11.length < 1099511627776) then
          bif (rightV a11) == a8 then
           bif decide (a12.length < 1099511627776 ∧ a11.length < 1099511627776) then
            bif (sameV a12 (a11 ++ List.replicate 80 7)) then
             some [.b true]
            else
             some [.b false]
           else
            none
          else
           some [.b false]
         else
          none
        else
         some [.b false]
       else
        some [.b false]
      else
       some [.b false]
     else
      some [.b false]
  | _ => none
def L9_0 (m : Nat) : Nat → List Un → Option (List Un) := iterS (L9_0s m)
theorem L9_0_succ (m : Nat) (n : Nat) : L9_0 m (n + 1) = L9_0s m (L9_0 m n) := rfl
def P9_0 : Pn := ⟨[.any, .any, .any, .any, .any, .any, .any, .any, .any, .any, .any, .buf 0 1, .buf 1 1, .int .i64, .bool, .int .i64, .bool, .int .i64, .bool, .int .i64, .bool, .bool, .any, .any, .any, .any, .any, .any, .any, .any, .any, .any, .any, .any, .any, .any, .any, .any, .any, .any, .any, .any, .any, .any, .any, .any, .any, .any, .any, .any, .any, .any, .any, .any, .any, .any, .any, .any, .any, .any, .any, .any, .buf 0 1, .int .i64, .int .i64, .any, .any, .any, .any, .any, .any, .any, .any, .any, .any, .any, .any, .any, .any, .any, .any, .any, .any, .any, .any, .any, .any, .any, .any, .any, .any, .any, .any, .any, .any, .any, .any, .any, .any, .any, .any, .any, .any, .any, .any, .any, .any, .any, .any, .any], [.ints .i64, .ints .i64]⟩
def S9_0 (F : List Un → Option (List Un)) : StopS := ⟨[.lp [0, 1, 0, 1, 1, 1, 1, 1, 1, 1, 1], .blk 0, .code [1, 1, 1, 1, 1, 1, 1, 1, 1]], P9_0, F⟩
def t9 (m : Nat) (a0 : Int) (a1 : Int) (a2 : Int) (a3 : Int) (a4 : List Int) : Option (List Un) :=
  lt ((if 30 < (a4.length : Int) then 30 else (a4.length : Int)) : Int) fun x1 =>
  bif decide (0 ≤ x1) && (true && decide (0 ≤ x1.toNat ∧ x1.toNat ≤ a4.length)) then
   bif decide ((0 + (List.take x1.toNat a4).length) < 1099511627776 ∧ (0 + (List.take x1.toNat a4).length) * 8 < 35184372088832) then
    bif decide ((List.take x1.toNat a4).length < 1099511627776) then
     lt (((List.take x1.toNat a4) ++ List.replicate 80 7) : List Int) fun l2 =>
     bif decide (0 ≤ ((List.take x1.toNat a4).length : Int)) && (true && decide (0 ≤ (List.take x1.toNat a4).length ∧ (List.take x1.toNat a4).length ≤ l2.length)) then
      bif decide ((List.take ((List.take x1.toNat a4).length) l2).length < 1099511627776) then
       bif decide ((List.take x1.toNat a4).length < 1099511627776) then
        L9_0 m m [.i (mdV a0 a1 a2 a3), .b (mdOk a0 a1 a2 a3), .i (mdV a0 a1 a2 a3), .b (mdOk a0 a1 a2 a3), .i (sumV (List.take ((List.take x1.toNat a4).length) l2)), .b (sumOk (List.take ((List.take x1.toNat a4).length) l2)), .i (sumV (List.take x1.toNat a4)), .b (sumOk (List.take x1.toNat a4)), .b true, .i ((List.take x1.toNat a4).length : Int), .i 0, .l (List.take x1.toNat a4), .l l2]
       else
        none
      else
       none
     else
      none
    else
     none
   else
    none
  else
   none
def T9 : TabS := tabS TE [(26, e26), (28, e28), (30, e30), (31, e31), (32, e32)]
theorem T9_right : TabRight Try.prog [] (ofTab TE) T9 := tabS_right (all1 right26 (all1 right28 (all1 right30 (all1 right31 (all1 right32 all0)))))
theorem G9_0 (m : Nat) (k : List Un → Option (List Un)) (a0 : Int) (a1 : Bool) (a2 : Int) (a3 : Bool) (a4 : Int) (a5 : Bool) (a6 : Int) (a7 : Bool) (a8 : Bool) (a9 : Int) (a10 : Int) (a11 : List Int) (a12 : List Int) : roadFromS Try.prog [] T9 KN (bodyOf (fnOf Try.prog 9)) [0, 1, 0, 1, 1, 1, 1, 1, 1, 1, 1] [.blk 0, .code [1, 1, 1, 1, 1, 1, 1, 1, 1]] P9_0 [.i a0, .b a1, .i a2, .b a3, .i a4, .b a5, .i a6, .b a7, .b a8, .i a9, .i a10, .l a11, .l a12] (kksS Try.prog (fnOf Try.prog 9).results.toList X9 0 [S9_0 k]) = L9_0s m k [.i a0, .b a1, .i a2, .b a3, .i a4, .b a5, .i a6, .b a7, .b a8, .i a9, .i a10, .l a11, .l a12] := by kernel_rfl
theorem Y9_0 {m : Nat} {k : List Un → Option (List Un)} {xs : List Un} {v : List Un} (h : L9_0s m k xs = some v) : ∃ a0 a1 a2 a3 a4 a5 a6 a7 a8 a9 a10 a11 a12, xs = [.i a0, .b a1, .i a2, .b a3, .i a4, .b a5, .i a6, .b a7, .b a8, .i a9, .i a10, .l a11, .l a12] := by
  unfold L9_0s at h
  split at h
  · exact ⟨_, _, _, _, _, _, _, _, _, _, _, _, _, rfl⟩
  · cases h
theorem H9_0 (m : Nat) : ∀ n, HoldsS Try.prog [] (ofTab TE) (fnOf Try.prog 9).results.toList X9 0 (bodyOf (fnOf Try.prog 9)) (S9_0 (L9_0 m n)) :=
  StopS.iter KN_none T9_right (mk := S9_0) (Fs := L9_0s m) (W := fun k => [S9_0 k]) (p := [0, 1, 0, 1, 1, 1, 1, 1, 1, 1, 1]) (rest := [.blk 0, .code [1, 1, 1, 1, 1, 1, 1, 1, 1]]) (pat := P9_0)
    (fun _ => rfl) (fun _ => rfl) (fun _ => rfl) (by kernel_rfl) (by kernel_rfl)
    (fun k h => (all1 h all0))
    (fun k xs v h => by
      obtain ⟨a0, a1, a2, a3, a4, a5, a6, a7, a8, a9, a10, a11, a12, rfl⟩ := Y9_0 h
      exact (G9_0 m k a0 a1 a2 a3 a4 a5 a6 a7 a8 a9 a10 a11 a12).trans h)
theorem G9 (m : Nat) (a0 : Int) (a1 : Int) (a2 : Int) (a3 : Int) (a4 : List Int) : roadInS Try.prog [] T9 KN (fnOf Try.prog 9) N9 [.i a0, .i a1, .i a2, .i a3, .l a4] (kksS Try.prog (fnOf Try.prog 9).results.toList X9 0 [S9_0 (L9_0 m m)]) = t9 m a0 a1 a2 a3 a4 := by kernel_rfl
theorem tells9 (m : Nat) (a0 : Int) (a1 : Int) (a2 : Int) (a3 : Int) (a4 : List Int) {ys : List Un} (h : t9 m a0 a1 a2 a3 a4 = some ys) : TellsS Try.prog [] (ofTab TE) 9 N9 X9 [.i a0, .i a1, .i a2, .i a3, .l a4] ys :=
  tells_road KN_none T9_right (W := [S9_0 (L9_0 m m)]) (by kernel_rfl) (by kernel_rfl) (by kernel_rfl)
    (all1 (H9_0 m m) all0) ((G9 m a0 a1 a2 a3 a4).trans h)

theorem tellsL9 (m : Nat) (v s : Int) (o t : Bool) : ∀ (rest pre : List Int) (n : Nat), rest.length < n → (pre ++ rest).length < 1099511627000 →
    L9_0 m n [.i v, .b o, .i v, .b o, .i s, .b t, .i s, .b t, .b (rightV pre), .i ((pre ++ rest).length : Int), .i (pre.length : Int), .l (pre ++ rest), .l ((pre ++ rest) ++ List.replicate 80 7)] = some [.b true] := by
  intro rest
  induction rest with
  | nil =>
    intro pre n hn h3
    obtain ⟨n, rfl⟩ := one_more n (by simp at hn; omega)
    rw [L9_0_succ]; unfold L9_0s; dsimp only
    simp only [List.append_nil] at h3 ⊢
    repeat' (first
      | with_reducible rfl
      | (with_reducible refine lt_i ?_; intro x hx; (try simp (disch := omega) only [wr, if_pos, if_neg, Int.sub_zero, Int.zero_add, sameV_self, List.length_append, List.length_cons, List.length_nil, List.length_replicate, List.length_take, List.length_drop, Int.natCast_add, Int.toNat_natCast] at hx); (try simp only [min_if', max_if'] at hx); subst hx)
      | (with_reducible refine bif_t ?_ ?_; · ((try simp (disch := omega) only [wr, if_pos, if_neg, sameV_self, List.length_append, List.length_cons, List.length_nil, List.length_replicate, List.length_take, List.length_drop, Int.natCast_add, Int.toNat_natCast]); (try simp only [min_if', max_if']); (try simp only [Bool.true_and, Bool.and_true, Bool.and_eq_true, Bool.and_eq_false_iff, Bool.or_eq_true, Bool.or_eq_false_iff, true_and, and_true, decide_eq_true_eq, decide_eq_false_iff_not, beq_iff_eq, beq_eq_false_iff_ne, bne_iff_ne, bne_eq_false_iff_eq, ne_eq, Bool.not_eq_true', Bool.not_eq_false', Decidable.not_not]) <;> omega))
      | (with_reducible refine bif_f ?_ ?_; · ((try simp (disch := omega) only [wr, if_pos, if_neg, sameV_self, List.length_append, List.length_cons, List.length_nil, List.length_replicate, List.length_take, List.length_drop, Int.natCast_add, Int.toNat_natCast]); (try simp only [min_if', max_if']); (try simp only [Bool.true_and, Bool.and_true, Bool.and_eq_true, Bool.and_eq_false_iff, Bool.or_eq_true, Bool.or_eq_false_iff, true_and, and_true, decide_eq_true_eq, decide_eq_false_iff_not, beq_iff_eq, beq_eq_false_iff_ne, bne_iff_ne, bne_eq_false_iff_eq, ne_eq, Bool.not_eq_true', Bool.not_eq_false', Decidable.not_not]) <;> omega))
      | (with_reducible refine bif_s ?_ ?_ <;> (intro hc; (try simp (disch := omega) only [wr, if_pos, if_neg, sameV_self, List.length_append, List.length_cons, List.length_nil, List.length_replicate, List.length_take, List.length_drop, Int.natCast_add, Int.toNat_natCast] at hc); (try simp only [min_if', max_if'] at hc); (try simp only [Bool.true_and, Bool.and_true, Bool.and_eq_true, Bool.and_eq_false_iff, Bool.or_eq_true, Bool.or_eq_false_iff, true_and, and_true, decide_eq_true_eq, decide_eq_false_iff_not, beq_iff_eq, beq_eq_false_iff_ne, bne_iff_ne, bne_eq_false_iff_eq, ne_eq, Bool.not_eq_true', Bool.not_eq_false', Decidable.not_not] at hc)))
      | fail "stuck")
    all_goals contradiction
  | cons x rest ih =>
    intro pre n hn h3
    obtain ⟨n, rfl⟩ := one_more n (by simp at hn; omega)
    simp only [List.length_append, List.length_cons] at h3 hn
    rw [L9_0_succ]; unfold L9_0s; dsimp only
    have := ih (pre ++ [x]) n (by omega) (by simp; omega)
    rw [rightV_snoc] at this
    simp only [List.append_assoc, List.cons_append, List.nil_append, List.length_append, List.length_cons, List.length_nil] at this
    repeat' (first
      | with_reducible rfl
      | (with_reducible refine lt_i ?_; intro x hx; (try simp (disch := omega) only [wr, if_pos, if_neg, Int.sub_zero, Int.zero_add, getD_mid, List.length_append, List.length_cons, List.length_nil, List.length_replicate, List.length_take, List.length_drop, Int.natCast_add, Int.toNat_natCast] at hx); (try simp only [min_if', max_if'] at hx); subst hx)
      | (with_reducible refine bif_t ?_ ?_; · ((try simp (disch := omega) only [wr, if_pos, if_neg, getD_mid, List.length_append, List.length_cons, List.length_nil, List.length_replicate, List.length_take, List.length_drop, Int.natCast_add, Int.toNat_natCast]); (try simp only [min_if', max_if']); (try simp only [Bool.true_and, Bool.and_true, Bool.and_eq_true, Bool.and_eq_false_iff, Bool.or_eq_true, Bool.or_eq_false_iff, true_and, and_true, decide_eq_true_eq, decide_eq_false_iff_not, beq_iff_eq, beq_eq_false_iff_ne, bne_iff_ne, bne_eq_false_iff_eq, ne_eq, Bool.not_eq_true', Bool.not_eq_false', Decidable.not_not]) <;> omega))
      | (with_reducible refine bif_f ?_ ?_; · ((try simp (disch := omega) only [wr, if_pos, if_neg, getD_mid, List.length_append, List.length_cons, List.length_nil, List.length_replicate, List.length_take, List.length_drop, Int.natCast_add, Int.toNat_natCast]); (try simp only [min_if', max_if']); (try simp only [Bool.true_and, Bool.and_true, Bool.and_eq_true, Bool.and_eq_false_iff, Bool.or_eq_true, Bool.or_eq_false_iff, true_and, and_true, decide_eq_true_eq, decide_eq_false_iff_not, beq_iff_eq, beq_eq_false_iff_ne, bne_iff_ne, bne_eq_false_iff_eq, ne_eq, Bool.not_eq_true', Bool.not_eq_false', Decidable.not_not]) <;> omega))
      | (with_reducible refine bif_s ?_ ?_ <;> (intro hc; (try simp (disch := omega) only [wr, if_pos, if_neg, getD_mid, List.length_append, List.length_cons, List.length_nil, List.length_replicate, List.length_take, List.length_drop, Int.natCast_add, Int.toNat_natCast] at hc); (try simp only [min_if', max_if'] at hc); (try simp only [Bool.true_and, Bool.and_true, Bool.and_eq_true, Bool.and_eq_false_iff, Bool.or_eq_true, Bool.or_eq_false_iff, true_and, and_true, decide_eq_true_eq, decide_eq_false_iff_not, beq_iff_eq, beq_eq_false_iff_ne, bne_iff_ne, bne_eq_false_iff_eq, ne_eq, Bool.not_eq_true', Bool.not_eq_false', Decidable.not_not] at hc)))
      | fail "stuck")
    all_goals
      simp (disch := omega) only [wr, getD_mid, Int.toNat_natCast, List.length_append, List.length_cons, List.length_nil, Int.natCast_add, List.append_assoc, List.cons_append, List.nil_append] at this ⊢
    · rw [show (rightV pre && decide (0 ≤ x ∧ x ≤ 1152921504606846976)) = decide (x ≤ 1152921504606846976) by simp [*]] at this
      exact this
    · rw [show (rightV pre && decide (0 ≤ x ∧ x ≤ 1152921504606846976)) = false by simp <;> omega] at this
      exact this
    · rw [show (rightV pre && decide (0 ≤ x ∧ x ≤ 1152921504606846976)) = false by simp [*]] at this
      exact this

theorem spec9 (a0 : Int) (w0 : (Lit.int .i64 a0).wf = true) (a1 : Int) (w1 : (Lit.int .i64 a1).wf = true) (a2 : Int) (w2 : (Lit.int .i64 a2).wf = true) (a3 : Int) (w3 : (Lit.int .i64 a3).wf = true) (a4 : List Int) (w4 : ∀ n ∈ a4, (Lit.int .i64 n).wf = true) : ∃ m, t9 m a0 a1 a2 a3 a4 = some [.b true] := by
  refine ⟨32, ?_⟩
  unfold t9
  have hx : (if 30 < (a4.length : Int) then 30 else (a4.length : Int)) = (min 30 a4.length : Nat) := by split <;> omega
  rw [hx]
  refine lt_i fun x1 h1 => ?_
  subst h1
  rw [Int.toNat_natCast]
  have hlen : (List.take (min 30 a4.length) a4).length = min 30 a4.length := by simp
  generalize hown : List.take (min 30 a4.length) a4 = own
  rw [hown] at hlen
  have h30 : own.length ≤ 30 := by omega
  repeat' (first
    | with_reducible rfl
    | (with_reducible refine lt_i ?_; intro x hx; (try simp (disch := omega) only [wr, if_pos, if_neg, Int.sub_zero, Int.zero_add, List.take_left, List.length_append, List.length_cons, List.length_nil, List.length_replicate, List.length_take, List.length_drop, Int.natCast_add, Int.toNat_natCast] at hx); (try simp only [min_if', max_if'] at hx); subst hx)
    | (with_reducible refine bif_t ?_ ?_; · ((try simp (disch := omega) only [wr, if_pos, if_neg, List.take_left, List.length_append, List.length_cons, List.length_nil, List.length_replicate, List.length_take, List.length_drop, Int.natCast_add, Int.toNat_natCast]); (try simp only [min_if', max_if']); (try simp only [Bool.true_and, Bool.and_true, Bool.and_eq_true, Bool.and_eq_false_iff, Bool.or_eq_true, Bool.or_eq_false_iff, true_and, and_true, decide_eq_true_eq, decide_eq_false_iff_not, beq_iff_eq, beq_eq_false_iff_ne, bne_iff_ne, bne_eq_false_iff_eq, ne_eq, Bool.not_eq_true', Bool.not_eq_false', Decidable.not_not]) <;> omega))
    | (with_reducible refine bif_f ?_ ?_; · ((try simp (disch := omega) only [wr, if_pos, if_neg, List.take_left, List.length_append, List.length_cons, List.length_nil, List.length_replicate, List.length_take, List.length_drop, Int.natCast_add, Int.toNat_natCast]); (try simp only [min_if', max_if']); (try simp only [Bool.true_and, Bool.and_true, Bool.and_eq_true, Bool.and_eq_false_iff, Bool.or_eq_true, Bool.or_eq_false_iff, true_and, and_true, decide_eq_true_eq, decide_eq_false_iff_not, beq_iff_eq, beq_eq_false_iff_ne, bne_iff_ne, bne_eq_false_iff_eq, ne_eq, Bool.not_eq_true', Bool.not_eq_false', Decidable.not_not]) <;> omega))
    | (with_reducible refine bif_s ?_ ?_ <;> (intro hc; (try simp (disch := omega) only [wr, if_pos, if_neg, List.take_left, List.length_append, List.length_cons, List.length_nil, List.length_replicate, List.length_take, List.length_drop, Int.natCast_add, Int.toNat_natCast] at hc); (try simp only [min_if', max_if'] at hc); (try simp only [Bool.true_and, Bool.and_true, Bool.and_eq_true, Bool.and_eq_false_iff, Bool.or_eq_true, Bool.or_eq_false_iff, true_and, and_true, decide_eq_true_eq, decide_eq_false_iff_not, beq_iff_eq, beq_eq_false_iff_ne, bne_iff_ne, bne_eq_false_iff_eq, ne_eq, Bool.not_eq_true', Bool.not_eq_false', Decidable.not_not] at hc)))
    | fail "stuck")
  rw [List.take_left]
  exact tellsL9 32 _ _ _ _ own [] 32 (by omega) (by simp; omega)

theorem walkCentsTells (w : World) (a0 : Int) (w0 : (Lit.int .i64 a0).wf = true) (a1 : Int) (w1 : (Lit.int .i64 a1).wf = true) (a2 : Int) (w2 : (Lit.int .i64 a2).wf = true) (a3 : Int) (w3 : (Lit.int .i64 a3).wf = true) (b4 : LArg) (o4 : b4.ok w) (p4 : b4.vp = .ints .i64) (u4 : ∀ n, (∃ xs, b4.un = .l xs ∧ n ∈ xs) → (Lit.int .i64 n).wf = true) : Calls Try.prog 9 #[.int .i64 a0, .int .i64 a1, .int .i64 a2, .int .i64 a3, b4.val] w fun e w' => e = .returned (.bool true) ∧ RowKit.Below w.heap.size w w' := by
  obtain ⟨x4, hx4⟩ := LArg.list p4
  obtain ⟨m, hm⟩ := spec9 a0 w0 a1 w1 a2 w2 a3 w3 x4 (fun n hn => u4 n ⟨_, hx4, hn⟩)
  exact law_lists Seat.mix Seat.names TE_right (xs := [.i .i64 a0, .i .i64 a1, .i .i64 a2, .i .i64 a3, b4]) (vps := N9.vals) (tells9 m a0 a1 a2 a3 x4 hm) (by simp only [List.map_cons, List.map_nil, hx4] <;> rfl) (by simp only [List.map_cons, List.map_nil, p4] <;> rfl)
    (by intro a ha; simp only [List.mem_cons, List.not_mem_nil, or_false] at ha; rcases ha with rfl | rfl | rfl | rfl | rfl <;> first | assumption | trivial)
end Go.Proofs.Ytlnnlkjjgenddaa
