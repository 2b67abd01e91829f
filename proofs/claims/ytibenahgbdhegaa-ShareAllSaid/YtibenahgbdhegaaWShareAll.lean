/- The law ShareAll answers true. Conditions: none. -/
import Derived.Test.YtibenahgbdhegaaShareAid
namespace Go.Proofs.Ytibenahgbdhegaa
open Go Go.Proofs.Ytibenahgbdhegaa.Ev
set_option linter.unusedVariables false
set_option linter.unusedSimpArgs false
set_option linter.unnecessarySimpa false
theorem inOrd_mem : ∀ (l : List Int) (n : Int), 0 ≤ n → ∀ x ∈ inOrd n l, 0 ≤ x ∧ x ≤ n
  | [], n, _, x, h => by simp [inOrd] at h
  | c :: l, n, h, x, hx => by
    simp only [inOrd, List.mem_cons] at hx
    rcases hx with rfl | hx
    · omega
    · have := inOrd_mem l _ (by omega) x hx
      omega
theorem rightV_nil : rightV [] = true := rfl


/-! cascade/cascadelaw4.ShareAll -/
def N5 : Pn := ⟨[.int .i64, .ints .i64], []⟩
def X5 : Pn := ⟨[.bool], []⟩
def L5_0s (m : Nat) (k : List Un → Option (List Un)) : List Un → Option (List Un)
  | [.i a0, .i a1, .b a2, .i a3, .i a4, .l a5, .l a6, .l a7] =>
    bif decide (a4 < a3) then
     bif decide ((0 : Int) ≤ a4 ∧ a4 < (a6.length : Int)) then
      bif decide (a4.toNat < a6.length) then
       bif (decide ((a6.getD a4.toNat 0) < 0)) then
        some [.b false]
       else
        bif decide ((0 : Int) ≤ a4 ∧ a4 < (a6.length : Int)) then
         bif decide (a4.toNat < a6.length) then
          bif decide ((0 : Int) ≤ a4 ∧ a4 < (a5.length : Int)) then
           bif decide (a4.toNat < a5.length) then
            bif (decide ((a6.getD a4.toNat 0) > (a5.getD a4.toNat 0))) then
             some [.b false]
            else
             bif decide ((0 : Int) ≤ a4 ∧ a4 < (a7.length : Int)) then
              bif decide (a4.toNat < a7.length) then
               bif (decide ((a7.getD a4.toNat 0) < 0)) then
                some [.b false]
               else
                bif decide ((0 : Int) ≤ a4 ∧ a4 < (a7.length : Int)) then
                 bif decide (a4.toNat < a7.length) then
                  bif decide ((0 : Int) ≤ a4 ∧ a4 < (a5.length : Int)) then
                   bif decide (a4.toNat < a5.length) then
                    bif (decide ((a7.getD a4.toNat 0) > (a5.getD a4.toNat 0))) then
                     some [.b false]
                    else
                     bif a2 then
                      bif decide ((0 : Int) ≤ a4 ∧ a4 < (a6.length : Int)) then
                       bif decide (a4.toNat < a6.length) then
                        bif (decide ((a6.getD a4.toNat 0) > 0)) then
                         some [.b false]
                        else
                         bif a2 then
                          k [.i a0, .i a1, .b true, .i a3, .i (IntKind.i64.wrap (a4 + 1)), .l a5, .l a6, .l a7]
                         else
                          bif decide ((0 : Int) ≤ a4 ∧ a4 < (a6.length : Int)) then
                           bif decide (a4.toNat < a6.length) then
                            bif decide ((0 : Int) ≤ a4 ∧ a4 < (a5.length : Int)) then
                             bif decide (a4.toNat < a5.length) then
                              k [.i a0, .i a1, .b (decide ((a6.getD a4.toNat 0) < (a5.getD a4.toNat 0))), .i a3, .i (IntKind.i64.wrap (a4 + 1)), .l a5, .l a6, .l a7]
                             else
                              none
                            else
                             none
                           else
                            none
                          else
                           none
                       else
                        none
                      else
                       none
                     else
                      bif a2 then
                       k [.i a0, .i a1, .b true, .i a3, .i (IntKind.i64.wrap (a4 + 1)), .l a5, .l a6, .l a7]
                      else
                       bif decide ((0 : Int) ≤ a4 ∧ a4 < (a6.length : Int)) then
                        bif decide (a4.toNat < a6.length) then
                         bif decide ((0 : Int) ≤ a4 ∧ a4 < (a5.length : Int)) then
                          bif decide (a4.toNat < a5.length) then
                           k [.i a0, .i a1, .b (decide ((a6.getD a4.toNat 0) < (a5.getD a4.toNat 0))), .i a3, .i (IntKind.i64.wrap (a4 + 1)), .l a5, .l a6, .l a7]
                          else
                           none
                         else
                          none
                        else
                         none
                       else
                        none
                   else
                    none
                  else
                   none
                 else
                  none
                else
                 none
              else
               none
             else
              none
           else
            none
          else
           none
         else
          none
        else
         none
      else
       none
     else
      none
    else
     bif decide (a6.length < 1099511627776) then
      bif decide (a7.length < 1099511627776) then
       bif (sumV a6) == (if a0 < a1 then a0 else a1) then
        bif (sumV a7) == (sumV a6) then
         bif decide (0 ≤ a1 ∧ a1 ≤ 9223372036854775807 ∧ a6.length < 1000000) && rightV a6 then
          lt ((IntKind.i64.wrap (a1 - a0)) : Int) fun x18 =>
          bif (leftV a1 a6) == (if x18 < 0 then 0 else x18) then
           bif decide (0 ≤ a1 ∧ a1 ≤ 9223372036854775807 ∧ ([] : List Int).length < 1000000) && rightV ([] : List Int) then
            bif (leftV a1 ([] : List Int)) == a1 then
             some [.b true]
            else
             some [.b false]
           else
            none
          else
           some [.b false]
         else
          none
        else
         some [.b false]
       else
        some [.b false]
      else
       none
     else
      none
  | _ => none
def L5_0 (m : Nat) : Nat → List Un → Option (List Un) := iterS (L5_0s m)
theorem L5_0_succ (m : Nat) (n : Nat) : L5_0 m (n + 1) = L5_0s m (L5_0 m n) := rfl
def P5_0 : Pn := ⟨[.any, .any, .any, .any, .any, .buf 0 1, .int .i64, .any, .int .i64, .buf 1 1, .buf 2 1, .bool, .any, .any, .any, .any, .any, .any, .any, .any, .any, .any, .any, .any, .any, .any, .any, .any, .any, .any, .any, .any, .any, .any, .any, .any, .any, .any, .any, .any, .any, .any, .any, .any, .any, .any, .any, .any, .any, .any, .any, .int .i64, .int .i64, .any, .any, .any, .any, .any, .any, .any, .any, .any, .any, .any, .any, .any, .any, .any, .any, .any, .any, .any, .any, .any, .any, .any, .any, .any, .any, .any, .any, .any, .any, .any, .any, .any, .any, .any, .any, .any, .any, .any, .any, .any, .any, .any, .any, .any, .any, .any, .any, .any, .any, .any, .any, .any, .any, .any, .any, .any, .any, .any, .any, .any, .any, .any, .any, .any, .any, .any, .any, .any, .any, .any, .any, .any, .any, .any, .any, .any, .any, .any, .any, .any, .any, .any, .any, .any, .any, .any, .any, .any, .any, .any, .any, .any, .any, .any, .any, .any, .any], [.ints .i64, .ints .i64, .ints .i64]⟩
def S5_0 (F : List Un → Option (List Un)) : StopS := ⟨[.lp [0, 1, 0, 1, 1, 1, 1, 1, 1, 1], .blk 0, .code [1, 1, 1, 1, 1, 1, 1, 1]], P5_0, F⟩
def t5 (m : Nat) (a0 : Int) (a1 : List Int) : Option (List Un) :=
  bif decide ((claimsV a1).length < 1099511627776) then
   lt ((IntKind.i64.wrap ((sumV (claimsV a1)) + 9)) : Int) fun x1 =>
   bif decide (-2305843009213693952 ≤ 0 ∧ 0 ≤ x1 ∧ x1 ≤ 2305843009213693952) then
    bif decide ((within a0 0 x1) ≤ 9223372036854775807 ∧ (claimsV a1).length < 1099511627776) then
     lt ((inOrd (max (within a0 0 x1) 0) (claimsV a1)) : List Int) fun l2 =>
     bif decide ((within a0 0 x1) ≤ 9223372036854775807 ∧ (claimsV a1).length < 1099511627776) then
      lt ((proV (within a0 0 x1) (claimsV a1)) : List Int) fun l3 =>
      bif !(sumOk (claimsV a1)) then
       some [.b false]
      else
       bif ((l2.length : Int) != ((claimsV a1).length : Int)) then
        some [.b false]
       else
        bif ((l3.length : Int) != ((claimsV a1).length : Int)) then
         some [.b false]
        else
         L5_0 m m [.i (sumV (claimsV a1)), .i (within a0 0 x1), .b false, .i ((claimsV a1).length : Int), .i 0, .l (claimsV a1), .l l2, .l l3]
     else
      none
    else
     none
   else
    none
  else
   none
def T5 : TabS := tabS TE [(10, e10), (11, e11), (12, e12), (17, e17), (18, e18)]
theorem T5_right : TabRight Try.prog [] (ofTab TE) T5 := tabS_right (all1 right10 (all1 right11 (all1 right12 (all1 right17 (all1 right18 all0)))))
theorem G5_0 (m : Nat) (k : List Un → Option (List Un)) (a0 : Int) (a1 : Int) (a2 : Bool) (a3 : Int) (a4 : Int) (a5 : List Int) (a6 : List Int) (a7 : List Int) : roadFromS Try.prog [] T5 KN (bodyOf (fnOf Try.prog 5)) [0, 1, 0, 1, 1, 1, 1, 1, 1, 1] [.blk 0, .code [1, 1, 1, 1, 1, 1, 1, 1]] P5_0 [.i a0, .i a1, .b a2, .i a3, .i a4, .l a5, .l a6, .l a7] (kksS Try.prog (fnOf Try.prog 5).results.toList X5 0 [S5_0 k]) = L5_0s m k [.i a0, .i a1, .b a2, .i a3, .i a4, .l a5, .l a6, .l a7] := by kernel_rfl
theorem Y5_0 {m : Nat} {k : List Un → Option (List Un)} {xs : List Un} {v : List Un} (h : L5_0s m k xs = some v) : ∃ a0 a1 a2 a3 a4 a5 a6 a7, xs = [.i a0, .i a1, .b a2, .i a3, .i a4, .l a5, .l a6, .l a7] := by
  unfold L5_0s at h
  split at h
  · exact ⟨_, _, _, _, _, _, _, _, rfl⟩
  · cases h
theorem H5_0 (m : Nat) : ∀ n, HoldsS Try.prog [] (ofTab TE) (fnOf Try.prog 5).results.toList X5 0 (bodyOf (fnOf Try.prog 5)) (S5_0 (L5_0 m n)) :=
  StopS.iter KN_none T5_right (mk := S5_0) (Fs := L5_0s m) (W := fun k => [S5_0 k]) (p := [0, 1, 0, 1, 1, 1, 1, 1, 1, 1]) (rest := [.blk 0, .code [1, 1, 1, 1, 1, 1, 1, 1]]) (pat := P5_0)
    (fun _ => rfl) (fun _ => rfl) (fun _ => rfl) (by kernel_rfl) (by kernel_rfl)
    (fun k h => (all1 h all0))
    (fun k xs v h => by
      obtain ⟨a0, a1, a2, a3, a4, a5, a6, a7, rfl⟩ := Y5_0 h
      exact (G5_0 m k a0 a1 a2 a3 a4 a5 a6 a7).trans h)
theorem G5 (m : Nat) (a0 : Int) (a1 : List Int) : roadInS Try.prog [] T5 KN (fnOf Try.prog 5) N5 [.i a0, .l a1] (kksS Try.prog (fnOf Try.prog 5).results.toList X5 0 [S5_0 (L5_0 m m)]) = t5 m a0 a1 := by kernel_rfl
theorem tells5 (m : Nat) (a0 : Int) (a1 : List Int) {ys : List Un} (h : t5 m a0 a1 = some ys) : TellsS Try.prog [] (ofTab TE) 5 N5 X5 [.i a0, .l a1] ys :=
  tells_road KN_none T5_right (W := [S5_0 (L5_0 m m)]) (by kernel_rfl) (by kernel_rfl) (by kernel_rfl)
    (all1 (H5_0 m m) all0) ((G5 m a0 a1).trans h)

theorem allL5 (m : Nat) (a tot : Int) (X Y c : List Int) (ha : 0 ≤ a) (ha2 : a ≤ 1152921504606846976) (fX : sumV X = min a tot) (fY : sumV Y = sumV X) (fL : leftV a X = max (a - tot) 0) (fR : rightV X = true) (ht : 0 ≤ tot ∧ tot ≤ 1152921504606846976) :
    ∀ (rest pre xp yp ys : List Int) (short : Bool) (n' : Int) (n : Nat), rest.length < n → c = pre ++ rest → X = xp ++ inOrd n' rest → Y = yp ++ ys → xp.length = pre.length → yp.length = pre.length → X.length = X.length → rest.length = ys.length →
    (∀ i, i < rest.length → 0 ≤ ys.getD i 0 ∧ ys.getD i 0 ≤ rest.getD i 0) → (∀ x ∈ rest, 0 ≤ x) → 0 ≤ n' → c.length < 1000000 → (short = true → n' = 0) →
    L5_0 m n [.i tot, .i a, .b short, .i (c.length : Int), .i (pre.length : Int), .l c, .l X, .l Y] = some [.b true] := by
  intro rest
  induction rest with
  | nil =>
    intro pre xp yp ys short n' n hn ec eX eY p1 p2 _ hy hb hr h0 hl hs
    obtain ⟨n, rfl⟩ := one_more n (by simp at hn; omega)
    obtain rfl : ys = [] := by cases ys <;> simp_all
    have l1 : c.length = pre.length := by rw [ec]; simp
    have l2 : X.length = pre.length := by rw [eX]; simp [inOrd, p1]
    have l3 : Y.length = pre.length := by rw [eY]; simp [p2]
    have fN : leftV a ([] : List Int) = a := by unfold leftV; simp; omega
    rw [L5_0_succ]; unfold L5_0s; dsimp only
    repeat' (first
      | with_reducible rfl
      | (with_reducible refine lt_i ?_; intro x hx; (try simp (disch := omega) only [wr, if_pos, if_neg, Int.sub_zero, Int.zero_add, fX, fY, fL, fN, fR, rightV_nil, List.length_append, List.length_cons, List.length_nil, List.length_replicate, List.length_take, List.length_drop, Int.natCast_add, Int.toNat_natCast] at hx); (try simp only [min_if', max_if'] at hx); subst hx)
      | (with_reducible refine bif_t ?_ ?_; · ((try simp (disch := omega) only [wr, if_pos, if_neg, fX, fY, fL, fN, fR, rightV_nil, List.length_append, List.length_cons, List.length_nil, List.length_replicate, List.length_take, List.length_drop, Int.natCast_add, Int.toNat_natCast]); (first | done | ((try simp only [min_if', max_if']); (first | done | ((try simp only [Bool.true_and, Bool.and_true, Bool.and_eq_true, Bool.and_eq_false_iff, Bool.or_eq_true, Bool.or_eq_false_iff, true_and, and_true, decide_eq_true_eq, decide_eq_false_iff_not, beq_iff_eq, beq_eq_false_iff_ne, bne_iff_ne, bne_eq_false_iff_eq, ne_eq, Bool.not_eq_true', Bool.not_eq_false', Decidable.not_not]) <;> omega))))))
      | (with_reducible refine bif_f ?_ ?_; · ((try simp (disch := omega) only [wr, if_pos, if_neg, fX, fY, fL, fN, fR, rightV_nil, List.length_append, List.length_cons, List.length_nil, List.length_replicate, List.length_take, List.length_drop, Int.natCast_add, Int.toNat_natCast]); (first | done | ((try simp only [min_if', max_if']); (first | done | ((try simp only [Bool.true_and, Bool.and_true, Bool.and_eq_true, Bool.and_eq_false_iff, Bool.or_eq_true, Bool.or_eq_false_iff, true_and, and_true, decide_eq_true_eq, decide_eq_false_iff_not, beq_iff_eq, beq_eq_false_iff_ne, bne_iff_ne, bne_eq_false_iff_eq, ne_eq, Bool.not_eq_true', Bool.not_eq_false', Decidable.not_not]) <;> omega))))))
      | (with_reducible refine bif_s ?_ ?_ <;> (intro hc; (try simp (disch := omega) only [wr, if_pos, if_neg, fX, fY, fL, fN, fR, rightV_nil, List.length_append, List.length_cons, List.length_nil, List.length_replicate, List.length_take, List.length_drop, Int.natCast_add, Int.toNat_natCast] at hc); (try simp only [min_if', max_if'] at hc); (try simp only [Bool.true_and, Bool.and_true, Bool.and_eq_true, Bool.and_eq_false_iff, Bool.or_eq_true, Bool.or_eq_false_iff, true_and, and_true, decide_eq_true_eq, decide_eq_false_iff_not, beq_iff_eq, beq_eq_false_iff_ne, bne_iff_ne, bne_eq_false_iff_eq, ne_eq, Bool.not_eq_true', Bool.not_eq_false', Decidable.not_not] at hc)))
      | fail "stuck")
  | cons x rest ih =>
    intro pre xp yp ys short n' n hn ec eX eY p1 p2 _ hy hb hr h0 hl hs
    obtain ⟨n, rfl⟩ := one_more n (by simp at hn; omega)
    obtain ⟨y, ys, rfl⟩ : ∃ y l, ys = y :: l := by cases ys <;> simp_all
    have hx := hr x (by simp)
    have hy0 := hb 0 (by simp)
    simp only [List.getD_cons_zero] at hy0
    simp only [inOrd] at eX
    have l1 : c.length = pre.length + (rest.length + 1) := by rw [ec]; simp
    have l2 : X.length = pre.length + (rest.length + 1) := by rw [eX]; simp [inOrd_len, p1]
    have l3 : Y.length = pre.length + (rest.length + 1) := by simp only [List.length_cons] at hy; rw [eY]; simp [p2]; omega
    have g1 : c.getD pre.length 0 = x := by rw [ec]; simp
    have g2 : X.getD pre.length 0 = max (min x n') 0 := by rw [eX, getD_mid2 _ _ _ _ _ p1]
    have g3 : Y.getD pre.length 0 = y := by rw [eY, getD_mid2 _ _ _ _ _ p2]
    have step := fun b h => ih (pre ++ [x]) (xp ++ [max (min x n') 0]) (yp ++ [y]) ys b (n' - max (min x n') 0) n (by simp at hn; omega) (by rw [ec]; simp) (by rw [eX]; simp) (by rw [eY]; simp) (by simp [p1]) (by simp [p2]) rfl (by simpa using hy)
      (fun i hi => by have := hb (i + 1) (by simp; omega); simpa using this) (fun z hz => hr z (by simp [hz])) (by omega) hl h
    rw [L5_0_succ]; unfold L5_0s; dsimp only
    simp only [Int.toNat_natCast, g1, g2, g3]
    cases short with
    | true =>
      have hn0 := hs rfl
      subst hn0
      have := step true (fun _ => by omega)
      simp only [List.length_append, List.length_cons, List.length_nil, Int.natCast_add] at this
      repeat' (first
        | with_reducible rfl
        | (with_reducible refine lt_i ?_; intro x hx; (try simp (disch := omega) only [wr, if_pos, if_neg, Int.sub_zero, Int.zero_add, List.length_append, List.length_cons, List.length_nil, List.length_replicate, List.length_take, List.length_drop, Int.natCast_add, Int.toNat_natCast] at hx); (try simp only [min_if', max_if'] at hx); subst hx)
        | (with_reducible refine bif_t ?_ ?_; · ((try simp (disch := omega) only [wr, if_pos, if_neg, List.length_append, List.length_cons, List.length_nil, List.length_replicate, List.length_take, List.length_drop, Int.natCast_add, Int.toNat_natCast]); (first | done | ((try simp only [min_if', max_if']); (first | done | ((try simp only [Bool.true_and, Bool.and_true, Bool.and_eq_true, Bool.and_eq_false_iff, Bool.or_eq_true, Bool.or_eq_false_iff, true_and, and_true, decide_eq_true_eq, decide_eq_false_iff_not, beq_iff_eq, beq_eq_false_iff_ne, bne_iff_ne, bne_eq_false_iff_eq, ne_eq, Bool.not_eq_true', Bool.not_eq_false', Decidable.not_not]) <;> omega))))))
        | (with_reducible refine bif_f ?_ ?_; · ((try simp (disch := omega) only [wr, if_pos, if_neg, List.length_append, List.length_cons, List.length_nil, List.length_replicate, List.length_take, List.length_drop, Int.natCast_add, Int.toNat_natCast]); (first | done | ((try simp only [min_if', max_if']); (first | done | ((try simp only [Bool.true_and, Bool.and_true, Bool.and_eq_true, Bool.and_eq_false_iff, Bool.or_eq_true, Bool.or_eq_false_iff, true_and, and_true, decide_eq_true_eq, decide_eq_false_iff_not, beq_iff_eq, beq_eq_false_iff_ne, bne_iff_ne, bne_eq_false_iff_eq, ne_eq, Bool.not_eq_true', Bool.not_eq_false', Decidable.not_not]) <;> omega))))))
        | (with_reducible refine bif_s ?_ ?_ <;> (intro hc; (try simp (disch := omega) only [wr, if_pos, if_neg, List.length_append, List.length_cons, List.length_nil, List.length_replicate, List.length_take, List.length_drop, Int.natCast_add, Int.toNat_natCast] at hc); (try simp only [min_if', max_if'] at hc); (try simp only [Bool.true_and, Bool.and_true, Bool.and_eq_true, Bool.and_eq_false_iff, Bool.or_eq_true, Bool.or_eq_false_iff, true_and, and_true, decide_eq_true_eq, decide_eq_false_iff_not, beq_iff_eq, beq_eq_false_iff_ne, bne_iff_ne, bne_eq_false_iff_eq, ne_eq, Bool.not_eq_true', Bool.not_eq_false', Decidable.not_not] at hc)))
        | fail "stuck")
      simp (disch := omega) only [wr]
      exact this
    | false =>
      have := step (decide (max (min x n') 0 < x)) (fun h => by have := of_decide_eq_true h; omega)
      simp only [List.length_append, List.length_cons, List.length_nil, Int.natCast_add] at this
      repeat' (first
        | with_reducible rfl
        | (with_reducible refine lt_i ?_; intro x hx; (try simp (disch := omega) only [wr, if_pos, if_neg, Int.sub_zero, Int.zero_add, List.length_append, List.length_cons, List.length_nil, List.length_replicate, List.length_take, List.length_drop, Int.natCast_add, Int.toNat_natCast] at hx); (try simp only [min_if', max_if'] at hx); subst hx)
        | (with_reducible refine bif_t ?_ ?_; · ((try simp (disch := omega) only [wr, if_pos, if_neg, List.length_append, List.length_cons, List.length_nil, List.length_replicate, List.length_take, List.length_drop, Int.natCast_add, Int.toNat_natCast]); (first | done | ((try simp only [min_if', max_if']); (first | done | ((try simp only [Bool.true_and, Bool.and_true, Bool.and_eq_true, Bool.and_eq_false_iff, Bool.or_eq_true, Bool.or_eq_false_iff, true_and, and_true, decide_eq_true_eq, decide_eq_false_iff_not, beq_iff_eq, beq_eq_false_iff_ne, bne_iff_ne, bne_eq_false_iff_eq, ne_eq, Bool.not_eq_true', Bool.not_eq_false', Decidable.not_not]) <;> omega))))))
        | (with_reducible refine bif_f ?_ ?_; · ((try simp (disch := omega) only [wr, if_pos, if_neg, List.length_append, List.length_cons, List.length_nil, List.length_replicate, List.length_take, List.length_drop, Int.natCast_add, Int.toNat_natCast]); (first | done | ((try simp only [min_if', max_if']); (first | done | ((try simp only [Bool.true_and, Bool.and_true, Bool.and_eq_true, Bool.and_eq_false_iff, Bool.or_eq_true, Bool.or_eq_false_iff, true_and, and_true, decide_eq_true_eq, decide_eq_false_iff_not, beq_iff_eq, beq_eq_false_iff_ne, bne_iff_ne, bne_eq_false_iff_eq, ne_eq, Bool.not_eq_true', Bool.not_eq_false', Decidable.not_not]) <;> omega))))))
        | (with_reducible refine bif_s ?_ ?_ <;> (intro hc; (try simp (disch := omega) only [wr, if_pos, if_neg, List.length_append, List.length_cons, List.length_nil, List.length_replicate, List.length_take, List.length_drop, Int.natCast_add, Int.toNat_natCast] at hc); (try simp only [min_if', max_if'] at hc); (try simp only [Bool.true_and, Bool.and_true, Bool.and_eq_true, Bool.and_eq_false_iff, Bool.or_eq_true, Bool.or_eq_false_iff, true_and, and_true, decide_eq_true_eq, decide_eq_false_iff_not, beq_iff_eq, beq_eq_false_iff_ne, bne_iff_ne, bne_eq_false_iff_eq, ne_eq, Bool.not_eq_true', Bool.not_eq_false', Decidable.not_not] at hc)))
        | fail "stuck")
      simp (disch := omega) only [wr]
      exact this

theorem spec5 (a0 : Int) (w0 : (Lit.int .i64 a0).wf = true) (a1 : List Int) (w1 : ∀ n ∈ a1, (Lit.int .i64 n).wf = true) : ∃ m, t5 m a0 a1 = some [.b true] := by
  unfold t5
  have hcl := claimsV_len a1
  have hcm := claimsV_mem (l := a1)
  generalize claimsV a1 = c at *
  have hc0 : ∀ x ∈ c, 0 ≤ x := fun x hx => (hcm x hx).1
  obtain ⟨hsv, hok⟩ := sumV_ok (l := c) (b := 1099511627776) (by omega) hcm (by omega)
  have hsb := sum_bound c 1099511627776 (by omega) hcm
  have hw := within_le (a := a0) (lo := 0) (hi := c.sum + 9) (by omega)
  obtain ⟨a, hwa⟩ : ∃ a, within a0 0 (c.sum + 9) = a := ⟨_, rfl⟩
  rw [hwa] at hw
  refine ⟨13, ?_⟩
  have hm : max a 0 = a := by omega
  have xl := inOrd_len c a
  have xs := inOrd_sum c a hw.1 hc0
  have xm := inOrd_mem c a hw.1
  obtain ⟨ys, yb⟩ := proV_sum (a := a) (l := c) hw.1 hok
  have yl := proV_len a c
  have ym : ∀ x ∈ proV a c, 0 ≤ x ∧ x ≤ 1099511627776 := by
    intro x hx
    obtain ⟨j, hj, rfl⟩ := mem_getD hx
    have := yb j (by omega)
    have := hcm _ (getD_mem (l := c) (i := j) (by omega))
    omega
  obtain ⟨xv, _⟩ := sumV_ok (l := inOrd a c) (b := 17592186044416) (by omega) (fun x hx => by have := xm x hx; omega) (by omega)
  obtain ⟨yv, _⟩ := sumV_ok (l := proV a c) (b := 1099511627776) (by omega) ym (by omega)
  have fin := allL5 13 a c.sum (inOrd a c) (proV a c) c (by omega) (by omega) (by rw [xv, xs]) (by rw [yv, ys, xv, xs]) (by unfold leftV; rw [xs]; omega) (rightV_mem.2 (fun x hx => by have := xm x hx; omega)) (by omega) c [] [] [] (proV a c) false a 13 (by omega) rfl rfl rfl rfl rfl rfl yl.symm yb hc0 hw.1 (by omega) (fun h => by cases h)
  repeat' (first
    | with_reducible rfl
    | (with_reducible refine lt_i ?_; intro x hx; (try simp (disch := omega) only [wr, if_pos, if_neg, Int.sub_zero, Int.zero_add, hsv, hwa, hm, hok, Bool.not_true, xl, yl, List.length_append, List.length_cons, List.length_nil, List.length_replicate, List.length_take, List.length_drop, Int.natCast_add, Int.toNat_natCast] at hx); (try simp only [min_if', max_if'] at hx); subst hx)
    | (with_reducible refine bif_t ?_ ?_; · ((try simp (disch := omega) only [wr, if_pos, if_neg, hsv, hwa, hm, hok, Bool.not_true, xl, yl, List.length_append, List.length_cons, List.length_nil, List.length_replicate, List.length_take, List.length_drop, Int.natCast_add, Int.toNat_natCast]); (first | done | ((try simp only [min_if', max_if']); (first | done | ((try simp only [Bool.true_and, Bool.and_true, Bool.and_eq_true, Bool.and_eq_false_iff, Bool.or_eq_true, Bool.or_eq_false_iff, true_and, and_true, decide_eq_true_eq, decide_eq_false_iff_not, beq_iff_eq, beq_eq_false_iff_ne, bne_iff_ne, bne_eq_false_iff_eq, ne_eq, Bool.not_eq_true', Bool.not_eq_false', Decidable.not_not]) <;> omega))))))
    | (with_reducible refine bif_f ?_ ?_; · ((try simp (disch := omega) only [wr, if_pos, if_neg, hsv, hwa, hm, hok, Bool.not_true, xl, yl, List.length_append, List.length_cons, List.length_nil, List.length_replicate, List.length_take, List.length_drop, Int.natCast_add, Int.toNat_natCast]); (first | done | ((try simp only [min_if', max_if']); (first | done | ((try simp only [Bool.true_and, Bool.and_true, Bool.and_eq_true, Bool.and_eq_false_iff, Bool.or_eq_true, Bool.or_eq_false_iff, true_and, and_true, decide_eq_true_eq, decide_eq_false_iff_not, beq_iff_eq, beq_eq_false_iff_ne, bne_iff_ne, bne_eq_false_iff_eq, ne_eq, Bool.not_eq_true', Bool.not_eq_false', Decidable.not_not]) <;> omega))))))
    | (with_reducible refine bif_s ?_ ?_ <;> (intro hc; (try simp (disch := omega) only [wr, if_pos, if_neg, hsv, hwa, hm, hok, Bool.not_true, xl, yl, List.length_append, List.length_cons, List.length_nil, List.length_replicate, List.length_take, List.length_drop, Int.natCast_add, Int.toNat_natCast] at hc); (try simp only [min_if', max_if'] at hc); (try simp only [Bool.true_and, Bool.and_true, Bool.and_eq_true, Bool.and_eq_false_iff, Bool.or_eq_true, Bool.or_eq_false_iff, true_and, and_true, decide_eq_true_eq, decide_eq_false_iff_not, beq_iff_eq, beq_eq_false_iff_ne, bne_iff_ne, bne_eq_false_iff_eq, ne_eq, Bool.not_eq_true', Bool.not_eq_false', Decidable.not_not] at hc)))
    | fail "stuck")
  rw [hsv, hwa]
  exact fin

theorem walkShareAll (w : World) (a0 : Int) (w0 : (Lit.int .i64 a0).wf = true) (b1 : LArg) (o1 : b1.ok w) (p1 : b1.vp = .ints .i64) (u1 : ∀ n, (∃ xs, b1.un = .l xs ∧ n ∈ xs) → (Lit.int .i64 n).wf = true) : Calls Try.prog 5 #[.int .i64 a0, b1.val] w fun e w' => e = .returned (.bool true) ∧ RowKit.Below w.heap.size w w' := by
  obtain ⟨x1, hx1⟩ := LArg.list p1
  obtain ⟨m, hm⟩ := spec5 a0 w0 x1 (fun n hn => u1 n ⟨_, hx1, hn⟩)
  exact law_lists Seat.mix Seat.names TE_right (xs := [.i .i64 a0, b1]) (vps := N5.vals) (tells5 m a0 x1 hm) (by simp only [List.map_cons, List.map_nil, hx1] <;> rfl) (by simp only [List.map_cons, List.map_nil, p1] <;> rfl)
    (by intro a ha; simp only [List.mem_cons, List.not_mem_nil, or_false] at ha; rcases ha with rfl | rfl <;> first | assumption | trivial)
end Go.Proofs.Ytibenahgbdhegaa
