/- The law ShareTells answers true. Conditions: none. -/
import Derived.Test.YtibenahgbdhegaaShareRef
namespace Go.Proofs.Ytibenahgbdhegaa
open Go Go.Proofs.Ytibenahgbdhegaa.Ev
set_option linter.unusedVariables false
set_option linter.unusedSimpArgs false
set_option linter.unnecessarySimpa false
theorem inOrd_len : ∀ (l : List Int) (n : Int), (inOrd n l).length = l.length
  | [], _ => rfl
  | c :: l, n => by simp [inOrd, inOrd_len l]
theorem dealZ_len (z : Int) : ∀ (k : Nat) (o l : List Int), (dealZ z k o l).length = o.length
  | 0, _, _ => rfl
  | k + 1, o, l => by simp [dealZ, dealZ_len z k]
theorem proV_len (n : Int) (l : List Int) : (proV n l).length = l.length := by
  unfold proV
  cases sumOk l
  · simp
  · cases decide (max n 0 ≥ sumV l)
    · simp [dealZ_len, floors]
    · simp


/-! cascade/cascadelaw4.ShareTells -/
def N4 : Pn := ⟨[.int .i64, .ints .i64], []⟩
def X4 : Pn := ⟨[.bool], []⟩
def t4 (m : Nat) (a0 : Int) (a1 : List Int) : Option (List Un) :=
  lt ((if 12 < (a1.length : Int) then 12 else (a1.length : Int)) : Int) fun x1 =>
  bif decide (0 ≤ x1) && (true && decide (0 ≤ x1.toNat ∧ x1.toNat ≤ a1.length)) then
   bif decide ((0 + (List.take x1.toNat a1).length) < 1099511627776 ∧ (0 + (List.take x1.toNat a1).length) * 8 < 35184372088832) then
    bif decide ((List.take x1.toNat a1).length < 1099511627776) then
     lt (((List.take x1.toNat a1) ++ List.replicate 80 7) : List Int) fun l2 =>
     bif decide (0 ≤ ((List.take x1.toNat a1).length : Int)) && (true && decide (0 ≤ (List.take x1.toNat a1).length ∧ (List.take x1.toNat a1).length ≤ l2.length)) then
      bif decide (a0 ≤ 9223372036854775807 ∧ (List.take ((List.take x1.toNat a1).length) l2).length < 1099511627776) then
       lt ((inOrd (max a0 0) (List.take ((List.take x1.toNat a1).length) l2)) : List Int) fun l3 =>
       lt ((if a0 < 0 then 0 else a0) : Int) fun x4 =>
       bif decide (0 ≤ x4 ∧ x4 ≤ 9223372036854775807 ∧ (List.take x1.toNat a1).length < 1099511627776) then
        bif decide (l3.length < 1099511627776) then
         bif (sameV l3 (inOrd (max x4 0) (List.take x1.toNat a1))) then
          bif decide (a0 ≤ 9223372036854775807 ∧ (List.take ((List.take x1.toNat a1).length) l2).length < 1099511627776) then
           lt ((proV a0 (List.take ((List.take x1.toNat a1).length) l2)) : List Int) fun l6 =>
           bif decide (a0 ≤ 9223372036854775807 ∧ (List.take x1.toNat a1).length < 1099511627776) then
            bif decide (l6.length < 1099511627776) then
             bif (sameV l6 (proV a0 (List.take x1.toNat a1))) then
              bif decide (l2.length < 1099511627776 ∧ (List.take x1.toNat a1).length < 1099511627776) then
               bif (sameV l2 ((List.take x1.toNat a1) ++ List.replicate 80 7)) then
                some [.b true]
               else
                some [.b false]
              else
               none
             else
              some [.b false]
            else
             none
           else
            none
          else
           none
         else
          some [.b false]
        else
         none
       else
        none
      else
       none
     else
      none
    else
     none
   else
    none
  else
   none
def T4 : TabS := tabS TE [(9, e9), (10, e10), (11, e11), (13, e13), (14, e14), (15, e15), (16, e16)]
theorem T4_right : TabRight Try.prog [] (ofTab TE) T4 := tabS_right (all1 right9 (all1 right10 (all1 right11 (all1 right13 (all1 right14 (all1 right15 (all1 right16 all0)))))))
theorem G4 (m : Nat) (a0 : Int) (a1 : List Int) : roadInS Try.prog [] T4 KN (fnOf Try.prog 4) N4 [.i a0, .l a1] (kksS Try.prog (fnOf Try.prog 4).results.toList X4 0 []) = t4 m a0 a1 := by kernel_rfl
theorem tells4 (m : Nat) (a0 : Int) (a1 : List Int) {ys : List Un} (h : t4 m a0 a1 = some ys) : TellsS Try.prog [] (ofTab TE) 4 N4 X4 [.i a0, .l a1] ys :=
  tells_road KN_none T4_right (W := []) (by kernel_rfl) (by kernel_rfl) (by kernel_rfl)
    all0 ((G4 m a0 a1).trans h)


theorem spec4 (a0 : Int) (w0 : (Lit.int .i64 a0).wf = true) (a1 : List Int) (w1 : ∀ n ∈ a1, (Lit.int .i64 n).wf = true) : ∃ m, t4 m a0 a1 = some [.b true] := by
  refine ⟨0, ?_⟩
  unfold t4
  have hn := bounds_i64 w0
  have hx : (if 12 < (a1.length : Int) then 12 else (a1.length : Int)) = (min 12 a1.length : Nat) := by split <;> omega
  rw [hx]
  refine lt_i fun x1 h1 => ?_
  subst h1
  rw [Int.toNat_natCast]
  have hlen : (List.take (min 12 a1.length) a1).length = min 12 a1.length := by simp
  generalize hown : List.take (min 12 a1.length) a1 = own
  rw [hown] at hlen
  have h30 : own.length ≤ 12 := by omega
  have hm : max (max a0 0) 0 = max a0 0 := by omega
  repeat' (first
    | with_reducible rfl
    | (with_reducible refine lt_i ?_; intro x hx; (try simp (disch := omega) only [wr, if_pos, if_neg, Int.sub_zero, Int.zero_add, hm, List.take_left, inOrd_len, proV_len, sameV_self, List.length_append, List.length_cons, List.length_nil, List.length_replicate, List.length_take, List.length_drop, Int.natCast_add, Int.toNat_natCast] at hx); (try simp only [min_if', max_if'] at hx); subst hx)
    | (with_reducible refine bif_t ?_ ?_; · ((try simp (disch := omega) only [wr, if_pos, if_neg, hm, List.take_left, inOrd_len, proV_len, sameV_self, List.length_append, List.length_cons, List.length_nil, List.length_replicate, List.length_take, List.length_drop, Int.natCast_add, Int.toNat_natCast]); (first | done | ((try simp only [min_if', max_if']); (first | done | ((try simp only [Bool.true_and, Bool.and_true, Bool.and_eq_true, Bool.and_eq_false_iff, Bool.or_eq_true, Bool.or_eq_false_iff, true_and, and_true, decide_eq_true_eq, decide_eq_false_iff_not, beq_iff_eq, beq_eq_false_iff_ne, bne_iff_ne, bne_eq_false_iff_eq, ne_eq, Bool.not_eq_true', Bool.not_eq_false', Decidable.not_not]) <;> omega))))))
    | (with_reducible refine bif_f ?_ ?_; · ((try simp (disch := omega) only [wr, if_pos, if_neg, hm, List.take_left, inOrd_len, proV_len, sameV_self, List.length_append, List.length_cons, List.length_nil, List.length_replicate, List.length_take, List.length_drop, Int.natCast_add, Int.toNat_natCast]); (first | done | ((try simp only [min_if', max_if']); (first | done | ((try simp only [Bool.true_and, Bool.and_true, Bool.and_eq_true, Bool.and_eq_false_iff, Bool.or_eq_true, Bool.or_eq_false_iff, true_and, and_true, decide_eq_true_eq, decide_eq_false_iff_not, beq_iff_eq, beq_eq_false_iff_ne, bne_iff_ne, bne_eq_false_iff_eq, ne_eq, Bool.not_eq_true', Bool.not_eq_false', Decidable.not_not]) <;> omega))))))
    | (with_reducible refine bif_s ?_ ?_ <;> (intro hc; (try simp (disch := omega) only [wr, if_pos, if_neg, hm, List.take_left, inOrd_len, proV_len, sameV_self, List.length_append, List.length_cons, List.length_nil, List.length_replicate, List.length_take, List.length_drop, Int.natCast_add, Int.toNat_natCast] at hc); (try simp only [min_if', max_if'] at hc); (try simp only [Bool.true_and, Bool.and_true, Bool.and_eq_true, Bool.and_eq_false_iff, Bool.or_eq_true, Bool.or_eq_false_iff, true_and, and_true, decide_eq_true_eq, decide_eq_false_iff_not, beq_iff_eq, beq_eq_false_iff_ne, bne_iff_ne, bne_eq_false_iff_eq, ne_eq, Bool.not_eq_true', Bool.not_eq_false', Decidable.not_not] at hc)))
    | fail "stuck")

theorem walkShareTells (w : World) (a0 : Int) (w0 : (Lit.int .i64 a0).wf = true) (b1 : LArg) (o1 : b1.ok w) (p1 : b1.vp = .ints .i64) (u1 : ∀ n, (∃ xs, b1.un = .l xs ∧ n ∈ xs) → (Lit.int .i64 n).wf = true) : Calls Try.prog 4 #[.int .i64 a0, b1.val] w fun e w' => e = .returned (.bool true) ∧ RowKit.Below w.heap.size w w' := by
  obtain ⟨x1, hx1⟩ := LArg.list p1
  obtain ⟨m, hm⟩ := spec4 a0 w0 x1 (fun n hn => u1 n ⟨_, hx1, hn⟩)
  exact law_lists Seat.mix Seat.names TE_right (xs := [.i .i64 a0, b1]) (vps := N4.vals) (tells4 m a0 x1 hm) (by simp only [List.map_cons, List.map_nil, hx1] <;> rfl) (by simp only [List.map_cons, List.map_nil, p1] <;> rfl)
    (by intro a ha; simp only [List.mem_cons, List.not_mem_nil, or_false] at ha; rcases ha with rfl | rfl <;> first | assumption | trivial)
end Go.Proofs.Ytibenahgbdhegaa
