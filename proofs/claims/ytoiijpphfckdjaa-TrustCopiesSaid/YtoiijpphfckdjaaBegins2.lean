/- A part of the walk. -/
import Derived.Test.YtoiijpphfckdjaaBegins
namespace Go.Proofs.Ytoiijpphfckdjaa
open Go Go.Proofs.Ytoiijpphfckdjaa.Ev
set_option linter.unusedVariables false
set_option linter.unusedSimpArgs false
set_option linter.unnecessarySimpa false
def refQ (d : Dat) : List Int := [d.i 3, d.i 4, d.i 5]
def refNums (n : RefN) (pool notes : List Dat) : List Int := [n.period, n.mode, n.passed, n.out, n.fee, n.losses, n.recov, bI n.over, n.put, w64 (n.put - n.reserve)] ++ pool.flatMap loanQ ++ notes.flatMap refQ
/-! (cascade/cascaderef20.Trust).Numbers -/
noncomputable def N28 : RoadF := ⟨T26.tab, 28, ⟨[.agg [.int .i64, .int .i64, .int .i64, .any, .any, .int .i64, .int .i64, .int .i64, .int .i64, .int .i64, .int .i64, .int .i64, .int .i64, .int .i64, .int .i64, .any, .any, .any, .recs [.int .i64, .int .i64, .int .i64, .int .i64, .bool], .recs [.int .i64, .int .i64, .int .i64, .int .i64, .int .i64, .int .i64], .int .i64, .int .i64, .int .i64, .int .i64, .int .i64, .int .i64, .int .i64, .int .i64, .int .i64, .bool]], [], 0⟩, ⟨[.buf 0 1], [.ints .i64], 0⟩, []⟩
abbrev A28_1 : Type := List Dat × Int × Int × List Int
abbrev A28_0 : Type := List Dat × Int × Int × DealA × DealB × List Dat × List Dat × RefN × List Int
noncomputable def L28_1s (m : Nat) (k : A28_1 → Option (List Un)) : A28_1 → Option (List Un) := fun (a0, a1, a2, a3) =>
  bif decide (a2 < a1) then
   chk (inb a2 a0.length) <|
   chk (decide (a2.toNat < a0.length)) <|
   lt (rowD a0 a2.toNat : Dat) fun d6 =>
   chk (fits (a3.length + 3) 8) <|
   k (a0, a1, (w64 (a2 + 1)), (a3 ++ ([(d6.i 3), (d6.i 4), (d6.i 5)])))
  else
   some ([.l a3])
noncomputable def L28_1 (m : Nat) : Nat → A28_1 → Option (List Un) := iterA (L28_1s m)
theorem L28_1_succ (m : Nat) (n : Nat) : L28_1 m (n + 1) = L28_1s m (L28_1 m n) := rfl
noncomputable def S28_1 (F : A28_1 → Option (List Un)) : StopS := ⟨[.lp [0, 1, 0, 1, 1, 1, 1, 1], .blk 2, .code [1, 1, 1, 1, 1, 1]], ⟨frm 77 [(4, .buf 0 1), (60, .recs [.int .i64, .int .i64, .int .i64, .int .i64, .int .i64, .int .i64]), (61, .int .i64), (62, .int .i64)], [.ints .i64], 0⟩, onU F⟩
noncomputable def L28_0s (m : Nat) (k : A28_0 → Option (List Un)) : A28_0 → Option (List Un) := fun (a0, a1, a2, a3, a4, a5, a6, a7, a8) =>
  bif decide (a2 < a1) then
   chk (inb a2 a0.length) <|
   chk (decide (a2.toNat < a0.length)) <|
   lt (rowD a0 a2.toNat : Dat) fun d3 =>
   bif (d3.b 4) then
    chk (fits (a8.length + 5) 8) <|
    k (a0, a1, (w64 (a2 + 1)), a3, a4, a5, a6, a7, (a8 ++ ([(d3.i 0), (d3.i 1), (d3.i 2), (d3.i 3), 1])))
   else
    chk (fits (a8.length + 5) 8) <|
    k (a0, a1, (w64 (a2 + 1)), a3, a4, a5, a6, a7, (a8 ++ ([(d3.i 0), (d3.i 1), (d3.i 2), (d3.i 3), 0])))
  else
   L28_1 m m (a6, (a6.length : Int), 0, a8)
noncomputable def L28_0 (m : Nat) : Nat → A28_0 → Option (List Un) := iterA (L28_0s m)
theorem L28_0_succ (m : Nat) (n : Nat) : L28_0 m (n + 1) = L28_0s m (L28_0 m n) := rfl
noncomputable def S28_0 (F : A28_0 → Option (List Un)) : StopS := ⟨[.lp [0, 1, 0, 1, 1, 1, 1], .blk 0, .code [1, 1, 1, 1, 1]], ⟨frm 77 [(1, .ptr 0 0 0), (4, .buf 1 1), (38, .recs [.int .i64, .int .i64, .int .i64, .int .i64, .bool]), (39, .int .i64), (40, .int .i64)], [.cells [.int .i64, .int .i64, .int .i64, .any, .any, .int .i64, .int .i64, .int .i64, .int .i64, .int .i64, .int .i64, .int .i64, .int .i64, .int .i64, .int .i64, .any, .any, .any, .recs [.int .i64, .int .i64, .int .i64, .int .i64, .bool], .recs [.int .i64, .int .i64, .int .i64, .int .i64, .int .i64, .int .i64], .int .i64, .int .i64, .int .i64, .int .i64, .int .i64, .int .i64, .int .i64, .int .i64, .int .i64, .bool], .ints .i64], 0⟩, onU F⟩
theorem H28_1 (m : Nat) : ∀ n, HO N28 (S28_1 (L28_1 m n)) := loop_holds KN_none T26.right (fun k => [S28_1 k]) (fun k h => (all1 h all0)) fun k a => by kernel_rfl
theorem H28_0 (m : Nat) : ∀ n, HO N28 (S28_0 (L28_0 m n)) := loop_holds KN_none T26.right (fun k => [S28_0 k, S28_1 (L28_1 m m)]) (fun k h => (all1 h (all1 (H28_1 m m) all0))) fun k a => by kernel_rfl
noncomputable def t28 (m : Nat) : DealA × DealB × List Dat × List Dat × RefN → Option (List Un) := fun (a0, a1, a2, a3, a4) =>
  bif a4.over then
   L28_0 m m (a2, (a2.length : Int), 0, a0, a1, a2, a3, a4, ([a4.period, a4.mode, a4.passed, a4.out, a4.fee, a4.losses, a4.recov, 1, a4.put, (w64 (a4.put - a4.reserve))] : List Int))
  else
   L28_0 m m (a2, (a2.length : Int), 0, a0, a1, a2, a3, a4, ([a4.period, a4.mode, a4.passed, a4.out, a4.fee, a4.losses, a4.recov, 0, a4.put, (w64 (a4.put - a4.reserve))] : List Int))
section
variable (m : Nat)
theorem refNumsL1 : ∀ (rest pre : List Dat) (n : Nat) (acc : List Int), rest.length < n → (pre ++ rest).length < 1000000 → acc.length ≤ 6000000 + 3 * pre.length →
    L28_1 m n (pre ++ rest, ((pre ++ rest).length : Int), (pre.length : Int), acc) = some [.l (acc ++ rest.flatMap refQ)] := by
  intro rest
  induction rest with
  | nil =>
    intro pre n acc hn hl ha
    obtain ⟨n, rfl⟩ := one_more n (by simp at hn; omega)
    rw [L28_1_succ]; unfold L28_1s; dsimp only
    simp [cond_df]
  | cons x rest ih =>
    intro pre n acc hn hl ha
    obtain ⟨n, rfl⟩ := one_more n (by simp at hn; omega)
    simp only [List.length_cons, List.length_append] at hn hl
    rw [L28_1_succ]; unfold L28_1s; dsimp only
    have := ih (pre ++ [x]) n (acc ++ refQ x) (by omega) (by simp; omega) (by simp [refQ]; omega)
    simp only [List.flatMap_cons, refQ] at this ⊢
    simp (disch := omega) only [lt_eq, chk_dec, chk_tt, chk_and, chk_inb, chk_fits, chk_make, chkn_dec, cond_dt, cond_df, cond_bt, cond_bf, cond_nt, cond_nf, cond_not, cond_and, cond_or, cond_tt, cond_ff, wrap_id, min_if', max_if', List.length_append, List.length_cons, List.length_nil, List.length_replicate, List.length_set, List.length_map, List.length_range, Int.natCast_add, Int.cast_ofNat_Int, Int.toNat_natCast, Int.add_assoc, Nat.zero_add, Int.zero_add, List.append_assoc, List.cons_append, List.nil_append, rowD_mid]
    simp only [List.length_append, List.length_cons, List.length_nil, List.length_replicate, List.length_set, List.length_map, List.length_range, Int.natCast_add, Int.cast_ofNat_Int, Int.toNat_natCast, Int.add_assoc, Nat.zero_add, Int.zero_add, List.append_assoc, List.cons_append, List.nil_append] at this ⊢
    exact this
theorem refNumsL0 (za : DealA) (zb : DealB) (zn : RefN) (zp notes : List Dat) (hnl : notes.length < 1000000) (hm : notes.length < m) : ∀ (rest pre : List Dat) (n : Nat) (acc : List Int), rest.length < n → (pre ++ rest).length < 1000000 → acc.length ≤ 10 + 5 * pre.length →
    L28_0 m n (pre ++ rest, ((pre ++ rest).length : Int), (pre.length : Int), za, zb, zp, notes, zn, acc) = some [.l (acc ++ rest.flatMap loanQ ++ notes.flatMap refQ)] := by
  intro rest
  induction rest with
  | nil =>
    intro pre n acc hn hl ha
    obtain ⟨n, rfl⟩ := one_more n (by simp at hn; omega)
    simp only [List.append_nil] at hl
    rw [L28_0_succ]; unfold L28_0s; dsimp only
    simp only [List.append_nil, List.flatMap_nil]
    rw [cond_df (by omega)]
    exact refNumsL1 m notes [] m acc hm (by simpa using hnl) (by simp; omega)
  | cons x rest ih =>
    intro pre n acc hn hl ha
    obtain ⟨n, rfl⟩ := one_more n (by simp at hn; omega)
    simp only [List.length_cons, List.length_append] at hn hl
    rw [L28_0_succ]; unfold L28_0s; dsimp only
    have := ih (pre ++ [x]) n (acc ++ loanQ x) (by omega) (by simp; omega) (by simp [loanQ]; omega)
    simp only [List.flatMap_cons, loanQ] at this ⊢
    simp (disch := omega) only [lt_eq, chk_dec, chk_tt, chk_and, chk_inb, chk_fits, chk_make, chkn_dec, cond_dt, cond_df, cond_bt, cond_bf, cond_nt, cond_nf, cond_not, cond_and, cond_or, cond_tt, cond_ff, wrap_id, min_if', max_if', List.length_append, List.length_cons, List.length_nil, List.length_replicate, List.length_set, List.length_map, List.length_range, Int.natCast_add, Int.cast_ofNat_Int, Int.toNat_natCast, Int.add_assoc, Nat.zero_add, Int.zero_add, List.append_assoc, List.cons_append, List.nil_append, rowD_mid]
    cases hb : x.b 4 <;> rw [hb] at this <;> simp only [bI, cond_true, cond_false] at this ⊢ <;> (try simp (disch := omega) only [lt_eq, chk_dec, chk_tt, chk_and, chk_inb, chk_fits, chk_make, chkn_dec, cond_dt, cond_df, cond_bt, cond_bf, cond_nt, cond_nf, cond_not, cond_and, cond_or, cond_tt, cond_ff, wrap_id, min_if', max_if', List.length_append, List.length_cons, List.length_nil, List.length_replicate, List.length_set, List.length_map, List.length_range, Int.natCast_add, Int.cast_ofNat_Int, Int.toNat_natCast, Int.add_assoc, Nat.zero_add, Int.zero_add, List.append_assoc, List.cons_append, List.nil_append, rowD_mid]) <;> simp only [List.length_append, List.length_cons, List.length_nil, List.length_replicate, List.length_set, List.length_map, List.length_range, Int.natCast_add, Int.cast_ofNat_Int, Int.toNat_natCast, Int.add_assoc, Nat.zero_add, Int.zero_add, List.append_assoc, List.cons_append, List.nil_append] at this ⊢ <;> exact this
end
noncomputable def f28 : DealA × DealB × List Dat × List Dat × RefN → Bool × List Un := fun (a0, a1, a2, a3, a4) => (decide (a2.length < 1000000 ∧ a3.length < 1000000), [.l (refNums a4 a2 a3)])
theorem spec28 (a0 : DealA) (a1 : DealB) (a2 : List Dat) (a3 : List Dat) (a4 : RefN) (hc : (decide (a2.length < 1000000 ∧ a3.length < 1000000)) = true) : ∃ m, t28 m (a0, a1, a2, a3, a4) = some ([.l (refNums a4 a2 a3)]) := by
  obtain ⟨h1, h2⟩ := of_decide_eq_true hc
  refine ⟨a2.length + a3.length + 1, ?_⟩
  unfold t28 refNums
  dsimp only
  have e := fun ob => refNumsL0 (a2.length + a3.length + 1) a0 a1 a4 a2 a3 h2 (by omega) a2 [] (a2.length + a3.length + 1) [a4.period, a4.mode, a4.passed, a4.out, a4.fee, a4.losses, a4.recov, ob, a4.put, w64 (a4.put - a4.reserve)] (by omega) (by simpa using h1) (by simp)
  simp only [List.nil_append, List.length_nil, Int.cast_ofNat_Int] at e
  cases hb : a4.over
  · exact e 0
  · exact e 1
theorem right28 : ER 28 (mkE N28.en N28.ex f28) := right_of KN_none T26.right (fun m => [S28_0 (L28_0 m m)]) (t := t28) (by kernel_rfl) (fun m => (all1 (H28_0 m m) all0)) (fun m a => by kernel_rfl) fun (a0, a1, a2, a3, a4) hc => spec28 a0 a1 a2 a3 a4 hc
noncomputable def T28 : Tb Try.prog LQ TE := T26.add 28 _ right28
/-- Are deals the same? -/
def dealsV (a b : ADeal) : Bool := sameR 2 a.s0 b.s0 && (sameR 2 a.s1 b.s1 && (sameR 2 a.s2 b.s2 && (a.a.year == b.a.year && (a.a.month == b.a.month && (a.a.basis == b.a.basis && (a.b.fee == b.b.fee && (a.b.reserve == b.b.reserve && (a.b.target == b.b.target && (a.b.advance == b.b.advance && (a.b.cure == b.b.cure && ((a.b.oc == b.b.oc) && ((a.b.ic == b.b.ic) && ((a.b.late == b.b.late) && ((a.b.loss == b.b.loss) && ((a.b.clean == b.b.clean) && (sameR 2 a.loans b.loans && sameR 3 a.notes b.notes))))))))))))))))
theorem dealsV_refl (a : ADeal) : dealsV a a = true := by simp only [dealsV, sameR_refl, beq_self_eq_true, Bool.and_self]
/-! cascade/cascadekeep.Deals -/
noncomputable def N29 : RoadF := ⟨T28.tab, 29, ⟨[.agg [.int .i64, .int .i64, .int .i64, .recs [.int .i64, .int .i64], .recs [.int .i64, .int .i64, .int .i64], .int .i64, .int .i64, .int .i64, .int .i64, .int .i64, .int .i64, .int .i64, .int .i64, .int .i64, .int .i64, .recs [.int .i64, .int .i64], .recs [.int .i64, .int .i64], .recs [.int .i64, .int .i64]], .agg [.int .i64, .int .i64, .int .i64, .recs [.int .i64, .int .i64], .recs [.int .i64, .int .i64, .int .i64], .int .i64, .int .i64, .int .i64, .int .i64, .int .i64, .int .i64, .int .i64, .int .i64, .int .i64, .int .i64, .recs [.int .i64, .int .i64], .recs [.int .i64, .int .i64], .recs [.int .i64, .int .i64]]], [], 0⟩, ⟨[.bool], [], 0⟩, []⟩
abbrev A29_0 : Type := Int × ADeal × ADeal
noncomputable def L29_0s (m : Nat) (k : A29_0 → Option (List Un)) : A29_0 → Option (List Un) := fun (a0, a1, a2) =>
  bif decide (a0 < 3) then
   chk (inb a0 3) <|
   chk (decide (a0.toNat < 3)) <|
   chk (inb a0 3) <|
   chk (decide (a0.toNat < 3)) <|
   chk (decide ((List.getD [a1.s0, a1.s1, a1.s2] a0.toNat []).length < 1099511627776)) <|
   bif !(sameR 2 (List.getD [a1.s0, a1.s1, a1.s2] a0.toNat []) (List.getD [a2.s0, a2.s1, a2.s2] a0.toNat [])) then
    some ([.b false])
   else
    k ((w64 (a0 + 1)), a1, a2)
  else
   bif a1.a.year == a2.a.year then
    bif (a1.a.month == a2.a.month) then
     bif (a1.a.basis == a2.a.basis) then
      bif a1.b.fee == a2.b.fee then
       bif (a1.b.reserve == a2.b.reserve) then
        bif (a1.b.target == a2.b.target) then
         bif (a1.b.advance == a2.b.advance) then
          bif a1.b.cure == a2.b.cure then
           bif ((a1.b.oc == a2.b.oc) && ((a1.b.ic == a2.b.ic) && ((a1.b.late == a2.b.late) && ((a1.b.loss == a2.b.loss) && ((a1.b.clean == a2.b.clean) && true))))) then
            chk (decide (a1.loans.length < 1099511627776)) <|
            bif (sameR 2 a1.loans a2.loans) then
             chk (decide (a1.notes.length < 1099511627776)) <|
             some ([.b (sameR 3 a1.notes a2.notes)])
            else
             some ([.b false])
           else
            some ([.b false])
          else
           some ([.b false])
         else
          some ([.b false])
        else
         some ([.b false])
       else
        some ([.b false])
      else
       some ([.b false])
     else
      some ([.b false])
    else
     some ([.b false])
   else
    some ([.b false])
noncomputable def L29_0 (m : Nat) : Nat → A29_0 → Option (List Un) := iterA (L29_0s m)
theorem L29_0_succ (m : Nat) (n : Nat) : L29_0 m (n + 1) = L29_0s m (L29_0 m n) := rfl
noncomputable def S29_0 (F : A29_0 → Option (List Un)) : StopS := ⟨[.lp [0, 1, 0, 1], .blk 0, .code [1, 1]], ⟨frm 95 [(2, .ptr 0 0 0), (3, .ptr 1 0 0), (6, .int .i64)], [.cells [.int .i64, .int .i64, .int .i64, .recs [.int .i64, .int .i64], .recs [.int .i64, .int .i64, .int .i64], .int .i64, .int .i64, .int .i64, .int .i64, .int .i64, .int .i64, .int .i64, .int .i64, .int .i64, .int .i64, .recs [.int .i64, .int .i64], .recs [.int .i64, .int .i64], .recs [.int .i64, .int .i64]], .cells [.int .i64, .int .i64, .int .i64, .recs [.int .i64, .int .i64], .recs [.int .i64, .int .i64, .int .i64], .int .i64, .int .i64, .int .i64, .int .i64, .int .i64, .int .i64, .int .i64, .int .i64, .int .i64, .int .i64, .recs [.int .i64, .int .i64], .recs [.int .i64, .int .i64], .recs [.int .i64, .int .i64]]], 0⟩, onU F⟩
theorem H29_0 (m : Nat) : ∀ n, HO N29 (S29_0 (L29_0 m n)) := loop_holds KN_none T28.right (fun k => [S29_0 k]) (fun k h => (all1 h all0)) fun k a => by kernel_rfl
noncomputable def t29 (m : Nat) : ADeal × ADeal → Option (List Un) := fun (a0, a1) =>
  L29_0 m m (0, a0, a1)
noncomputable def f29 : ADeal × ADeal → Bool × List Un := fun (a0, a1) => (decide (a0.loans.length < 1000000 ∧ a0.notes.length < 1000000 ∧ a0.s0.length < 1000000 ∧ a0.s1.length < 1000000 ∧ a0.s2.length < 1000000), [.b (dealsV a0 a1)])
theorem spec29 (a0 : ADeal) (a1 : ADeal) (hc : (decide (a0.loans.length < 1000000 ∧ a0.notes.length < 1000000 ∧ a0.s0.length < 1000000 ∧ a0.s1.length < 1000000 ∧ a0.s2.length < 1000000)) = true) : ∃ m, t29 m (a0, a1) = some ([.b (dealsV a0 a1)]) := by
  obtain ⟨h1, h2, h3, h4, h5⟩ := of_decide_eq_true hc
  refine ⟨4, ?_⟩
  unfold t29 dealsV
  dsimp only
  have z0 : ((0 : Int).toNat) = 0 := rfl
  have z1 : ((1 : Int).toNat) = 1 := rfl
  have z2 : ((2 : Int).toNat) = 2 := rfl
  have w1 : w64 (0 + 1) = 1 := by decide
  have w2 : w64 (1 + 1) = 2 := by decide
  have w3 : w64 (2 + 1) = 3 := by decide
  have i0 : inb 0 3 = true := by decide
  have i1 : inb 1 3 = true := by decide
  have i2 : inb 2 3 = true := by decide
  rw [show L29_0 4 4 = L29_0 4 (0 + 1 + 1 + 1 + 1) from rfl]
  rw [L29_0_succ]
  unfold L29_0s
  dsimp only
  rw [z0, i0, w1, cond_dt (by decide), chk_tt, chk_dec (by decide), chk_tt, chk_dec (by decide)]
  simp only [List.getD_cons_zero]
  rw [chk_dec (by omega)]
  cases sameR 2 a0.s0 a1.s0
  · rfl
  rw [L29_0_succ]
  unfold L29_0s
  dsimp only
  rw [z1, i1, w2, cond_dt (by decide), chk_tt, chk_dec (by decide), chk_tt, chk_dec (by decide)]
  simp only [List.getD_cons_zero, List.getD_cons_succ]
  rw [chk_dec (by omega)]
  cases sameR 2 a0.s1 a1.s1
  · rfl
  rw [L29_0_succ]
  unfold L29_0s
  dsimp only
  rw [z2, i2, w3, cond_dt (by decide), chk_tt, chk_dec (by decide), chk_tt, chk_dec (by decide)]
  simp only [List.getD_cons_zero, List.getD_cons_succ]
  rw [chk_dec (by omega)]
  cases sameR 2 a0.s2 a1.s2
  · rfl
  rw [L29_0_succ]
  unfold L29_0s
  dsimp only
  rw [cond_df (by decide)]
  simp only [Bool.not_true, cond_false, Bool.true_and, Bool.and_true]
  cases (a0.a.year == a1.a.year)
  · rfl
  cases (a0.a.month == a1.a.month)
  · rfl
  cases (a0.a.basis == a1.a.basis)
  · rfl
  cases (a0.b.fee == a1.b.fee)
  · rfl
  cases (a0.b.reserve == a1.b.reserve)
  · rfl
  cases (a0.b.target == a1.b.target)
  · rfl
  cases (a0.b.advance == a1.b.advance)
  · rfl
  cases (a0.b.cure == a1.b.cure)
  · rfl
  cases (a0.b.oc == a1.b.oc)
  · rfl
  cases (a0.b.ic == a1.b.ic)
  · rfl
  cases (a0.b.late == a1.b.late)
  · rfl
  cases (a0.b.loss == a1.b.loss)
  · rfl
  cases (a0.b.clean == a1.b.clean)
  · rfl
  simp only [cond_true, Bool.true_and]
  rw [chk_dec (by omega), chk_dec (by omega)]
  cases sameR 2 a0.loans a1.loans <;> rfl
theorem right29 : ER 29 (mkE N29.en N29.ex f29) := right_of KN_none T28.right (fun m => [S29_0 (L29_0 m m)]) (t := t29) (by kernel_rfl) (fun m => (all1 (H29_0 m m) all0)) (fun m a => by kernel_rfl) fun (a0, a1) hc => spec29 a0 a1 hc
noncomputable def T29 : Tb Try.prog LQ TE := T28.add 29 _ right29

end Go.Proofs.Ytoiijpphfckdjaa
