/- A part of the walk. -/
import Derived.Test.YtoiijpphfckdjaaBegins2
namespace Go.Proofs.Ytoiijpphfckdjaa
open Go Go.Proofs.Ytoiijpphfckdjaa.Ev
set_option linter.unusedVariables false
set_option linter.unusedSimpArgs false
set_option linter.unnecessarySimpa false
theorem loansR_sum : ∀ (l : List Dat) (last all r : Int), 0 ≤ all → loansR last all l = some r → r = all + sumI 1 l ∧ ∀ d ∈ l, 0 ≤ d.i 1 ∧ d.i 1 ≤ 1099511627776
  | [], last, all, r, h0, h => by simp [loansR] at h; simp [sumI, h]
  | d :: l, last, all, r, h0, h => by
    unfold loansR at h
    split at h
    · cases h
    · split at h
      · rename_i hb
        obtain ⟨h1, h2⟩ := loansR_sum l _ _ r (by omega) h
        refine ⟨by simp only [sumI]; omega, fun x hx => ?_⟩
        rcases List.mem_cons.1 hx with rfl | hx
        · omega
        · exact h2 x hx
      · cases h
theorem notesR_sum (most : Int) (hm : most ≤ 1099511627776) : ∀ (l : List Dat) (all r : Int), 0 ≤ all → notesR most all l = some r → r = all + sumI 1 l ∧ ∀ d ∈ l, 0 ≤ d.i 1 ∧ d.i 1 ≤ 1099511627776
  | [], all, r, h0, h => by simp [notesR] at h; simp [sumI, h]
  | d :: l, all, r, h0, h => by
    unfold notesR at h
    split at h
    · rename_i hb
      obtain ⟨h1, h2⟩ := notesR_sum most hm l _ r (by omega) h
      refine ⟨by simp only [sumI]; omega, fun x hx => ?_⟩
      rcases List.mem_cons.1 hx with rfl | hx
      · omega
      · exact h2 x hx
    · cases h
theorem sumsW_inv {d : ADeal} {p q : Int} (h : sumsW d = some (p, q)) : loansW d.loans = some p ∧ notesW p d.notes = some q ∧ termsV d = true := by
  unfold sumsW at h
  split at h
  · cases h
  · rename_i p' hp
    split at h
    · cases h
    · rename_i q' hq
      split at h
      · rename_i hc
        simp only [Option.some.injEq, Prod.mk.injEq] at h
        obtain ⟨rfl, rfl⟩ := h
        simp only [Bool.and_eq_true] at hc
        exact ⟨hp, hq, hc.1⟩
      · cases h
theorem sumsW_all {d : ADeal} {p q : Int} (h : sumsW d = some (p, q)) : p = sumI 1 d.loans ∧ q = sumI 1 d.notes ∧ (∀ x ∈ d.loans, 0 ≤ x.i 1 ∧ x.i 1 ≤ 1099511627776) ∧ (∀ x ∈ d.notes, 0 ≤ x.i 1 ∧ x.i 1 ≤ 1099511627776) ∧ d.loans.length ≤ 64 ∧ d.notes.length ≤ 8 ∧ termsV d = true := by
  obtain ⟨h1, h2, h3⟩ := sumsW_inv h
  have hp := loansW_le h1
  unfold loansW at h1
  split at h1
  · rename_i hl
    unfold notesW at h2
    split at h2
    · rename_i hn
      obtain ⟨a1, a2⟩ := loansR_sum _ _ _ _ (by omega) h1
      obtain ⟨b1, b2⟩ := notesR_sum p hp.2 _ _ _ (by omega) h2
      exact ⟨by omega, by omega, a2, b2, hl.2, hn.2, h3⟩
    · cases h2
  · cases h1
theorem poolP_sum : ∀ l : List Dat, sumI 1 (l.map loanP) = sumI 1 l
  | [] => rfl
  | d :: l => by simp only [List.map_cons, sumI, poolP_sum l]; rfl
theorem nums_same (d : ADeal) : numbersV (trustV d).n (trustV d).pool (trustV d).tr = refNums ⟨d.b.reserve, d.b.reserve, 0, 0, 0, 0, 0, 0, 0, false⟩ (d.loans.map loanP) (d.notes.map refNote) := by
  have e1 : w64 (d.b.reserve - d.b.reserve) = 0 := by rw [Int.sub_self]; decide
  have e2 : ∀ l : List Dat, (l.map noteN).flatMap noteQ = (l.map refNote).flatMap refQ := by
    intro l
    induction l with
    | nil => rfl
    | cons x l ih =>
      simp only [List.map_cons, List.flatMap_cons, ih]
      rfl
  unfold numbersV refNums trustV
  simp only [e1, e2]
theorem nums_len (n : TrustN) (pool notes : List Dat) : (numbersV n pool notes).length = 10 + 5 * pool.length + 3 * notes.length := by
  have e1 : ∀ l : List Dat, (l.flatMap loanQ).length = 5 * l.length := by
    intro l; induction l with
    | nil => rfl
    | cons x l ih => simp only [List.flatMap_cons, List.length_append, ih, List.length_cons]; simp [loanQ]; omega
  have e2 : ∀ l : List Dat, (l.flatMap noteQ).length = 3 * l.length := by
    intro l; induction l with
    | nil => rfl
    | cons x l ih => simp only [List.flatMap_cons, List.length_append, ih, List.length_cons]; simp [noteQ]; omega
  unfold numbersV
  simp only [List.length_append, e1, e2, List.length_cons, List.length_nil]
theorem shift_zero {y m : Int} (h1 : 1 ≤ y) (h2 : y ≤ 9999) (h3 : 1 ≤ m) (h4 : m ≤ 12) : shiftY y m 1 0 = y ∧ shiftM y m 1 0 = m ∧ shiftD y m 1 0 = 1 := by
  have hl := lastDay_pos h1 h2 h3 h4
  have hok : shiftOk y m 1 0 = true := by
    simp only [shiftOk, rightD, Bool.and_eq_true, decide_eq_true_eq]; omega
  have e1 : (12 * y + m - 1 + 0) / 12 = y := by omega
  have e2 : (12 * y + m - 1 + 0) % 12 + 1 = m := by omega
  simp only [shiftY, shiftM, shiftD, hok, if_true, e1, e2]
  exact ⟨trivial, trivial, by omega⟩
theorem take20 (n : Nat) (l : List Dat) : List.take (if (n : Int) < (l.length : Int) then (n : Int) else (l.length : Int)).toNat l = List.take n l := by
  split
  · rw [Int.toNat_natCast]
  · rw [Int.toNat_natCast, List.take_of_length_le (Nat.le_refl _), List.take_of_length_le (by omega)]
def RTrustBegins : List Par := [(true, [.int .i64, .int .i64, .int .i64, .int .i64, .int .i64, .int .i64, .int .i64, .int .i64, .int .i64, .int .i64, .int .i64, .int .i64, .int .i64, .ints .i64, .ints .i64, .ints .i64, .ints .i64, .ints .i64, .ints .i64, .ints .i64]), (true, [.int .i64, .int .i64, .int .i64, .recs [.int .i64, .int .i64], .recs [.int .i64, .int .i64, .int .i64], .int .i64, .int .i64, .int .i64, .int .i64, .int .i64, .int .i64, .int .i64, .int .i64, .int .i64, .int .i64, .recs [.int .i64, .int .i64], .recs [.int .i64, .int .i64], .recs [.int .i64, .int .i64]]), (false, [.bool])]
/-! cascade/cascadelaw20.TrustBegins -/
noncomputable def N6 : RoadF := ⟨T29.tab, 6, ⟨List.map Par.vp RTrustBegins, [], 0⟩, ⟨[.bool], [], 0⟩, []⟩
abbrev A6_0 : Type := Int × ADeal
noncomputable def L6_0s (m : Nat) (k : A6_0 → Option (List Un)) : A6_0 → Option (List Un) := fun (a0, a1) =>
  bif decide (a0 < 3) then
   chk (inb a0 3) <|
   chk (decide (a0.toNat < 3)) <|
   chk (inb a0 3) <|
   chk (decide (a0.toNat < 3)) <|
   lt ((if 20 < ((List.getD [a1.s0, a1.s1, a1.s2] a0.toNat []).length : Int) then 20 else ((List.getD [a1.s0, a1.s1, a1.s2] a0.toNat []).length : Int)) : Int) fun x7 =>
   chk (decide (0 ≤ x7) && (true && decide (0 ≤ x7.toNat ∧ x7.toNat ≤ (List.getD [a1.s0, a1.s1, a1.s2] a0.toNat []).length))) <|
   lt ((List.take x7.toNat (List.getD [a1.s0, a1.s1, a1.s2] a0.toNat [])) : List Dat) fun l8 =>
   chk (inb a0 3) <|
   chk (decide (a0.toNat < 3)) <|
   k ((w64 (a0 + 1)), ({ a1 with s0 := (bif decide (a0.toNat = 0) then l8 else a1.s0), s1 := (bif decide (a0.toNat = 1) then l8 else a1.s1), s2 := (bif decide (a0.toNat = 2) then l8 else a1.s2) } : ADeal))
  else
   chk (decide (a1.loans.length < 1000000 ∧ a1.notes.length < 1000000 ∧ a1.s0.length < 1000000 ∧ a1.s1.length < 1000000 ∧ a1.s2.length < 1000000)) <|
   lt (((if (sumsW a1).isSome then 0 else -1) : Int) : Int) fun x9 =>
   chk (decide (a1.loans.length < 1000000 ∧ a1.notes.length < 1000000)) <|
   lt (((if (sumsW a1).isSome then 0 else 2) : Int) : Int) fun x11 =>
   bif ((if (sumsW a1).isSome then 0 else 2) : Int) != x11 then
    some ([.b false])
   else
    bif !(((decide (x9 < 0)) && true) == (x11 != 0)) then
     some ([.b false])
    else
     bif ((decide (x9 < 0)) && true) then
      some ([.b true])
     else
      chk (decide (0 ≤ x9)) <|
      chk (decide (0 ≤ x9)) <|
      chk (decide (0 ≤ x9)) <|
      lt ((shiftY (((newW a1).a).year) (((newW a1).a).month) 1 (((newW a1).n).period)) : Int) fun x14 =>
      lt ((shiftM (((newW a1).a).year) (((newW a1).a).month) 1 (((newW a1).n).period)) : Int) fun x15 =>
      lt ((shiftD (((newW a1).a).year) (((newW a1).a).month) 1 (((newW a1).n).period)) : Int) fun x16 =>
      chk (decide (0 ≤ x9)) <|
      lt ((w64 ((((newW a1).n).period) + 1)) : Int) fun x17 =>
      chk (decide (0 ≤ x9) && ((decide (((newW a1).pool).length ≤ 1000) && ((newW a1).pool).all loanG) && (decide (((newW a1).tr).length ≤ 1000) && ((newW a1).tr).all noteG))) <|
      chk (decide (0 ≤ x9) && ((decide (((newW a1).pool).length ≤ 1000) && ((newW a1).pool).all loanG) && (decide (((newW a1).tr).length ≤ 1000) && ((newW a1).tr).all noteG))) <|
      chk (decide (0 ≤ x9) && decide (((newW a1).pool).length < 1000000 ∧ ((newW a1).tr).length < 1000000)) <|
      chk (decide (((refNew a1).pool).length < 1000000 ∧ ((refNew a1).notes).length < 1000000)) <|
      chk (decide ((numbersV ((newW a1).n) ((newW a1).pool) ((newW a1).tr)).length < 1099511627776)) <|
      bif (sameI (numbersV ((newW a1).n) ((newW a1).pool) ((newW a1).tr)) (refNums ((refNew a1).n) ((refNew a1).pool) ((refNew a1).notes))) then
       chk (decide (0 ≤ x9)) <|
       chk (decide ((⟨(newW a1).a, (newW a1).loans, (newW a1).notes, (newW a1).b, (newW a1).s0, (newW a1).s1, (newW a1).s2⟩ : ADeal).loans.length < 1000000 ∧ (⟨(newW a1).a, (newW a1).loans, (newW a1).notes, (newW a1).b, (newW a1).s0, (newW a1).s1, (newW a1).s2⟩ : ADeal).notes.length < 1000000 ∧ (⟨(newW a1).a, (newW a1).loans, (newW a1).notes, (newW a1).b, (newW a1).s0, (newW a1).s1, (newW a1).s2⟩ : ADeal).s0.length < 1000000 ∧ (⟨(newW a1).a, (newW a1).loans, (newW a1).notes, (newW a1).b, (newW a1).s0, (newW a1).s1, (newW a1).s2⟩ : ADeal).s1.length < 1000000 ∧ (⟨(newW a1).a, (newW a1).loans, (newW a1).notes, (newW a1).b, (newW a1).s0, (newW a1).s1, (newW a1).s2⟩ : ADeal).s2.length < 1000000)) <|
       bif (dealsV (⟨(newW a1).a, (newW a1).loans, (newW a1).notes, (newW a1).b, (newW a1).s0, (newW a1).s1, (newW a1).s2⟩ : ADeal) a1) then
        bif ((x14 == a1.a.year) && ((x15 == a1.a.month) && ((x16 == 1) && true))) then
         bif (((shiftY (((newW a1).a).year) (((newW a1).a).month) 1 x17) == (shiftY x14 x15 x16 1)) && (((shiftM (((newW a1).a).year) (((newW a1).a).month) 1 x17) == (shiftM x14 x15 x16 1)) && (((shiftD (((newW a1).a).year) (((newW a1).a).month) 1 x17) == (shiftD x14 x15 x16 1)) && true))) then
          bif (((sumI 1 ((newW a1).pool)) == (((sumsW a1).getD (0, 0)).1)) && (((((sumsW (⟨((newW a1).a), ((newW a1).loans), ((newW a1).notes), ((newW a1).b), ((newW a1).s0), ((newW a1).s1), ((newW a1).s2)⟩ : ADeal)).getD (0, 0)).1) == (((sumsW a1).getD (0, 0)).1)) && (((sumF balD ((newW a1).tr)) == (((sumsW a1).getD (0, 0)).2)) && (true && (true && (((lateF 2 ((newW a1).pool) + lateF 3 ((newW a1).pool)) == 0) && (((w64 (((newW a1).n).losses - ((newW a1).n).recov)) == 0) && true))))))) then
           chk (decide (0 ≤ x9)) <|
           bif ((((newW a1).n).mode) == 0) then
            some ([.b true])
           else
            some ([.b false])
          else
           some ([.b false])
         else
          some ([.b false])
        else
         some ([.b false])
       else
        some ([.b false])
      else
       some ([.b false])
noncomputable def L6_0 (m : Nat) : Nat → A6_0 → Option (List Un) := iterA (L6_0s m)
theorem L6_0_succ (m : Nat) (n : Nat) : L6_0 m (n + 1) = L6_0s m (L6_0 m n) := rfl
noncomputable def S6_0 (F : A6_0 → Option (List Un)) : StopS := ⟨[.lp [0, 1, 0, 1, 1, 1, 1], .blk 0, .code [1, 1, 1, 1, 1]], ⟨frm 145 [(7, .ptr 0 0 0), (37, .int .i64)], [.cells [.int .i64, .int .i64, .int .i64, .recs [.int .i64, .int .i64], .recs [.int .i64, .int .i64, .int .i64], .int .i64, .int .i64, .int .i64, .int .i64, .int .i64, .int .i64, .int .i64, .int .i64, .int .i64, .int .i64, .recs [.int .i64, .int .i64], .recs [.int .i64, .int .i64], .recs [.int .i64, .int .i64]]], 0⟩, onU F⟩
theorem H6_0 (m : Nat) : ∀ n, HO N6 (S6_0 (L6_0 m n)) := loop_holds KN_none T29.right (fun k => [S6_0 k]) (fun k h => (all1 h all0)) fun k a => by kernel_rfl
noncomputable def t6 (m : Nat) : KDeal × ADeal × Bool → Option (List Un) := fun (a0, a1, a2) =>
  bif a2 then
   chk (decide (a0.notes.length ≤ 140737488355328)) <|
   lt ((if 70 < (((dealV a0).loans).length : Int) then 70 else (((dealV a0).loans).length : Int)) : Int) fun x1 =>
   chk (decide (0 ≤ x1) && (true && decide (0 ≤ x1.toNat ∧ x1.toNat ≤ ((dealV a0).loans).length))) <|
   lt ((if 10 < (((dealV a0).notes).length : Int) then 10 else (((dealV a0).notes).length : Int)) : Int) fun x2 =>
   chk (decide (0 ≤ x2) && (true && decide (0 ≤ x2.toNat ∧ x2.toNat ≤ ((dealV a0).notes).length))) <|
   L6_0 m m (0, ({ (dealV a0) with loans := (List.take x1.toNat ((dealV a0).loans)), notes := (List.take x2.toNat ((dealV a0).notes)) } : ADeal))
  else
   lt ((if 70 < (a1.loans.length : Int) then 70 else (a1.loans.length : Int)) : Int) fun x3 =>
   chk (decide (0 ≤ x3) && (true && decide (0 ≤ x3.toNat ∧ x3.toNat ≤ a1.loans.length))) <|
   lt ((if 10 < (a1.notes.length : Int) then 10 else (a1.notes.length : Int)) : Int) fun x5 =>
   chk (decide (0 ≤ x5) && (true && decide (0 ≤ x5.toNat ∧ x5.toNat ≤ a1.notes.length))) <|
   L6_0 m m (0, ({ a1 with loans := (List.take x3.toNat a1.loans), notes := (List.take x5.toNat a1.notes) } : ADeal))
theorem beginsEnd (m : Nat) (k : A6_0 → Option (List Un)) (d : ADeal) (hl : d.loans.length ≤ 70 ∧ d.notes.length ≤ 10 ∧ d.s0.length ≤ 20 ∧ d.s1.length ≤ 20 ∧ d.s2.length ≤ 20) : L6_0s m k (3, d) = some [.b true] := by
  unfold L6_0s
  dsimp only
  rw [cond_df (by decide), chk_dec (by omega), lt_eq, chk_dec (by omega), lt_eq]
  cases hs : (sumsW d).isSome
  · rfl
  obtain ⟨⟨p, q⟩, hpq⟩ := Option.isSome_iff_exists.1 hs
  obtain ⟨h1, h2, h3, h4, h5, h6, h7⟩ := sumsW_all hpq
  have hn : newW d = trustV d := by unfold newW; rw [hs]; rfl
  have hrn : refNew d = ⟨d.a, d.b, ⟨d.b.reserve, d.b.reserve, 0, 0, 0, 0, 0, 0, 0, false⟩, d.loans.map loanP, d.notes.map refNote⟩ := by unfold refNew; rw [hs]; rfl
  have ht := h7
  simp only [termsV, Bool.and_eq_true, decide_eq_true_eq] at ht
  obtain ⟨z1, z2, z3⟩ := shift_zero (y := d.a.year) (m := d.a.month) (by omega) (by omega) (by omega) (by omega)
  have g1 : ∀ x ∈ d.loans.map loanP, loanG x = true := by
    intro x hx
    obtain ⟨y, hy, rfl⟩ := List.mem_map.1 hx
    exact decide_eq_true (by simp only [loanP, fld_i1]; exact h3 y hy)
  have g2 : ∀ x ∈ d.notes.map noteN, noteG x = true := by
    intro x hx
    obtain ⟨y, hy, rfl⟩ := List.mem_map.1 hx
    have := h4 y hy
    exact decide_eq_true (by simp only [noteN, fld_i1, fld_i3, fld_i4, fld_i5, fld_i6, true_and]; omega)
  have e1 : (decide ((d.loans.map loanP).length ≤ 1000) && (d.loans.map loanP).all loanG) = true := by
    rw [Bool.and_eq_true]; exact ⟨decide_eq_true (by simp; omega), List.all_eq_true.2 g1⟩
  have e2 : (decide ((d.notes.map noteN).length ≤ 1000) && (d.notes.map noteN).all noteG) = true := by
    rw [Bool.and_eq_true]; exact ⟨decide_eq_true (by simp; omega), List.all_eq_true.2 g2⟩
  have e3 : (⟨d.a, d.loans, d.notes, d.b, d.s0, d.s1, d.s2⟩ : ADeal) = d := rfl
  have hnums := nums_same d
  have hlen := nums_len (trustV d).n (trustV d).pool (trustV d).tr
  rw [hnums] at hlen
  simp only [trustV, List.length_map] at hlen
  simp only [hn, hrn, hnums, hpq]
  simp only [trustV, e1, e2, e3, z1, z2, z3, poolP_sum, trN_bal, poolN_late 2 (by decide), poolN_late 3 (by decide), Option.getD_some, if_true, lt_eq, sameI_refl, dealsV_refl, ← h1, ← h2, beq_self_eq_true, Bool.and_self]
  simp only [List.length_map] at e1 e2 ⊢
  have e4 : decide (d.loans.length < 1000000 ∧ d.notes.length < 1000000 ∧ d.s0.length < 1000000 ∧ d.s1.length < 1000000 ∧ d.s2.length < 1000000) = true := decide_eq_true (by omega)
  have e5 : decide (d.loans.length < 1000000 ∧ d.notes.length < 1000000) = true := decide_eq_true (by omega)
  have e6 : decide ((refNums ⟨d.b.reserve, d.b.reserve, 0, 0, 0, 0, 0, 0, 0, false⟩ (d.loans.map loanP) (d.notes.map refNote)).length < 1099511627776) = true := decide_eq_true (by rw [hlen]; omega)
  simp only [e6, e1, e2, e4, e5, hpq, Option.getD_some, show w64 (0 + 1) = (1 : Int) from by decide, show decide ((0 : Int) ≤ 0) = true from by decide, show decide ((0 : Int) < 0) = false from by decide, beq_self_eq_true, Bool.and_self, Bool.and_true, chk_tt]
  simp only [show ((0 : Int) != 0) = false from by decide, show ((!false) == false) = false from by decide, cond_true, cond_false]
  exact (congrArg (fun b => chk b _) (@decide_eq_true _ _ (by omega))).trans rfl
theorem beginsL (m n : Nat) (d : ADeal) (hl : d.loans.length ≤ 70 ∧ d.notes.length ≤ 10) : L6_0 m (n + 4) (0, d) = some [.b true] := by
  have z0 : ((0 : Int).toNat) = 0 := rfl
  have z1 : ((1 : Int).toNat) = 1 := rfl
  have z2 : ((2 : Int).toNat) = 2 := rfl
  have w1 : w64 (0 + 1) = 1 := by decide
  have w2 : w64 (1 + 1) = 2 := by decide
  have w3 : w64 (2 + 1) = 3 := by decide
  have i0 : inb 0 3 = true := by decide
  have i1 : inb 1 3 = true := by decide
  have i2 : inb 2 3 = true := by decide
  have tk := take20 20
  simp only [Int.cast_ofNat_Int] at tk
  have cl : ∀ l : List Dat, chk (decide (0 ≤ (if 20 < (l.length : Int) then (20 : Int) else (l.length : Int))) && (true && decide (0 ≤ (if 20 < (l.length : Int) then (20 : Int) else (l.length : Int)).toNat ∧ (if 20 < (l.length : Int) then (20 : Int) else (l.length : Int)).toNat ≤ l.length))) = fun (t : Option (List Un)) => t := by
    intro l
    funext t
    refine chk_t ?_ rfl
    simp only [Bool.and_eq_true, decide_eq_true_eq, true_and]
    split <;> omega
  rw [show n + 4 = n + 3 + 1 from rfl, L6_0_succ]
  unfold L6_0s
  dsimp only
  rw [cond_dt (by decide), i0, chk_tt, z0, chk_dec (by decide), chk_tt, chk_dec (by decide), lt_eq]
  simp only [List.getD_cons_zero, List.getD_cons_succ, cl, tk, lt_eq, chk_tt, w1, decide_true, decide_false, cond_true, cond_false, Nat.zero_ne_one, show decide (0 < 3) = true from rfl, show decide ((0 : Nat) = 1) = false from rfl, show decide ((0 : Nat) = 2) = false from rfl]
  rw [show n + 3 = n + 2 + 1 from rfl, L6_0_succ]
  unfold L6_0s
  dsimp only
  rw [cond_dt (by decide), i1, chk_tt, z1, chk_dec (by decide), chk_tt, chk_dec (by decide), lt_eq]
  simp only [List.getD_cons_zero, List.getD_cons_succ, cl, tk, lt_eq, chk_tt, w2, decide_true, decide_false, cond_true, cond_false, show decide (1 < 3) = true from rfl, show decide ((1 : Nat) = 0) = false from rfl, show decide ((1 : Nat) = 2) = false from rfl]
  rw [show n + 2 = n + 1 + 1 from rfl, L6_0_succ]
  unfold L6_0s
  dsimp only
  rw [cond_dt (by decide), i2, chk_tt, z2, chk_dec (by decide), chk_tt, chk_dec (by decide), lt_eq]
  simp only [List.getD_cons_zero, List.getD_cons_succ, cl, tk, lt_eq, chk_tt, w3, decide_true, decide_false, cond_true, cond_false, show decide (2 < 3) = true from rfl, show decide ((2 : Nat) = 0) = false from rfl, show decide ((2 : Nat) = 1) = false from rfl]
  rw [L6_0_succ]
  exact beginsEnd m _ _ ⟨hl.1, hl.2, by simp; omega, by simp; omega, by simp; omega⟩
set_option maxHeartbeats 4000000 in
theorem spec6 (b0 : Int) (wb0 : (Lit.int .i64 b0).wf = true) (b1 : Int) (wb1 : (Lit.int .i64 b1).wf = true) (b2 : Int) (wb2 : (Lit.int .i64 b2).wf = true) (b3 : Int) (wb3 : (Lit.int .i64 b3).wf = true) (b4 : Int) (wb4 : (Lit.int .i64 b4).wf = true) (b5 : Int) (wb5 : (Lit.int .i64 b5).wf = true) (b6 : Int) (wb6 : (Lit.int .i64 b6).wf = true) (b7 : Int) (wb7 : (Lit.int .i64 b7).wf = true) (b8 : Int) (wb8 : (Lit.int .i64 b8).wf = true) (b9 : Int) (wb9 : (Lit.int .i64 b9).wf = true) (b10 : Int) (wb10 : (Lit.int .i64 b10).wf = true) (b11 : Int) (wb11 : (Lit.int .i64 b11).wf = true) (b12 : Int) (wb12 : (Lit.int .i64 b12).wf = true) (b13 : List Int) (wb13 : b13.length ≤ 140737488355328 ∧ ∀ x ∈ b13, (Lit.int .i64 x).wf = true) (b14 : List Int) (wb14 : b14.length ≤ 140737488355328 ∧ ∀ x ∈ b14, (Lit.int .i64 x).wf = true) (b15 : List Int) (wb15 : b15.length ≤ 140737488355328 ∧ ∀ x ∈ b15, (Lit.int .i64 x).wf = true) (b16 : List Int) (wb16 : b16.length ≤ 140737488355328 ∧ ∀ x ∈ b16, (Lit.int .i64 x).wf = true) (b17 : List Int) (wb17 : b17.length ≤ 140737488355328 ∧ ∀ x ∈ b17, (Lit.int .i64 x).wf = true) (b18 : List Int) (wb18 : b18.length ≤ 140737488355328 ∧ ∀ x ∈ b18, (Lit.int .i64 x).wf = true) (b19 : List Int) (wb19 : b19.length ≤ 140737488355328 ∧ ∀ x ∈ b19, (Lit.int .i64 x).wf = true) (b20 : Int) (wb20 : (Lit.int .i64 b20).wf = true) (b21 : Int) (wb21 : (Lit.int .i64 b21).wf = true) (b22 : Int) (wb22 : (Lit.int .i64 b22).wf = true) (b23 : List Dat) (wb23 : b23.length ≤ 140737488355328 ∧ ∀ x ∈ b23, WfR [.int .i64, .int .i64] x.sub) (b24 : List Dat) (wb24 : b24.length ≤ 140737488355328 ∧ ∀ x ∈ b24, WfR [.int .i64, .int .i64, .int .i64] x.sub) (b25 : Int) (wb25 : (Lit.int .i64 b25).wf = true) (b26 : Int) (wb26 : (Lit.int .i64 b26).wf = true) (b27 : Int) (wb27 : (Lit.int .i64 b27).wf = true) (b28 : Int) (wb28 : (Lit.int .i64 b28).wf = true) (b29 : Int) (wb29 : (Lit.int .i64 b29).wf = true) (b30 : Int) (wb30 : (Lit.int .i64 b30).wf = true) (b31 : Int) (wb31 : (Lit.int .i64 b31).wf = true) (b32 : Int) (wb32 : (Lit.int .i64 b32).wf = true) (b33 : Int) (wb33 : (Lit.int .i64 b33).wf = true) (b34 : Int) (wb34 : (Lit.int .i64 b34).wf = true) (b35 : List Dat) (wb35 : b35.length ≤ 140737488355328 ∧ ∀ x ∈ b35, WfR [.int .i64, .int .i64] x.sub) (b36 : List Dat) (wb36 : b36.length ≤ 140737488355328 ∧ ∀ x ∈ b36, WfR [.int .i64, .int .i64] x.sub) (b37 : List Dat) (wb37 : b37.length ≤ 140737488355328 ∧ ∀ x ∈ b37, WfR [.int .i64, .int .i64] x.sub) (b38 : Bool) : ∃ m, t6 m ((⟨(⟨b0, b1, b2⟩ : DealA), (⟨b3, b4, b5, b6, b7, b8, b9, b10, b11, b12⟩ : DealB), b13, b14, b15, b16, b17, b18, b19⟩ : KDeal), (⟨(⟨b20, b21, b22⟩ : DealA), b23, b24, (⟨b25, b26, b27, b28, b29, b30, b31, b32, b33, b34⟩ : DealB), b35, b36, b37⟩ : ADeal), b38) = some [.b true] := by
  have tk := fun (n : Nat) l => take20 n l
  refine ⟨4, ?_⟩
  unfold t6
  dsimp only
  have cl : ∀ (n : Nat) (l : List Dat) (t : Option (List Un)), chk (decide (0 ≤ (if (n : Int) < (l.length : Int) then (n : Int) else (l.length : Int))) && (true && decide (0 ≤ (if (n : Int) < (l.length : Int) then (n : Int) else (l.length : Int)).toNat ∧ (if (n : Int) < (l.length : Int) then (n : Int) else (l.length : Int)).toNat ≤ l.length))) t = t := by
    intro n l t
    refine chk_t ?_ rfl
    simp only [Bool.and_eq_true, decide_eq_true_eq, true_and]
    split <;> omega
  have c70 := cl 70; have c10 := cl 10; have t70 := tk 70; have t10 := tk 10
  simp only [Int.cast_ofNat_Int] at c70 c10 t70 t10
  simp only [lt_eq, c70, c10, t70, t10]
  cases b38
  · exact beginsL 4 0 _ ⟨by simp; omega, by simp; omega⟩
  · rw [cond_true, chk_dec wb14.1]
    exact beginsL 4 0 _ ⟨by simp; omega, by simp; omega⟩
set_option maxRecDepth 20000 in
theorem walkTrustBegins {HH : Type} {enc : TypeId × Value → HH} {w : World} {base : Nat} {vs : List Value} {ds : List (DataW HH)} {ps : List MemPlace} (hsh : w.ShapedOpen Try.prog)
    (hd : DataW.TrodAll enc Try.prog w 0 (fun _ => true) true Try.f6.params.toList vs ds ps) {us' : List TypeId} {gs : List (DataW HH)} (hz : (DataW.weightsEach Try.prog (Try.f6.params.toList ++ us') (ds ++ gs)).all (· ≤ reachBytes) = true) (hval : ∀ (j : Nat) t v, Try.f6.params.toList[j]? = some t → vs[j]? = some v → Value.okWide Try.prog w .any base t v) :
    Calls Try.prog 6 vs.toArray w fun e w' => e = .returned (.bool true) ∧ RowKit.Below w.heap.size w w' :=
  law_args Seat.mix Seat.names TE_right (pars := RTrustBegins) (by kernel_rfl) (fun us h => by
    change WfU [.int .i64, .int .i64, .int .i64, .int .i64, .int .i64, .int .i64, .int .i64, .int .i64, .int .i64, .int .i64, .int .i64, .int .i64, .int .i64, .ints .i64, .ints .i64, .ints .i64, .ints .i64, .ints .i64, .ints .i64, .ints .i64, .int .i64, .int .i64, .int .i64, .recs [.int .i64, .int .i64], .recs [.int .i64, .int .i64, .int .i64], .int .i64, .int .i64, .int .i64, .int .i64, .int .i64, .int .i64, .int .i64, .int .i64, .int .i64, .int .i64, .recs [.int .i64, .int .i64], .recs [.int .i64, .int .i64], .recs [.int .i64, .int .i64], .bool] us at h
    obtain ⟨b0, u, rfl, wb0, h⟩ := wf_int h
    obtain ⟨b1, u, rfl, wb1, h⟩ := wf_int h
    obtain ⟨b2, u, rfl, wb2, h⟩ := wf_int h
    obtain ⟨b3, u, rfl, wb3, h⟩ := wf_int h
    obtain ⟨b4, u, rfl, wb4, h⟩ := wf_int h
    obtain ⟨b5, u, rfl, wb5, h⟩ := wf_int h
    obtain ⟨b6, u, rfl, wb6, h⟩ := wf_int h
    obtain ⟨b7, u, rfl, wb7, h⟩ := wf_int h
    obtain ⟨b8, u, rfl, wb8, h⟩ := wf_int h
    obtain ⟨b9, u, rfl, wb9, h⟩ := wf_int h
    obtain ⟨b10, u, rfl, wb10, h⟩ := wf_int h
    obtain ⟨b11, u, rfl, wb11, h⟩ := wf_int h
    obtain ⟨b12, u, rfl, wb12, h⟩ := wf_int h
    obtain ⟨b13, u, rfl, wb13, h⟩ := wf_ints h
    obtain ⟨b14, u, rfl, wb14, h⟩ := wf_ints h
    obtain ⟨b15, u, rfl, wb15, h⟩ := wf_ints h
    obtain ⟨b16, u, rfl, wb16, h⟩ := wf_ints h
    obtain ⟨b17, u, rfl, wb17, h⟩ := wf_ints h
    obtain ⟨b18, u, rfl, wb18, h⟩ := wf_ints h
    obtain ⟨b19, u, rfl, wb19, h⟩ := wf_ints h
    obtain ⟨b20, u, rfl, wb20, h⟩ := wf_int h
    obtain ⟨b21, u, rfl, wb21, h⟩ := wf_int h
    obtain ⟨b22, u, rfl, wb22, h⟩ := wf_int h
    obtain ⟨b23, u, rfl, wb23, h⟩ := wf_recs h
    obtain ⟨b24, u, rfl, wb24, h⟩ := wf_recs h
    obtain ⟨b25, u, rfl, wb25, h⟩ := wf_int h
    obtain ⟨b26, u, rfl, wb26, h⟩ := wf_int h
    obtain ⟨b27, u, rfl, wb27, h⟩ := wf_int h
    obtain ⟨b28, u, rfl, wb28, h⟩ := wf_int h
    obtain ⟨b29, u, rfl, wb29, h⟩ := wf_int h
    obtain ⟨b30, u, rfl, wb30, h⟩ := wf_int h
    obtain ⟨b31, u, rfl, wb31, h⟩ := wf_int h
    obtain ⟨b32, u, rfl, wb32, h⟩ := wf_int h
    obtain ⟨b33, u, rfl, wb33, h⟩ := wf_int h
    obtain ⟨b34, u, rfl, wb34, h⟩ := wf_int h
    obtain ⟨b35, u, rfl, wb35, h⟩ := wf_recs h
    obtain ⟨b36, u, rfl, wb36, h⟩ := wf_recs h
    obtain ⟨b37, u, rfl, wb37, h⟩ := wf_recs h
    obtain ⟨b38, u, rfl, hh⟩ := wf_bool h
    replace h := hh
    clear hh
    obtain rfl := wf_nil h
    obtain ⟨m, hm⟩ := spec6 b0 wb0 b1 wb1 b2 wb2 b3 wb3 b4 wb4 b5 wb5 b6 wb6 b7 wb7 b8 wb8 b9 wb9 b10 wb10 b11 wb11 b12 wb12 b13 wb13 b14 wb14 b15 wb15 b16 wb16 b17 wb17 b18 wb18 b19 wb19 b20 wb20 b21 wb21 b22 wb22 b23 wb23 b24 wb24 b25 wb25 b26 wb26 b27 wb27 b28 wb28 b29 wb29 b30 wb30 b31 wb31 b32 wb32 b33 wb33 b34 wb34 b35 wb35 b36 wb36 b37 wb37 b38
    have G : N6.road Try.prog LQ KN (Uns.enc ((⟨(⟨b0, b1, b2⟩ : DealA), (⟨b3, b4, b5, b6, b7, b8, b9, b10, b11, b12⟩ : DealB), b13, b14, b15, b16, b17, b18, b19⟩ : KDeal), (⟨(⟨b20, b21, b22⟩ : DealA), b23, b24, (⟨b25, b26, b27, b28, b29, b30, b31, b32, b33, b34⟩ : DealB), b35, b36, b37⟩ : ADeal), b38)) ([S6_0 (L6_0 m m)]) = t6 m ((⟨(⟨b0, b1, b2⟩ : DealA), (⟨b3, b4, b5, b6, b7, b8, b9, b10, b11, b12⟩ : DealB), b13, b14, b15, b16, b17, b18, b19⟩ : KDeal), (⟨(⟨b20, b21, b22⟩ : DealA), b23, b24, (⟨b25, b26, b27, b28, b29, b30, b31, b32, b33, b34⟩ : DealB), b35, b36, b37⟩ : ADeal), b38) := by kernel_rfl
    exact N6.tells KN_none T29.right (W := [S6_0 (L6_0 m m)]) (by kernel_rfl) (by kernel_rfl) (by kernel_rfl) (all1 (H6_0 m m) all0) (G.trans hm)) hsh hd hz hval
end Go.Proofs.Ytoiijpphfckdjaa
