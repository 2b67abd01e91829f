/- A part of the walk. -/
import Derived.Test.YtoiijpphfckdjaaTrust
namespace Go.Proofs.Ytoiijpphfckdjaa
open Go Go.Proofs.Ytoiijpphfckdjaa.Ev
set_option linter.unusedVariables false
set_option linter.unusedSimpArgs false
set_option linter.unnecessarySimpa false
def RTrustTotals : List Par := [(true, [.int .i64, .int .i64, .int .i64, .int .i64, .int .i64, .int .i64, .int .i64, .int .i64, .int .i64, .int .i64, .int .i64, .int .i64, .int .i64, .ints .i64, .ints .i64, .ints .i64, .ints .i64, .ints .i64, .ints .i64, .ints .i64]), (false, [.ints .i64]), (false, [.ints .i64]), (false, [.ints .i64]), (false, [.ints .i64])]
theorem noteG_pay {d : Dat} (c : Int) (h : noteG d = true) : noteG (payD c d) = true := by
  have := noteG_at h
  refine decide_eq_true ?_
  simp only [payD, payV, balD, fld_i1, fld_i3, fld_i4, fld_i5, fld_i6]
  omega
theorem noteG_write {d : Dat} (c : Int) (h : noteG d = true) : noteG (writeD c d) = true := by
  have := noteG_at h
  refine decide_eq_true ?_
  simp only [writeD, payV, balD, fld_i1, fld_i3, fld_i4, fld_i5, fld_i6]
  omega
theorem noteG_back {d : Dat} (c : Int) (h : noteG d = true) : noteG (backD c d) = true := by
  have := noteG_at h
  refine decide_eq_true ?_
  simp only [backD, backV, fld_i1, fld_i3, fld_i4, fld_i5, fld_i6]
  omega
/-- A good note that owes no interest. -/
def noteZ (d : Dat) : Prop := noteG d = true ∧ d.i 5 = 0
theorem noteZ_pay {d : Dat} (c : Int) (h : noteZ d) : noteZ (payD c d) := ⟨noteG_pay c h.1, h.2⟩
theorem noteZ_write {d : Dat} (c : Int) (h : noteZ d) : noteZ (writeD c d) := ⟨noteG_write c h.1, h.2⟩
theorem noteZ_back {d : Dat} (c : Int) (h : noteZ d) : noteZ (backD c d) := ⟨noteG_back c h.1, h.2⟩
theorem noteG_owe {d : Dat} (x : Int) (h : noteZ d) : noteG (oweD (within x 0 9000) d) = true := by
  have := noteG_at h.1
  have := h.2
  have := within_le (a := x) (show (0 : Int) ≤ 9000 by decide)
  refine decide_eq_true ?_
  simp only [oweD, fld_i1, fld_i3, fld_i4, fld_i5, fld_i6]
  omega
theorem chk_g {α : Type} {d : Dat} {o : Option α} (h : noteZ d) : chk (noteG d) o = o := by rw [h.1]; rfl
theorem sumF_snoc (f : Dat → Int) (x : Dat) : ∀ l : List Dat, sumF f (l ++ [x]) = sumF f l + f x
  | [] => by simp [sumF]
  | d :: l => by simp only [List.cons_append, sumF, sumF_snoc f x l]; omega
theorem sumI_snoc (j : Nat) (x : Dat) : ∀ l : List Dat, sumI j (l ++ [x]) = sumI j l + x.i j
  | [] => by simp [sumI]
  | d :: l => by simp only [List.cons_append, sumI, sumI_snoc j x l]; omega
theorem sums_le : ∀ l : List Dat, (∀ d ∈ l, noteG d = true) → (0 ≤ sumF balD l ∧ sumF balD l ≤ 1099511627776 * l.length) ∧ (0 ≤ sumI 5 l ∧ sumI 5 l ≤ 1125899906842624 * l.length) ∧ (0 ≤ sumI 6 l ∧ sumI 6 l ≤ 1099511627776 * l.length) ∧ (0 ≤ sumF unD l ∧ sumF unD l ≤ 1099511627776 * l.length) ∧ sumF unD l = sumF balD l + sumI 6 l
  | [], _ => by simp [sumF, sumI]
  | d :: l, h => by
    have h1 := noteG_at (h d (by simp))
    have h2 := sums_le l fun x hx => h x (by simp [hx])
    simp only [sumF, sumI, List.length_cons, Int.natCast_add, balD, unD] at h2 ⊢
    omega
/-! cascade/cascadelaw20.TrustTotals -/
noncomputable def N4 : RoadF := ⟨T10.tab, 4, ⟨List.map Par.vp RTrustTotals, []⟩, ⟨[.bool], []⟩, []⟩
abbrev A4_0 : Type := List Int × List Int × List Int × List Int × Int × Int × Int × Int × Int × Int × Int × DealA × DealB × TrustN × List Dat × List Dat × List Dat × List Dat × List Dat × List Dat × List Dat
noncomputable def L4_0s (m : Nat) (k : A4_0 → Option (List Un)) : A4_0 → Option (List Un) := fun (a0, a1, a2, a3, a4, a5, a6, a7, a8, a9, a10, a11, a12, a13, a14, a15, a16, a17, a18, a19, a20) =>
  bif decide (a10 < a9) then
   chk (decide (0 ≤ a4)) <|
   chk (inb a10 a19.length) <|
   bif (decide (a10 < (a0.length : Int))) then
    chk (inb a10 a0.length) <|
    chk (decide (a10.toNat < a0.length)) <|
    chk (decide (0 ≤ (a10.toNat : Int) ∧ (a10.toNat : Int).toNat < a19.length) && noteG (rowD a19 (a10.toNat : Int).toNat)) <|
    lt ((a19.set (a10.toNat : Int).toNat (payD (within (a0.getD a10.toNat 0) 0 9000) (rowD a19 (a10.toNat : Int).toNat))) : List Dat) fun l11 =>
    bif (decide (a10 < (a1.length : Int))) then
     chk (inb a10 a1.length) <|
     chk (decide (a10.toNat < a1.length)) <|
     chk (decide (0 ≤ (a10.toNat : Int) ∧ (a10.toNat : Int).toNat < l11.length) && noteG (rowD l11 (a10.toNat : Int).toNat)) <|
     lt ((l11.set (a10.toNat : Int).toNat (writeD (within (a1.getD a10.toNat 0) 0 9000) (rowD l11 (a10.toNat : Int).toNat))) : List Dat) fun l15 =>
     bif (decide (a10 < (a2.length : Int))) then
      chk (inb a10 a2.length) <|
      chk (decide (a10.toNat < a2.length)) <|
      chk (decide (0 ≤ (a10.toNat : Int) ∧ (a10.toNat : Int).toNat < l15.length) && noteG (rowD l15 (a10.toNat : Int).toNat)) <|
      lt ((l15.set (a10.toNat : Int).toNat (backD (within (a2.getD a10.toNat 0) 0 9000) (rowD l15 (a10.toNat : Int).toNat))) : List Dat) fun l19 =>
      bif (decide (a10 < (a3.length : Int))) then
       chk (inb a10 a3.length) <|
       chk (decide (a10.toNat < a3.length)) <|
       lt ((within (a3.getD a10.toNat 0) 0 9000) : Int) fun x21 =>
       chk (decide (0 ≤ x21 ∧ x21 ≤ 1125899906842624) && (decide (0 ≤ (a10.toNat : Int) ∧ (a10.toNat : Int).toNat < l19.length) && noteG (rowD l19 (a10.toNat : Int).toNat))) <|
       lt ((l19.set (a10.toNat : Int).toNat (oweD x21 (rowD l19 (a10.toNat : Int).toNat))) : List Dat) fun l22 =>
       chk (decide (a10.toNat < l22.length)) <|
       lt (rowD l22 a10.toNat : Dat) fun d23 =>
       chk (decide (a10.toNat < l22.length)) <|
       chk (decide (a10.toNat < l22.length)) <|
       chk (decide (a10.toNat < l22.length)) <|
       chk (decide (a10.toNat < l22.length)) <|
       lt (rowD l22 a10.toNat : Dat) fun d28 =>
       k (a0, a1, a2, a3, a4, (w64 (a5 + (w64 (w64 ((d23.i 1) - w64 ((d23.i 3) - (d23.i 4))) - (d23.i 6))))), (w64 (a6 + ((rowD l22 a10.toNat).i 5))), (w64 (a7 + ((rowD l22 a10.toNat).i 6))), (w64 ((w64 (a8 + ((rowD l22 a10.toNat).i 1))) - (w64 ((d28.i 3) - (d28.i 4))))), a9, (w64 (a10 + 1)), a11, a12, a13, a14, a15, a16, a17, a18, l22, a20)
      else
       chk (decide (a10.toNat < l19.length)) <|
       lt (rowD l19 a10.toNat : Dat) fun d31 =>
       chk (decide (a10.toNat < l19.length)) <|
       chk (decide (a10.toNat < l19.length)) <|
       chk (decide (a10.toNat < l19.length)) <|
       chk (decide (a10.toNat < l19.length)) <|
       lt (rowD l19 a10.toNat : Dat) fun d36 =>
       k (a0, a1, a2, a3, a4, (w64 (a5 + (w64 (w64 ((d31.i 1) - w64 ((d31.i 3) - (d31.i 4))) - (d31.i 6))))), (w64 (a6 + ((rowD l19 a10.toNat).i 5))), (w64 (a7 + ((rowD l19 a10.toNat).i 6))), (w64 ((w64 (a8 + ((rowD l19 a10.toNat).i 1))) - (w64 ((d36.i 3) - (d36.i 4))))), a9, (w64 (a10 + 1)), a11, a12, a13, a14, a15, a16, a17, a18, l19, a20)
     else
      bif (decide (a10 < (a3.length : Int))) then
       chk (inb a10 a3.length) <|
       chk (decide (a10.toNat < a3.length)) <|
       lt ((within (a3.getD a10.toNat 0) 0 9000) : Int) fun x40 =>
       chk (decide (0 ≤ x40 ∧ x40 ≤ 1125899906842624) && (decide (0 ≤ (a10.toNat : Int) ∧ (a10.toNat : Int).toNat < l15.length) && noteG (rowD l15 (a10.toNat : Int).toNat))) <|
       lt ((l15.set (a10.toNat : Int).toNat (oweD x40 (rowD l15 (a10.toNat : Int).toNat))) : List Dat) fun l41 =>
       chk (decide (a10.toNat < l41.length)) <|
       lt (rowD l41 a10.toNat : Dat) fun d42 =>
       chk (decide (a10.toNat < l41.length)) <|
       chk (decide (a10.toNat < l41.length)) <|
       chk (decide (a10.toNat < l41.length)) <|
       chk (decide (a10.toNat < l41.length)) <|
       lt (rowD l41 a10.toNat : Dat) fun d47 =>
       k (a0, a1, a2, a3, a4, (w64 (a5 + (w64 (w64 ((d42.i 1) - w64 ((d42.i 3) - (d42.i 4))) - (d42.i 6))))), (w64 (a6 + ((rowD l41 a10.toNat).i 5))), (w64 (a7 + ((rowD l41 a10.toNat).i 6))), (w64 ((w64 (a8 + ((rowD l41 a10.toNat).i 1))) - (w64 ((d47.i 3) - (d47.i 4))))), a9, (w64 (a10 + 1)), a11, a12, a13, a14, a15, a16, a17, a18, l41, a20)
      else
       chk (decide (a10.toNat < l15.length)) <|
       lt (rowD l15 a10.toNat : Dat) fun d50 =>
       chk (decide (a10.toNat < l15.length)) <|
       chk (decide (a10.toNat < l15.length)) <|
       chk (decide (a10.toNat < l15.length)) <|
       chk (decide (a10.toNat < l15.length)) <|
       lt (rowD l15 a10.toNat : Dat) fun d55 =>
       k (a0, a1, a2, a3, a4, (w64 (a5 + (w64 (w64 ((d50.i 1) - w64 ((d50.i 3) - (d50.i 4))) - (d50.i 6))))), (w64 (a6 + ((rowD l15 a10.toNat).i 5))), (w64 (a7 + ((rowD l15 a10.toNat).i 6))), (w64 ((w64 (a8 + ((rowD l15 a10.toNat).i 1))) - (w64 ((d55.i 3) - (d55.i 4))))), a9, (w64 (a10 + 1)), a11, a12, a13, a14, a15, a16, a17, a18, l15, a20)
    else
     bif (decide (a10 < (a2.length : Int))) then
      chk (inb a10 a2.length) <|
      chk (decide (a10.toNat < a2.length)) <|
      chk (decide (0 ≤ (a10.toNat : Int) ∧ (a10.toNat : Int).toNat < l11.length) && noteG (rowD l11 (a10.toNat : Int).toNat)) <|
      lt ((l11.set (a10.toNat : Int).toNat (backD (within (a2.getD a10.toNat 0) 0 9000) (rowD l11 (a10.toNat : Int).toNat))) : List Dat) fun l61 =>
      bif (decide (a10 < (a3.length : Int))) then
       chk (inb a10 a3.length) <|
       chk (decide (a10.toNat < a3.length)) <|
       lt ((within (a3.getD a10.toNat 0) 0 9000) : Int) fun x63 =>
       chk (decide (0 ≤ x63 ∧ x63 ≤ 1125899906842624) && (decide (0 ≤ (a10.toNat : Int) ∧ (a10.toNat : Int).toNat < l61.length) && noteG (rowD l61 (a10.toNat : Int).toNat))) <|
       lt ((l61.set (a10.toNat : Int).toNat (oweD x63 (rowD l61 (a10.toNat : Int).toNat))) : List Dat) fun l64 =>
       chk (decide (a10.toNat < l64.length)) <|
       lt (rowD l64 a10.toNat : Dat) fun d65 =>
       chk (decide (a10.toNat < l64.length)) <|
       chk (decide (a10.toNat < l64.length)) <|
       chk (decide (a10.toNat < l64.length)) <|
       chk (decide (a10.toNat < l64.length)) <|
       lt (rowD l64 a10.toNat : Dat) fun d70 =>
       k (a0, a1, a2, a3, a4, (w64 (a5 + (w64 (w64 ((d65.i 1) - w64 ((d65.i 3) - (d65.i 4))) - (d65.i 6))))), (w64 (a6 + ((rowD l64 a10.toNat).i 5))), (w64 (a7 + ((rowD l64 a10.toNat).i 6))), (w64 ((w64 (a8 + ((rowD l64 a10.toNat).i 1))) - (w64 ((d70.i 3) - (d70.i 4))))), a9, (w64 (a10 + 1)), a11, a12, a13, a14, a15, a16, a17, a18, l64, a20)
      else
       chk (decide (a10.toNat < l61.length)) <|
       lt (rowD l61 a10.toNat : Dat) fun d73 =>
       chk (decide (a10.toNat < l61.length)) <|
       chk (decide (a10.toNat < l61.length)) <|
       chk (decide (a10.toNat < l61.length)) <|
       chk (decide (a10.toNat < l61.length)) <|
       lt (rowD l61 a10.toNat : Dat) fun d78 =>
       k (a0, a1, a2, a3, a4, (w64 (a5 + (w64 (w64 ((d73.i 1) - w64 ((d73.i 3) - (d73.i 4))) - (d73.i 6))))), (w64 (a6 + ((rowD l61 a10.toNat).i 5))), (w64 (a7 + ((rowD l61 a10.toNat).i 6))), (w64 ((w64 (a8 + ((rowD l61 a10.toNat).i 1))) - (w64 ((d78.i 3) - (d78.i 4))))), a9, (w64 (a10 + 1)), a11, a12, a13, a14, a15, a16, a17, a18, l61, a20)
     else
      bif (decide (a10 < (a3.length : Int))) then
       chk (inb a10 a3.length) <|
       chk (decide (a10.toNat < a3.length)) <|
       lt ((within (a3.getD a10.toNat 0) 0 9000) : Int) fun x82 =>
       chk (decide (0 ≤ x82 ∧ x82 ≤ 1125899906842624) && (decide (0 ≤ (a10.toNat : Int) ∧ (a10.toNat : Int).toNat < l11.length) && noteG (rowD l11 (a10.toNat : Int).toNat))) <|
       lt ((l11.set (a10.toNat : Int).toNat (oweD x82 (rowD l11 (a10.toNat : Int).toNat))) : List Dat) fun l83 =>
       chk (decide (a10.toNat < l83.length)) <|
       lt (rowD l83 a10.toNat : Dat) fun d84 =>
       chk (decide (a10.toNat < l83.length)) <|
       chk (decide (a10.toNat < l83.length)) <|
       chk (decide (a10.toNat < l83.length)) <|
       chk (decide (a10.toNat < l83.length)) <|
       lt (rowD l83 a10.toNat : Dat) fun d89 =>
       k (a0, a1, a2, a3, a4, (w64 (a5 + (w64 (w64 ((d84.i 1) - w64 ((d84.i 3) - (d84.i 4))) - (d84.i 6))))), (w64 (a6 + ((rowD l83 a10.toNat).i 5))), (w64 (a7 + ((rowD l83 a10.toNat).i 6))), (w64 ((w64 (a8 + ((rowD l83 a10.toNat).i 1))) - (w64 ((d89.i 3) - (d89.i 4))))), a9, (w64 (a10 + 1)), a11, a12, a13, a14, a15, a16, a17, a18, l83, a20)
      else
       chk (decide (a10.toNat < l11.length)) <|
       lt (rowD l11 a10.toNat : Dat) fun d92 =>
       chk (decide (a10.toNat < l11.length)) <|
       chk (decide (a10.toNat < l11.length)) <|
       chk (decide (a10.toNat < l11.length)) <|
       chk (decide (a10.toNat < l11.length)) <|
       lt (rowD l11 a10.toNat : Dat) fun d97 =>
       k (a0, a1, a2, a3, a4, (w64 (a5 + (w64 (w64 ((d92.i 1) - w64 ((d92.i 3) - (d92.i 4))) - (d92.i 6))))), (w64 (a6 + ((rowD l11 a10.toNat).i 5))), (w64 (a7 + ((rowD l11 a10.toNat).i 6))), (w64 ((w64 (a8 + ((rowD l11 a10.toNat).i 1))) - (w64 ((d97.i 3) - (d97.i 4))))), a9, (w64 (a10 + 1)), a11, a12, a13, a14, a15, a16, a17, a18, l11, a20)
   else
    bif (decide (a10 < (a1.length : Int))) then
     chk (inb a10 a1.length) <|
     chk (decide (a10.toNat < a1.length)) <|
     chk (decide (0 ≤ (a10.toNat : Int) ∧ (a10.toNat : Int).toNat < a19.length) && noteG (rowD a19 (a10.toNat : Int).toNat)) <|
     lt ((a19.set (a10.toNat : Int).toNat (writeD (within (a1.getD a10.toNat 0) 0 9000) (rowD a19 (a10.toNat : Int).toNat))) : List Dat) fun l103 =>
     bif (decide (a10 < (a2.length : Int))) then
      chk (inb a10 a2.length) <|
      chk (decide (a10.toNat < a2.length)) <|
      chk (decide (0 ≤ (a10.toNat : Int) ∧ (a10.toNat : Int).toNat < l103.length) && noteG (rowD l103 (a10.toNat : Int).toNat)) <|
      lt ((l103.set (a10.toNat : Int).toNat (backD (within (a2.getD a10.toNat 0) 0 9000) (rowD l103 (a10.toNat : Int).toNat))) : List Dat) fun l107 =>
      bif (decide (a10 < (a3.length : Int))) then
       chk (inb a10 a3.length) <|
       chk (decide (a10.toNat < a3.length)) <|
       lt ((within (a3.getD a10.toNat 0) 0 9000) : Int) fun x109 =>
       chk (decide (0 ≤ x109 ∧ x109 ≤ 1125899906842624) && (decide (0 ≤ (a10.toNat : Int) ∧ (a10.toNat : Int).toNat < l107.length) && noteG (rowD l107 (a10.toNat : Int).toNat))) <|
       lt ((l107.set (a10.toNat : Int).toNat (oweD x109 (rowD l107 (a10.toNat : Int).toNat))) : List Dat) fun l110 =>
       chk (decide (a10.toNat < l110.length)) <|
       lt (rowD l110 a10.toNat : Dat) fun d111 =>
       chk (decide (a10.toNat < l110.length)) <|
       chk (decide (a10.toNat < l110.length)) <|
       chk (decide (a10.toNat < l110.length)) <|
       chk (decide (a10.toNat < l110.length)) <|
       lt (rowD l110 a10.toNat : Dat) fun d116 =>
       k (a0, a1, a2, a3, a4, (w64 (a5 + (w64 (w64 ((d111.i 1) - w64 ((d111.i 3) - (d111.i 4))) - (d111.i 6))))), (w64 (a6 + ((rowD l110 a10.toNat).i 5))), (w64 (a7 + ((rowD l110 a10.toNat).i 6))), (w64 ((w64 (a8 + ((rowD l110 a10.toNat).i 1))) - (w64 ((d116.i 3) - (d116.i 4))))), a9, (w64 (a10 + 1)), a11, a12, a13, a14, a15, a16, a17, a18, l110, a20)
      else
       chk (decide (a10.toNat < l107.length)) <|
       lt (rowD l107 a10.toNat : Dat) fun d119 =>
       chk (decide (a10.toNat < l107.length)) <|
       chk (decide (a10.toNat < l107.length)) <|
       chk (decide (a10.toNat < l107.length)) <|
       chk (decide (a10.toNat < l107.length)) <|
       lt (rowD l107 a10.toNat : Dat) fun d124 =>
       k (a0, a1, a2, a3, a4, (w64 (a5 + (w64 (w64 ((d119.i 1) - w64 ((d119.i 3) - (d119.i 4))) - (d119.i 6))))), (w64 (a6 + ((rowD l107 a10.toNat).i 5))), (w64 (a7 + ((rowD l107 a10.toNat).i 6))), (w64 ((w64 (a8 + ((rowD l107 a10.toNat).i 1))) - (w64 ((d124.i 3) - (d124.i 4))))), a9, (w64 (a10 + 1)), a11, a12, a13, a14, a15, a16, a17, a18, l107, a20)
     else
      bif (decide (a10 < (a3.length : Int))) then
       chk (inb a10 a3.length) <|
       chk (decide (a10.toNat < a3.length)) <|
       lt ((within (a3.getD a10.toNat 0) 0 9000) : Int) fun x128 =>
       chk (decide (0 ≤ x128 ∧ x128 ≤ 1125899906842624) && (decide (0 ≤ (a10.toNat : Int) ∧ (a10.toNat : Int).toNat < l103.length) && noteG (rowD l103 (a10.toNat : Int).toNat))) <|
       lt ((l103.set (a10.toNat : Int).toNat (oweD x128 (rowD l103 (a10.toNat : Int).toNat))) : List Dat) fun l129 =>
       chk (decide (a10.toNat < l129.length)) <|
       lt (rowD l129 a10.toNat : Dat) fun d130 =>
       chk (decide (a10.toNat < l129.length)) <|
       chk (decide (a10.toNat < l129.length)) <|
       chk (decide (a10.toNat < l129.length)) <|
       chk (decide (a10.toNat < l129.length)) <|
       lt (rowD l129 a10.toNat : Dat) fun d135 =>
       k (a0, a1, a2, a3, a4, (w64 (a5 + (w64 (w64 ((d130.i 1) - w64 ((d130.i 3) - (d130.i 4))) - (d130.i 6))))), (w64 (a6 + ((rowD l129 a10.toNat).i 5))), (w64 (a7 + ((rowD l129 a10.toNat).i 6))), (w64 ((w64 (a8 + ((rowD l129 a10.toNat).i 1))) - (w64 ((d135.i 3) - (d135.i 4))))), a9, (w64 (a10 + 1)), a11, a12, a13, a14, a15, a16, a17, a18, l129, a20)
      else
       chk (decide (a10.toNat < l103.length)) <|
       lt (rowD l103 a10.toNat : Dat) fun d138 =>
       chk (decide (a10.toNat < l103.length)) <|
       chk (decide (a10.toNat < l103.length)) <|
       chk (decide (a10.toNat < l103.length)) <|
       chk (decide (a10.toNat < l103.length)) <|
       lt (rowD l103 a10.toNat : Dat) fun d143 =>
       k (a0, a1, a2, a3, a4, (w64 (a5 + (w64 (w64 ((d138.i 1) - w64 ((d138.i 3) - (d138.i 4))) - (d138.i 6))))), (w64 (a6 + ((rowD l103 a10.toNat).i 5))), (w64 (a7 + ((rowD l103 a10.toNat).i 6))), (w64 ((w64 (a8 + ((rowD l103 a10.toNat).i 1))) - (w64 ((d143.i 3) - (d143.i 4))))), a9, (w64 (a10 + 1)), a11, a12, a13, a14, a15, a16, a17, a18, l103, a20)
    else
     bif (decide (a10 < (a2.length : Int))) then
      chk (inb a10 a2.length) <|
      chk (decide (a10.toNat < a2.length)) <|
      chk (decide (0 ≤ (a10.toNat : Int) ∧ (a10.toNat : Int).toNat < a19.length) && noteG (rowD a19 (a10.toNat : Int).toNat)) <|
      lt ((a19.set (a10.toNat : Int).toNat (backD (within (a2.getD a10.toNat 0) 0 9000) (rowD a19 (a10.toNat : Int).toNat))) : List Dat) fun l149 =>
      bif (decide (a10 < (a3.length : Int))) then
       chk (inb a10 a3.length) <|
       chk (decide (a10.toNat < a3.length)) <|
       lt ((within (a3.getD a10.toNat 0) 0 9000) : Int) fun x151 =>
       chk (decide (0 ≤ x151 ∧ x151 ≤ 1125899906842624) && (decide (0 ≤ (a10.toNat : Int) ∧ (a10.toNat : Int).toNat < l149.length) && noteG (rowD l149 (a10.toNat : Int).toNat))) <|
       lt ((l149.set (a10.toNat : Int).toNat (oweD x151 (rowD l149 (a10.toNat : Int).toNat))) : List Dat) fun l152 =>
       chk (decide (a10.toNat < l152.length)) <|
       lt (rowD l152 a10.toNat : Dat) fun d153 =>
       chk (decide (a10.toNat < l152.length)) <|
       chk (decide (a10.toNat < l152.length)) <|
       chk (decide (a10.toNat < l152.length)) <|
       chk (decide (a10.toNat < l152.length)) <|
       lt (rowD l152 a10.toNat : Dat) fun d158 =>
       k (a0, a1, a2, a3, a4, (w64 (a5 + (w64 (w64 ((d153.i 1) - w64 ((d153.i 3) - (d153.i 4))) - (d153.i 6))))), (w64 (a6 + ((rowD l152 a10.toNat).i 5))), (w64 (a7 + ((rowD l152 a10.toNat).i 6))), (w64 ((w64 (a8 + ((rowD l152 a10.toNat).i 1))) - (w64 ((d158.i 3) - (d158.i 4))))), a9, (w64 (a10 + 1)), a11, a12, a13, a14, a15, a16, a17, a18, l152, a20)
      else
       chk (decide (a10.toNat < l149.length)) <|
       lt (rowD l149 a10.toNat : Dat) fun d161 =>
       chk (decide (a10.toNat < l149.length)) <|
       chk (decide (a10.toNat < l149.length)) <|
       chk (decide (a10.toNat < l149.length)) <|
       chk (decide (a10.toNat < l149.length)) <|
       lt (rowD l149 a10.toNat : Dat) fun d166 =>
       k (a0, a1, a2, a3, a4, (w64 (a5 + (w64 (w64 ((d161.i 1) - w64 ((d161.i 3) - (d161.i 4))) - (d161.i 6))))), (w64 (a6 + ((rowD l149 a10.toNat).i 5))), (w64 (a7 + ((rowD l149 a10.toNat).i 6))), (w64 ((w64 (a8 + ((rowD l149 a10.toNat).i 1))) - (w64 ((d166.i 3) - (d166.i 4))))), a9, (w64 (a10 + 1)), a11, a12, a13, a14, a15, a16, a17, a18, l149, a20)
     else
      bif (decide (a10 < (a3.length : Int))) then
       chk (inb a10 a3.length) <|
       chk (decide (a10.toNat < a3.length)) <|
       lt ((within (a3.getD a10.toNat 0) 0 9000) : Int) fun x170 =>
       chk (decide (0 ≤ x170 ∧ x170 ≤ 1125899906842624) && (decide (0 ≤ (a10.toNat : Int) ∧ (a10.toNat : Int).toNat < a19.length) && noteG (rowD a19 (a10.toNat : Int).toNat))) <|
       lt ((a19.set (a10.toNat : Int).toNat (oweD x170 (rowD a19 (a10.toNat : Int).toNat))) : List Dat) fun l171 =>
       chk (decide (a10.toNat < l171.length)) <|
       lt (rowD l171 a10.toNat : Dat) fun d172 =>
       chk (decide (a10.toNat < l171.length)) <|
       chk (decide (a10.toNat < l171.length)) <|
       chk (decide (a10.toNat < l171.length)) <|
       chk (decide (a10.toNat < l171.length)) <|
       lt (rowD l171 a10.toNat : Dat) fun d177 =>
       k (a0, a1, a2, a3, a4, (w64 (a5 + (w64 (w64 ((d172.i 1) - w64 ((d172.i 3) - (d172.i 4))) - (d172.i 6))))), (w64 (a6 + ((rowD l171 a10.toNat).i 5))), (w64 (a7 + ((rowD l171 a10.toNat).i 6))), (w64 ((w64 (a8 + ((rowD l171 a10.toNat).i 1))) - (w64 ((d177.i 3) - (d177.i 4))))), a9, (w64 (a10 + 1)), a11, a12, a13, a14, a15, a16, a17, a18, l171, a20)
      else
       chk (decide (a10.toNat < a19.length)) <|
       lt (rowD a19 a10.toNat : Dat) fun d180 =>
       chk (decide (a10.toNat < a19.length)) <|
       chk (decide (a10.toNat < a19.length)) <|
       chk (decide (a10.toNat < a19.length)) <|
       chk (decide (a10.toNat < a19.length)) <|
       lt (rowD a19 a10.toNat : Dat) fun d185 =>
       k (a0, a1, a2, a3, a4, (w64 (a5 + (w64 (w64 ((d180.i 1) - w64 ((d180.i 3) - (d180.i 4))) - (d180.i 6))))), (w64 (a6 + ((rowD a19 a10.toNat).i 5))), (w64 (a7 + ((rowD a19 a10.toNat).i 6))), (w64 ((w64 (a8 + ((rowD a19 a10.toNat).i 1))) - (w64 ((d185.i 3) - (d185.i 4))))), a9, (w64 (a10 + 1)), a11, a12, a13, a14, a15, a16, a17, a18, a19, a20)
  else
   chk (decide (0 ≤ a4) && (decide (a19.length ≤ 1000) && a19.all noteG)) <|
   bif (sumF balD a19) == a5 then
    bif (sumI 5 a19) == a6 then
     bif (sumI 6 a19) == a7 then
      bif (sumF unD a19) == a8 then
       bif a8 == (w64 (a5 + a7)) then
        some ([.b true])
       else
        some ([.b false])
      else
       some ([.b false])
     else
      some ([.b false])
    else
     some ([.b false])
   else
    some ([.b false])
noncomputable def L4_0 (m : Nat) : Nat → A4_0 → Option (List Un) := iterA (L4_0s m)
theorem L4_0_succ (m : Nat) (n : Nat) : L4_0 m (n + 1) = L4_0s m (L4_0 m n) := rfl
noncomputable def S4_0 (F : A4_0 → Option (List Un)) : StopS := ⟨[.lp [0, 1, 0, 1, 1, 1, 1], .blk 0, .code [1, 1, 1, 1, 1]], ⟨frm 160 [(1, .ints .i64), (2, .ints .i64), (3, .ints .i64), (4, .ints .i64), (11, .np 0 0 0), (13, .int .i64), (14, .int .i64), (15, .int .i64), (16, .int .i64), (39, .int .i64), (40, .int .i64)], [.cells [.int .i64, .int .i64, .int .i64, .buf 1 2, .buf 2 3, .int .i64, .int .i64, .int .i64, .int .i64, .int .i64, .int .i64, .int .i64, .int .i64, .int .i64, .int .i64, .buf 3 2, .buf 4 2, .buf 5 2, .ptr 6 0 0, .buf 7 7, .int .i64, .int .i64, .int .i64, .int .i64, .int .i64, .int .i64, .int .i64, .int .i64, .int .i64, .bool], .recs [.int .i64, .int .i64], .recs [.int .i64, .int .i64, .int .i64], .recs [.int .i64, .int .i64], .recs [.int .i64, .int .i64], .recs [.int .i64, .int .i64], .cells [.buf 8 5], .recs [.int .i64, .int .i64, .int .i64, .int .i64, .int .i64, .int .i64, .int .i64], .recs [.int .i64, .int .i64, .int .i64, .int .i64, .bool]]⟩, onU F⟩
theorem H4_0 (m : Nat) : ∀ n, HO N4 (S4_0 (L4_0 m n)) := loop_holds KN_none T10.right (fun k => [S4_0 k]) (fun k h => (all1 h all0)) fun k a => by kernel_rfl
noncomputable def t4 (m : Nat) : KDeal × List Int × List Int × List Int × List Int → Option (List Un) := fun (a0, a1, a2, a3, a4) =>
  chk (decide (a0.notes.length ≤ 140737488355328)) <|
  chk (decide ((dealV a0).loans.length < 1000000 ∧ (dealV a0).notes.length < 1000000 ∧ (dealV a0).s0.length < 1000000 ∧ (dealV a0).s1.length < 1000000 ∧ (dealV a0).s2.length < 1000000)) <|
  lt (((if (sumsW (dealV a0)).isSome then 0 else -1) : Int) : Int) fun x2 =>
  bif ((decide (x2 < 0)) && true) then
   some ([.b false])
  else
   bif ((if (sumsW (dealV a0)).isSome then 0 else 2) : Int) != 0 then
    some ([.b false])
   else
    chk (decide (0 ≤ x2)) <|
    L4_0 m m (a1, a2, a3, a4, x2, 0, 0, 0, 0, (((newW (dealV a0)).tr).length : Int), 0, ((newW (dealV a0)).a), ((newW (dealV a0)).b), ((newW (dealV a0)).n), ((newW (dealV a0)).loans), ((newW (dealV a0)).notes), ((newW (dealV a0)).s0), ((newW (dealV a0)).s1), ((newW (dealV a0)).s2), ((newW (dealV a0)).tr), ((newW (dealV a0)).pool))
set_option maxHeartbeats 8000000 in
theorem totalsL (m : Nat) (pay write back owe : List Int) (xa : DealA) (xb : DealB) (xn : TrustN) (x1 x2 x3 x4 x5 x6 : List Dat) : ∀ (rest pre : List Dat) (n : Nat), rest.length < n → (pre ++ rest).length ≤ 1000 → (∀ d ∈ pre, noteG d = true) → (∀ d ∈ rest, noteZ d) →
    L4_0 m n (pay, write, back, owe, 0, sumF balD pre, sumI 5 pre, sumI 6 pre, sumF unD pre, ((pre ++ rest).length : Int), (pre.length : Int), xa, xb, xn, x1, x2, x3, x4, x5, pre ++ rest, x6) = some [.b true] := by
  intro rest
  induction rest with
  | nil =>
    intro pre n hn hl hg hz
    obtain ⟨n, rfl⟩ := one_more n (by simp at hn; omega)
    have hs := sums_le pre hg
    simp only [List.append_nil] at hl ⊢
    rw [L4_0_succ]; unfold L4_0s; dsimp only
    have hall : pre.all noteG = true := List.all_eq_true.2 hg
    simp (disch := omega) only [lt_eq, chk_dec, chk_tt, chk_and, chk_inb, chk_fits, chk_make, chkn_dec, cond_dt, cond_df, cond_bt, cond_bf, cond_nt, cond_nf, cond_not, cond_and, cond_or, cond_tt, cond_ff, wrap_id, min_if', max_if', hall]
  | cons x rest ih =>
    intro pre n hn hl hg hz
    obtain ⟨n, rfl⟩ := one_more n (by simp at hn; omega)
    simp only [List.length_cons, List.length_append] at hn hl
    have hx := hz x (by simp)
    have hs := sums_le pre hg
    rw [L4_0_succ]; unfold L4_0s; dsimp only
    have K : ∀ y, noteG y = true → L4_0 m n (pay, write, back, owe, 0, w64 (sumF balD pre + w64 (w64 (y.i 1 - w64 (y.i 3 - y.i 4)) - y.i 6)), w64 (sumI 5 pre + y.i 5), w64 (sumI 6 pre + y.i 6), w64 (w64 (sumF unD pre + y.i 1) - w64 (y.i 3 - y.i 4)), (pre.length : Int) + ((rest.length : Int) + 1), w64 ((pre.length : Int) + 1), xa, xb, xn, x1, x2, x3, x4, x5, pre ++ y :: rest, x6) = some [.b true] := by
      intro y hy
      have h1 := noteG_at hy
      have := ih (pre ++ [y]) n (by omega) (by simp; omega) (fun d hd => by
        rcases List.mem_append.1 hd with hd | hd
        · exact hg d hd
        · rw [List.mem_singleton.1 hd]; exact hy) (fun d hd => hz d (by simp [hd]))
      rw [sumF_snoc, sumF_snoc, sumI_snoc, sumI_snoc] at this
      simp only [balD, unD] at this
      simp (disch := omega) only [wrap_id]
      simp only [List.length_append, List.length_cons, List.length_nil, List.length_replicate, List.length_set, List.length_map, List.length_range, Int.natCast_add, Int.cast_ofNat_Int, Int.toNat_natCast, Int.add_assoc, Nat.zero_add, Int.zero_add, List.append_assoc, List.cons_append, List.nil_append] at this ⊢
      rw [show sumF unD pre + y.i 1 - (y.i 3 - y.i 4) = sumF unD pre + (y.i 1 - (y.i 3 - y.i 4)) by omega]
      exact this
    have wr9 : ∀ v : Int, 0 ≤ within v 0 9000 ∧ within v 0 9000 ≤ 1125899906842624 := fun v => by have := within_le (a := v) (show (0 : Int) ≤ 9000 by decide); omega
    have hzz : ∀ (v : Int), decide (0 ≤ within v 0 9000 ∧ within v 0 9000 ≤ 1125899906842624) = true := fun v => decide_eq_true (wr9 v)
    by_cases c1 : (pre.length : Int) < (pay.length : Int) <;> by_cases c2 : (pre.length : Int) < (write.length : Int) <;> by_cases c3 : (pre.length : Int) < (back.length : Int) <;> by_cases c4 : (pre.length : Int) < (owe.length : Int)
    all_goals (
      simp (disch := first | omega | (repeat (first | assumption | apply noteZ_pay | apply noteZ_write | apply noteZ_back))) only [lt_eq, chk_and, chk_dec, chk_tt, chk_inb, chk_g, hzz, cond_dt, cond_df, Int.toNat_natCast, rowD_mid, set_mid, List.length_append, List.length_cons, Int.natCast_add, Int.cast_ofNat_Int]
      refine K _ ?_
      repeat (first | exact hx.1 | apply noteG_owe | exact hx | apply noteG_pay | apply noteG_write | apply noteG_back | apply noteZ_pay | apply noteZ_write | apply noteZ_back))
set_option maxHeartbeats 4000000 in
theorem spec4 (b0 : Int) (wb0 : (Lit.int .i64 b0).wf = true) (b1 : Int) (wb1 : (Lit.int .i64 b1).wf = true) (b2 : Int) (wb2 : (Lit.int .i64 b2).wf = true) (b3 : Int) (wb3 : (Lit.int .i64 b3).wf = true) (b4 : Int) (wb4 : (Lit.int .i64 b4).wf = true) (b5 : Int) (wb5 : (Lit.int .i64 b5).wf = true) (b6 : Int) (wb6 : (Lit.int .i64 b6).wf = true) (b7 : Int) (wb7 : (Lit.int .i64 b7).wf = true) (b8 : Int) (wb8 : (Lit.int .i64 b8).wf = true) (b9 : Int) (wb9 : (Lit.int .i64 b9).wf = true) (b10 : Int) (wb10 : (Lit.int .i64 b10).wf = true) (b11 : Int) (wb11 : (Lit.int .i64 b11).wf = true) (b12 : Int) (wb12 : (Lit.int .i64 b12).wf = true) (b13 : List Int) (wb13 : b13.length ≤ 140737488355328 ∧ ∀ x ∈ b13, (Lit.int .i64 x).wf = true) (b14 : List Int) (wb14 : b14.length ≤ 140737488355328 ∧ ∀ x ∈ b14, (Lit.int .i64 x).wf = true) (b15 : List Int) (wb15 : b15.length ≤ 140737488355328 ∧ ∀ x ∈ b15, (Lit.int .i64 x).wf = true) (b16 : List Int) (wb16 : b16.length ≤ 140737488355328 ∧ ∀ x ∈ b16, (Lit.int .i64 x).wf = true) (b17 : List Int) (wb17 : b17.length ≤ 140737488355328 ∧ ∀ x ∈ b17, (Lit.int .i64 x).wf = true) (b18 : List Int) (wb18 : b18.length ≤ 140737488355328 ∧ ∀ x ∈ b18, (Lit.int .i64 x).wf = true) (b19 : List Int) (wb19 : b19.length ≤ 140737488355328 ∧ ∀ x ∈ b19, (Lit.int .i64 x).wf = true) (b20 : List Int) (wb20 : b20.length ≤ 140737488355328 ∧ ∀ x ∈ b20, (Lit.int .i64 x).wf = true) (b21 : List Int) (wb21 : b21.length ≤ 140737488355328 ∧ ∀ x ∈ b21, (Lit.int .i64 x).wf = true) (b22 : List Int) (wb22 : b22.length ≤ 140737488355328 ∧ ∀ x ∈ b22, (Lit.int .i64 x).wf = true) (b23 : List Int) (wb23 : b23.length ≤ 140737488355328 ∧ ∀ x ∈ b23, (Lit.int .i64 x).wf = true) : ∃ m, t4 m ((⟨(⟨b0, b1, b2⟩ : DealA), (⟨b3, b4, b5, b6, b7, b8, b9, b10, b11, b12⟩ : DealB), b13, b14, b15, b16, b17, b18, b19⟩ : KDeal), b20, b21, b22, b23) = some [.b true] := by
  have hn : (⟨⟨b0, b1, b2⟩, ⟨b3, b4, b5, b6, b7, b8, b9, b10, b11, b12⟩, b13, b14, b15, b16, b17, b18, b19⟩ : KDeal).notes.length ≤ 140737488355328 := wb14.1
  generalize (⟨⟨b0, b1, b2⟩, ⟨b3, b4, b5, b6, b7, b8, b9, b10, b11, b12⟩, b13, b14, b15, b16, b17, b18, b19⟩ : KDeal) = k at hn
  have hr := dealV_right k
  have hl := kNotes_len k
  refine ⟨1000, ?_⟩
  unfold t4
  dsimp only
  have hw : newW (dealV k) = trustV (dealV k) := by simp only [newW, hr, Option.isSome_some, if_true]
  rw [chk_dec hn, chk_dec (dealV_short k), hw]
  simp only [hr, Option.isSome_some, if_true, lt_eq]
  simp (disch := decide) only [Bool.and_true, cond_df, cond_nf, chk_dec]
  have hz : ∀ d ∈ (dealV k).notes.map noteN, noteZ d := by
    have hp := kPool_le k
    simp only [List.mem_map]
    rintro d ⟨x, hx, rfl⟩
    have := kNotes_mem k x hx
    refine ⟨decide_eq_true ?_, rfl⟩
    simp only [noteN, fld_i1, fld_i3, fld_i4, fld_i5, fld_i6, true_and]
    omega
  exact totalsL 1000 b20 b21 b22 b23 _ _ _ _ _ _ _ _ _ ((dealV k).notes.map noteN) [] 1000 (by simp [dealV]; omega) (by simp [dealV]; omega) (by simp) hz
set_option maxRecDepth 20000 in
theorem walkTrustTotals {HH : Type} {enc : TypeId × Value → HH} {w : World} {base : Nat} {vs : List Value} {ds : List (DataW HH)} {ps : List MemPlace} (hsh : w.ShapedOpen Try.prog)
    (hd : DataW.TrodAll enc Try.prog w 0 (fun _ => true) true Try.f4.params.toList vs ds ps) {us' : List TypeId} {gs : List (DataW HH)} (hz : (DataW.weightsEach Try.prog (Try.f4.params.toList ++ us') (ds ++ gs)).all (· ≤ reachBytes) = true) (hval : ∀ (j : Nat) t v, Try.f4.params.toList[j]? = some t → vs[j]? = some v → Value.okWide Try.prog w .any base t v) :
    Calls Try.prog 4 vs.toArray w fun e w' => e = .returned (.bool true) ∧ RowKit.Below w.heap.size w w' :=
  law_args Seat.mix Seat.names TE_right (pars := RTrustTotals) (by kernel_rfl) (fun us h => by
    change WfU [.int .i64, .int .i64, .int .i64, .int .i64, .int .i64, .int .i64, .int .i64, .int .i64, .int .i64, .int .i64, .int .i64, .int .i64, .int .i64, .ints .i64, .ints .i64, .ints .i64, .ints .i64, .ints .i64, .ints .i64, .ints .i64, .ints .i64, .ints .i64, .ints .i64, .ints .i64] us at h
    obtain ⟨b0, u, rfl, wb0, h⟩ := wf_int h
    obtain ⟨b1, u, rfl, wb1, h⟩ := wf_int h
    obtain ⟨b2, u, rfl, wb2, h⟩ := wf_int h
    obtain ⟨b3, u, rfl, wb3, h⟩ := wf_int h
    obtain ⟨b4, u, rfl, wb4, h⟩ := wf_int h
    obtain ⟨b5, u, rfl, wb5, h⟩ := wf_int h
    obtain ⟨b6, u, rfl, wb6, h⟩ := wf_int h
    obtain ⟨b7, u, rfl, wb7, h⟩ := wf_int h
    obtain ⟨b8, u, rfl, wb8, h⟩ := wf_int h
    obtain ⟨b9, u, rfl, wb9, h⟩ := wf_int h
    obtain ⟨b10, u, rfl, wb10, h⟩ := wf_int h
    obtain ⟨b11, u, rfl, wb11, h⟩ := wf_int h
    obtain ⟨b12, u, rfl, wb12, h⟩ := wf_int h
    obtain ⟨b13, u, rfl, wb13, h⟩ := wf_ints h
    obtain ⟨b14, u, rfl, wb14, h⟩ := wf_ints h
    obtain ⟨b15, u, rfl, wb15, h⟩ := wf_ints h
    obtain ⟨b16, u, rfl, wb16, h⟩ := wf_ints h
    obtain ⟨b17, u, rfl, wb17, h⟩ := wf_ints h
    obtain ⟨b18, u, rfl, wb18, h⟩ := wf_ints h
    obtain ⟨b19, u, rfl, wb19, h⟩ := wf_ints h
    obtain ⟨b20, u, rfl, wb20, h⟩ := wf_ints h
    obtain ⟨b21, u, rfl, wb21, h⟩ := wf_ints h
    obtain ⟨b22, u, rfl, wb22, h⟩ := wf_ints h
    obtain ⟨b23, u, rfl, wb23, h⟩ := wf_ints h
    obtain rfl := wf_nil h
    obtain ⟨m, hm⟩ := spec4 b0 wb0 b1 wb1 b2 wb2 b3 wb3 b4 wb4 b5 wb5 b6 wb6 b7 wb7 b8 wb8 b9 wb9 b10 wb10 b11 wb11 b12 wb12 b13 wb13 b14 wb14 b15 wb15 b16 wb16 b17 wb17 b18 wb18 b19 wb19 b20 wb20 b21 wb21 b22 wb22 b23 wb23
    have G : N4.road Try.prog LQ KN (Uns.enc ((⟨(⟨b0, b1, b2⟩ : DealA), (⟨b3, b4, b5, b6, b7, b8, b9, b10, b11, b12⟩ : DealB), b13, b14, b15, b16, b17, b18, b19⟩ : KDeal), b20, b21, b22, b23)) ([S4_0 (L4_0 m m)]) = t4 m ((⟨(⟨b0, b1, b2⟩ : DealA), (⟨b3, b4, b5, b6, b7, b8, b9, b10, b11, b12⟩ : DealB), b13, b14, b15, b16, b17, b18, b19⟩ : KDeal), b20, b21, b22, b23) := by kernel_rfl
    exact N4.tells KN_none T10.right (W := [S4_0 (L4_0 m m)]) (by kernel_rfl) (by kernel_rfl) (by kernel_rfl) (all1 (H4_0 m m) all0) (G.trans hm)) hsh hd hz hval
end Go.Proofs.Ytoiijpphfckdjaa
