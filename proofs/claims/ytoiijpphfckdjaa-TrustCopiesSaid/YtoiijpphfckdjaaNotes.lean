/- A part of the walk. -/
import Derived.Test.YtoiijpphfckdjaaTrust
namespace Go.Proofs.Ytoiijpphfckdjaa
open Go Go.Proofs.Ytoiijpphfckdjaa.Ev
set_option linter.unusedVariables false
set_option linter.unusedSimpArgs false
set_option linter.unnecessarySimpa false
theorem noteG_pay {d : Dat} (c : Int) (h : noteG d = true) : noteG (payD c d) = true := by
  have := noteG_at h
  refine decide_eq_true ?_
  simp only [payD, payV, balD, fld_i1, fld_i3, fld_i4, fld_i5, fld_i6]
  omega
theorem noteG_write {d : Dat} (c : Int) (h : noteG d = true) : noteG (writeD c d) = true := by
  have := noteG_at h
  refine decide_eq_true ?_
  simp only [writeD, payV, balD, fld_i1, fld_i3, fld_i4, fld_i5, fld_i6]
  omega
theorem noteG_back {d : Dat} (c : Int) (h : noteG d = true) : noteG (backD c d) = true := by
  have := noteG_at h
  refine decide_eq_true ?_
  simp only [backD, backV, fld_i1, fld_i3, fld_i4, fld_i5, fld_i6]
  omega
/-- A good note that owes no interest. -/
def noteZ (d : Dat) : Prop := noteG d = true ∧ d.i 5 = 0
theorem noteZ_pay {d : Dat} (c : Int) (h : noteZ d) : noteZ (payD c d) := ⟨noteG_pay c h.1, h.2⟩
theorem noteZ_write {d : Dat} (c : Int) (h : noteZ d) : noteZ (writeD c d) := ⟨noteG_write c h.1, h.2⟩
theorem noteZ_back {d : Dat} (c : Int) (h : noteZ d) : noteZ (backD c d) := ⟨noteG_back c h.1, h.2⟩
theorem noteG_owe {d : Dat} (x : Int) (h : noteZ d) : noteG (oweD (within x 0 9000) d) = true := by
  have := noteG_at h.1
  have := h.2
  have := within_le (a := x) (show (0 : Int) ≤ 9000 by decide)
  refine decide_eq_true ?_
  simp only [oweD, fld_i1, fld_i3, fld_i4, fld_i5, fld_i6]
  omega
theorem chk_g {α : Type} {d : Dat} {o : Option α} (h : noteZ d) : chk (noteG d) o = o := by rw [h.1]; rfl
theorem sumF_snoc (f : Dat → Int) (x : Dat) : ∀ l : List Dat, sumF f (l ++ [x]) = sumF f l + f x
  | [] => by simp [sumF]
  | d :: l => by simp only [List.cons_append, sumF, sumF_snoc f x l]; omega
theorem sumI_snoc (j : Nat) (x : Dat) : ∀ l : List Dat, sumI j (l ++ [x]) = sumI j l + x.i j
  | [] => by simp [sumI]
  | d :: l => by simp only [List.cons_append, sumI, sumI_snoc j x l]; omega
theorem sums_le : ∀ l : List Dat, (∀ d ∈ l, noteG d = true) → (0 ≤ sumF balD l ∧ sumF balD l ≤ 1099511627776 * l.length) ∧ (0 ≤ sumI 5 l ∧ sumI 5 l ≤ 1125899906842624 * l.length) ∧ (0 ≤ sumI 6 l ∧ sumI 6 l ≤ 1099511627776 * l.length) ∧ (0 ≤ sumF unD l ∧ sumF unD l ≤ 1099511627776 * l.length) ∧ sumF unD l = sumF balD l + sumI 6 l
  | [], _ => by simp [sumF, sumI]
  | d :: l, h => by
    have h1 := noteG_at (h d (by simp))
    have h2 := sums_le l fun x hx => h x (by simp [hx])
    simp only [sumF, sumI, List.length_cons, Int.natCast_add, balD, unD] at h2 ⊢
    omega
theorem sumF_set (f : Dat → Int) (y : Dat) : ∀ (l : List Dat) (j : Nat), j < l.length → sumF f (l.set j y) = sumF f l - f (rowD l j) + f y
  | [], j, h => by simp at h
  | d :: l, 0, h => by simp only [List.set_cons_zero, sumF, rowD, List.getD_cons_zero]; omega
  | d :: l, j + 1, h => by
    have := sumF_set f y l j (by simpa using h)
    simp only [rowD] at this
    simp only [List.set_cons_succ, sumF, rowD, List.getD_cons_succ, this]
    omega
theorem all_set {p : Dat → Prop} {l : List Dat} {j : Nat} {y : Dat} (h : ∀ d ∈ l, p d) (hy : p y) : ∀ d ∈ l.set j y, p d := fun d hd => by
  rcases List.mem_or_eq_of_mem_set hd with h1 | rfl
  · exact h d h1
  · exact hy
theorem rowD_mem {l : List Dat} {j : Nat} (h : j < l.length) : rowD l j ∈ l := by rw [rowD_get h]; exact List.getElem_mem h
theorem balD_pay (c : Int) (d : Dat) : balD (payD c d) = balD d - payV c d := by simp only [balD, payD, fld_i1, fld_i3, fld_i4, fld_i6]; omega
/-- The notes and the loans of a trust as it begins. -/
theorem trN_mem (k : KDeal) : ∀ d ∈ (trustV (dealV k)).tr, noteG d = true := by
  have hp := kPool_le k
  simp only [trustV, List.mem_map]
  rintro d ⟨x, hx, rfl⟩
  have := kNotes_mem k x hx
  refine decide_eq_true ?_
  simp only [noteN, fld_i1, fld_i3, fld_i4, fld_i5, fld_i6, true_and]
  omega
theorem trN_bal : ∀ l : List Dat, sumF balD (l.map noteN) = sumI 1 l
  | [] => rfl
  | d :: l => by
    have e : balD (noteN d) = d.i 1 := by simp only [balD, noteN, fld_i1, fld_i3, fld_i4, fld_i6]; omega
    simp only [List.map_cons, sumF, sumI, trN_bal l, e]

end Go.Proofs.Ytoiijpphfckdjaa
