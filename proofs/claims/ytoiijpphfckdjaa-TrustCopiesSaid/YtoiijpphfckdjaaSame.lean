/- A part of the walk. -/
import Derived.Test.YtoiijpphfckdjaaView
namespace Go.Proofs.Ytoiijpphfckdjaa
open Go Go.Proofs.Ytoiijpphfckdjaa.Ev
set_option linter.unusedVariables false
set_option linter.unusedSimpArgs false
set_option linter.unnecessarySimpa false
theorem rowD_mid2 (pre pre' : List Dat) (x : Dat) (rest : List Dat) (h : pre'.length = pre.length) : rowD (pre' ++ x :: rest) pre.length = x := by rw [← h]; exact rowD_mid pre' x rest
def sameD : Nat → Nat → Dat → Dat → Bool
  | _, 0, _, _ => true
  | j, n + 1, x, y => x.i j == y.i j && sameD (j + 1) n x y
/-- Are lists of rows the same, in their first n fields? -/
def sameR (n : Nat) : List Dat → List Dat → Bool
  | [], [] => true
  | x :: a, y :: b => sameD 0 n x y && sameR n a b
  | _, _ => false
def sameI : List Int → List Int → Bool
  | [], [] => true
  | x :: a, y :: b => x == y && sameI a b
  | _, _ => false
theorem sameD_refl (x : Dat) : ∀ (n j : Nat), sameD j n x x = true
  | 0, j => rfl
  | n + 1, j => by simp [sameD, sameD_refl x n]
theorem sameR_refl (n : Nat) : ∀ (l : List Dat), sameR n l l = true
  | [] => rfl
  | x :: l => by simp [sameR, sameD_refl, sameR_refl n l]
theorem sameI_refl : ∀ (l : List Int), sameI l l = true
  | [] => rfl
  | x :: l => by simp [sameI, sameI_refl l]
theorem sameR_len (n : Nat) : ∀ (a b : List Dat), a.length ≠ b.length → sameR n a b = false
  | [], [], h => absurd rfl h
  | [], _ :: _, _ => rfl
  | _ :: _, [], _ => rfl
  | x :: a, y :: b, h => by simp [sameR, sameR_len n a b (by simpa using h)]
theorem sameI_len : ∀ (a b : List Int), a.length ≠ b.length → sameI a b = false
  | [], [], h => absurd rfl h
  | [], _ :: _, _ => rfl
  | _ :: _, [], _ => rfl
  | x :: a, y :: b, h => by simp [sameI, sameI_len a b (by simpa using h)]
/-! cascade/cascadebook.Same[cascade/api.Loan] -/
noncomputable def N56 : RoadF := ⟨T22.tab, 56, ⟨[.recs [.int .i64, .int .i64], .recs [.int .i64, .int .i64]], [], 0⟩, ⟨[.bool], [], 0⟩, []⟩
abbrev A56_0 : Type := List Dat × List Dat × Int
noncomputable def L56_0s (m : Nat) (k : A56_0 → Option (List Un)) : A56_0 → Option (List Un) := fun (a0, a1, a2) =>
  bif (decide (a2 < (a0.length : Int))) then
   chk (inb a2 a0.length) <|
   chk (decide (a2.toNat < a0.length)) <|
   lt (rowD a0 a2.toNat : Dat) fun d3 =>
   chk (inb a2 a1.length) <|
   chk (decide (a2.toNat < a1.length)) <|
   lt (rowD a1 a2.toNat : Dat) fun d4 =>
   bif (!(((d3.i 0) == (d4.i 0)) && (((d3.i 1) == (d4.i 1)) && true))) then
    some ([.b false])
   else
    k (a0, a1, (w64 (a2 + 1)))
  else
   some ([.b true])
noncomputable def L56_0 (m : Nat) : Nat → A56_0 → Option (List Un) := iterA (L56_0s m)
theorem L56_0_succ (m : Nat) (n : Nat) : L56_0 m (n + 1) = L56_0s m (L56_0 m n) := rfl
noncomputable def S56_0 (F : A56_0 → Option (List Un)) : StopS := ⟨[.lp [0, 1, 0, 1, 1], .blk 0, .code [1, 1, 1]], ⟨frm 26 [(0, .recs [.int .i64, .int .i64]), (1, .recs [.int .i64, .int .i64]), (5, .int .i64)], [], 0⟩, onU F⟩
theorem H56_0 (m : Nat) : ∀ n, HO N56 (S56_0 (L56_0 m n)) := loop_holds KN_none T22.right (fun k => [S56_0 k]) (fun k h => (all1 h all0)) fun k a => by kernel_rfl
noncomputable def t56 (m : Nat) : List Dat × List Dat → Option (List Un) := fun (a0, a1) =>
  bif ((a0.length : Int) != (a1.length : Int)) then
   some ([.b false])
  else
   L56_0 m m (a0, a1, 0)
theorem sameL56 (m : Nat) : ∀ (rest rest' pre pre' : List Dat) (n : Nat), rest.length < n → pre'.length = pre.length → rest'.length = rest.length → (pre ++ rest).length < 1099511627776 →
    L56_0 m n (pre ++ rest, pre' ++ rest', (pre.length : Int)) = some [.b (sameR 2 rest rest')] := by
  intro rest
  induction rest with
  | nil =>
    intro rest' pre pre' n hn hp hr hl
    obtain ⟨n, rfl⟩ := one_more n (by simp at hn; omega)
    obtain rfl : rest' = [] := List.eq_nil_of_length_eq_zero (by simpa using hr)
    rw [L56_0_succ]; unfold L56_0s; dsimp only
    simp [cond_df, sameR]
  | cons x rest ih =>
    intro rest' pre pre' n hn hp hr hl
    obtain ⟨n, rfl⟩ := one_more n (by simp at hn; omega)
    obtain ⟨y, rest', rfl⟩ : ∃ y l, rest' = y :: l := by cases rest' with | nil => simp at hr | cons y l => exact ⟨y, l, rfl⟩
    simp only [List.length_cons, List.length_append] at hn hl hr
    have := ih rest' (pre ++ [x]) (pre' ++ [y]) n (by omega) (by simp [hp]) (by omega) (by simp; omega)
    rw [L56_0_succ]; unfold L56_0s; dsimp only
    simp only [sameR, sameD, Nat.reduceAdd]
    simp (disch := omega) only [lt_eq, chk_dec, chk_tt, chk_and, chk_inb, chk_fits, chk_make, chkn_dec, cond_dt, cond_df, cond_bt, cond_bf, cond_nt, cond_nf, cond_not, cond_and, cond_or, cond_tt, cond_ff, wrap_id, min_if', max_if', List.length_append, List.length_cons, List.length_nil, List.length_replicate, List.length_set, List.length_map, List.length_range, Int.natCast_add, Int.cast_ofNat_Int, Int.toNat_natCast, Int.add_assoc, Nat.zero_add, Int.zero_add, List.append_assoc, List.cons_append, List.nil_append, rowD_mid, rowD_mid2 _ _ _ _ hp]
    simp only [List.length_append, List.length_cons, List.length_nil, List.length_replicate, List.length_set, List.length_map, List.length_range, Int.natCast_add, Int.cast_ofNat_Int, Int.toNat_natCast, Int.add_assoc, Nat.zero_add, Int.zero_add, List.append_assoc, List.cons_append, List.nil_append] at this ⊢
    (try simp only [bne, cond_not])
    cases (x.i 0 == y.i 0) <;> cases (x.i 1 == y.i 1)
    all_goals (first | exact this | rfl)
noncomputable def f56 : List Dat × List Dat → Bool × List Un := fun (a0, a1) => (decide (a0.length < 1099511627776), [.b (sameR 2 a0 a1)])
theorem spec56 (a0 : List Dat) (a1 : List Dat) (hc : (decide (a0.length < 1099511627776)) = true) : ∃ m, t56 m (a0, a1) = some ([.b (sameR 2 a0 a1)]) := by
  have hs := of_decide_eq_true hc
  refine ⟨a0.length + 1, ?_⟩
  unfold t56
  dsimp only
  by_cases h : a0.length = a1.length
  · rw [cond_nf (by omega)]
    exact sameL56 _ a0 a1 [] [] _ (by omega) rfl h.symm (by simpa using hs)
  · rw [cond_nt (by omega), sameR_len _ _ _ h]
theorem right56 : ER 56 (mkE N56.en N56.ex f56) := right_of KN_none T22.right (fun m => [S56_0 (L56_0 m m)]) (t := t56) (by kernel_rfl) (fun m => (all1 (H56_0 m m) all0)) (fun m a => by kernel_rfl) fun (a0, a1) hc => spec56 a0 a1 hc
noncomputable def T56 : Tb Try.prog LQ TE := T22.add 56 _ right56
/-! cascade/cascadebook.Same[cascade/api.Step] -/
noncomputable def N55 : RoadF := ⟨T56.tab, 55, ⟨[.recs [.int .i64, .int .i64], .recs [.int .i64, .int .i64]], [], 0⟩, ⟨[.bool], [], 0⟩, []⟩
abbrev A55_0 : Type := List Dat × List Dat × Int
noncomputable def L55_0s (m : Nat) (k : A55_0 → Option (List Un)) : A55_0 → Option (List Un) := fun (a0, a1, a2) =>
  bif (decide (a2 < (a0.length : Int))) then
   chk (inb a2 a0.length) <|
   chk (decide (a2.toNat < a0.length)) <|
   lt (rowD a0 a2.toNat : Dat) fun d3 =>
   chk (inb a2 a1.length) <|
   chk (decide (a2.toNat < a1.length)) <|
   lt (rowD a1 a2.toNat : Dat) fun d4 =>
   bif (!(((d3.i 0) == (d4.i 0)) && (((d3.i 1) == (d4.i 1)) && true))) then
    some ([.b false])
   else
    k (a0, a1, (w64 (a2 + 1)))
  else
   some ([.b true])
noncomputable def L55_0 (m : Nat) : Nat → A55_0 → Option (List Un) := iterA (L55_0s m)
theorem L55_0_succ (m : Nat) (n : Nat) : L55_0 m (n + 1) = L55_0s m (L55_0 m n) := rfl
noncomputable def S55_0 (F : A55_0 → Option (List Un)) : StopS := ⟨[.lp [0, 1, 0, 1, 1], .blk 0, .code [1, 1, 1]], ⟨frm 26 [(0, .recs [.int .i64, .int .i64]), (1, .recs [.int .i64, .int .i64]), (5, .int .i64)], [], 0⟩, onU F⟩
theorem H55_0 (m : Nat) : ∀ n, HO N55 (S55_0 (L55_0 m n)) := loop_holds KN_none T56.right (fun k => [S55_0 k]) (fun k h => (all1 h all0)) fun k a => by kernel_rfl
noncomputable def t55 (m : Nat) : List Dat × List Dat → Option (List Un) := fun (a0, a1) =>
  bif ((a0.length : Int) != (a1.length : Int)) then
   some ([.b false])
  else
   L55_0 m m (a0, a1, 0)
theorem sameL55 (m : Nat) : ∀ (rest rest' pre pre' : List Dat) (n : Nat), rest.length < n → pre'.length = pre.length → rest'.length = rest.length → (pre ++ rest).length < 1099511627776 →
    L55_0 m n (pre ++ rest, pre' ++ rest', (pre.length : Int)) = some [.b (sameR 2 rest rest')] := by
  intro rest
  induction rest with
  | nil =>
    intro rest' pre pre' n hn hp hr hl
    obtain ⟨n, rfl⟩ := one_more n (by simp at hn; omega)
    obtain rfl : rest' = [] := List.eq_nil_of_length_eq_zero (by simpa using hr)
    rw [L55_0_succ]; unfold L55_0s; dsimp only
    simp [cond_df, sameR]
  | cons x rest ih =>
    intro rest' pre pre' n hn hp hr hl
    obtain ⟨n, rfl⟩ := one_more n (by simp at hn; omega)
    obtain ⟨y, rest', rfl⟩ : ∃ y l, rest' = y :: l := by cases rest' with | nil => simp at hr | cons y l => exact ⟨y, l, rfl⟩
    simp only [List.length_cons, List.length_append] at hn hl hr
    have := ih rest' (pre ++ [x]) (pre' ++ [y]) n (by omega) (by simp [hp]) (by omega) (by simp; omega)
    rw [L55_0_succ]; unfold L55_0s; dsimp only
    simp only [sameR, sameD, Nat.reduceAdd]
    simp (disch := omega) only [lt_eq, chk_dec, chk_tt, chk_and, chk_inb, chk_fits, chk_make, chkn_dec, cond_dt, cond_df, cond_bt, cond_bf, cond_nt, cond_nf, cond_not, cond_and, cond_or, cond_tt, cond_ff, wrap_id, min_if', max_if', List.length_append, List.length_cons, List.length_nil, List.length_replicate, List.length_set, List.length_map, List.length_range, Int.natCast_add, Int.cast_ofNat_Int, Int.toNat_natCast, Int.add_assoc, Nat.zero_add, Int.zero_add, List.append_assoc, List.cons_append, List.nil_append, rowD_mid, rowD_mid2 _ _ _ _ hp]
    simp only [List.length_append, List.length_cons, List.length_nil, List.length_replicate, List.length_set, List.length_map, List.length_range, Int.natCast_add, Int.cast_ofNat_Int, Int.toNat_natCast, Int.add_assoc, Nat.zero_add, Int.zero_add, List.append_assoc, List.cons_append, List.nil_append] at this ⊢
    (try simp only [bne, cond_not])
    cases (x.i 0 == y.i 0) <;> cases (x.i 1 == y.i 1)
    all_goals (first | exact this | rfl)
noncomputable def f55 : List Dat × List Dat → Bool × List Un := fun (a0, a1) => (decide (a0.length < 1099511627776), [.b (sameR 2 a0 a1)])
theorem spec55 (a0 : List Dat) (a1 : List Dat) (hc : (decide (a0.length < 1099511627776)) = true) : ∃ m, t55 m (a0, a1) = some ([.b (sameR 2 a0 a1)]) := by
  have hs := of_decide_eq_true hc
  refine ⟨a0.length + 1, ?_⟩
  unfold t55
  dsimp only
  by_cases h : a0.length = a1.length
  · rw [cond_nf (by omega)]
    exact sameL55 _ a0 a1 [] [] _ (by omega) rfl h.symm (by simpa using hs)
  · rw [cond_nt (by omega), sameR_len _ _ _ h]
theorem right55 : ER 55 (mkE N55.en N55.ex f55) := right_of KN_none T56.right (fun m => [S55_0 (L55_0 m m)]) (t := t55) (by kernel_rfl) (fun m => (all1 (H55_0 m m) all0)) (fun m a => by kernel_rfl) fun (a0, a1) hc => spec55 a0 a1 hc
noncomputable def T55 : Tb Try.prog LQ TE := T56.add 55 _ right55
/-! cascade/cascadebook.Same[cascade/api.Terms] -/
noncomputable def N57 : RoadF := ⟨T55.tab, 57, ⟨[.recs [.int .i64, .int .i64, .int .i64], .recs [.int .i64, .int .i64, .int .i64]], [], 0⟩, ⟨[.bool], [], 0⟩, []⟩
abbrev A57_0 : Type := List Dat × List Dat × Int
noncomputable def L57_0s (m : Nat) (k : A57_0 → Option (List Un)) : A57_0 → Option (List Un) := fun (a0, a1, a2) =>
  bif (decide (a2 < (a0.length : Int))) then
   chk (inb a2 a0.length) <|
   chk (decide (a2.toNat < a0.length)) <|
   lt (rowD a0 a2.toNat : Dat) fun d3 =>
   chk (inb a2 a1.length) <|
   chk (decide (a2.toNat < a1.length)) <|
   lt (rowD a1 a2.toNat : Dat) fun d4 =>
   bif (!(((d3.i 0) == (d4.i 0)) && (((d3.i 1) == (d4.i 1)) && (((d3.i 2) == (d4.i 2)) && true)))) then
    some ([.b false])
   else
    k (a0, a1, (w64 (a2 + 1)))
  else
   some ([.b true])
noncomputable def L57_0 (m : Nat) : Nat → A57_0 → Option (List Un) := iterA (L57_0s m)
theorem L57_0_succ (m : Nat) (n : Nat) : L57_0 m (n + 1) = L57_0s m (L57_0 m n) := rfl
noncomputable def S57_0 (F : A57_0 → Option (List Un)) : StopS := ⟨[.lp [0, 1, 0, 1, 1], .blk 0, .code [1, 1, 1]], ⟨frm 26 [(0, .recs [.int .i64, .int .i64, .int .i64]), (1, .recs [.int .i64, .int .i64, .int .i64]), (5, .int .i64)], [], 0⟩, onU F⟩
theorem H57_0 (m : Nat) : ∀ n, HO N57 (S57_0 (L57_0 m n)) := loop_holds KN_none T55.right (fun k => [S57_0 k]) (fun k h => (all1 h all0)) fun k a => by kernel_rfl
noncomputable def t57 (m : Nat) : List Dat × List Dat → Option (List Un) := fun (a0, a1) =>
  bif ((a0.length : Int) != (a1.length : Int)) then
   some ([.b false])
  else
   L57_0 m m (a0, a1, 0)
theorem sameL57 (m : Nat) : ∀ (rest rest' pre pre' : List Dat) (n : Nat), rest.length < n → pre'.length = pre.length → rest'.length = rest.length → (pre ++ rest).length < 1099511627776 →
    L57_0 m n (pre ++ rest, pre' ++ rest', (pre.length : Int)) = some [.b (sameR 3 rest rest')] := by
  intro rest
  induction rest with
  | nil =>
    intro rest' pre pre' n hn hp hr hl
    obtain ⟨n, rfl⟩ := one_more n (by simp at hn; omega)
    obtain rfl : rest' = [] := List.eq_nil_of_length_eq_zero (by simpa using hr)
    rw [L57_0_succ]; unfold L57_0s; dsimp only
    simp [cond_df, sameR]
  | cons x rest ih =>
    intro rest' pre pre' n hn hp hr hl
    obtain ⟨n, rfl⟩ := one_more n (by simp at hn; omega)
    obtain ⟨y, rest', rfl⟩ : ∃ y l, rest' = y :: l := by cases rest' with | nil => simp at hr | cons y l => exact ⟨y, l, rfl⟩
    simp only [List.length_cons, List.length_append] at hn hl hr
    have := ih rest' (pre ++ [x]) (pre' ++ [y]) n (by omega) (by simp [hp]) (by omega) (by simp; omega)
    rw [L57_0_succ]; unfold L57_0s; dsimp only
    simp only [sameR, sameD, Nat.reduceAdd]
    simp (disch := omega) only [lt_eq, chk_dec, chk_tt, chk_and, chk_inb, chk_fits, chk_make, chkn_dec, cond_dt, cond_df, cond_bt, cond_bf, cond_nt, cond_nf, cond_not, cond_and, cond_or, cond_tt, cond_ff, wrap_id, min_if', max_if', List.length_append, List.length_cons, List.length_nil, List.length_replicate, List.length_set, List.length_map, List.length_range, Int.natCast_add, Int.cast_ofNat_Int, Int.toNat_natCast, Int.add_assoc, Nat.zero_add, Int.zero_add, List.append_assoc, List.cons_append, List.nil_append, rowD_mid, rowD_mid2 _ _ _ _ hp]
    simp only [List.length_append, List.length_cons, List.length_nil, List.length_replicate, List.length_set, List.length_map, List.length_range, Int.natCast_add, Int.cast_ofNat_Int, Int.toNat_natCast, Int.add_assoc, Nat.zero_add, Int.zero_add, List.append_assoc, List.cons_append, List.nil_append] at this ⊢
    (try simp only [bne, cond_not])
    cases (x.i 0 == y.i 0) <;> cases (x.i 1 == y.i 1) <;> cases (x.i 2 == y.i 2)
    all_goals (first | exact this | rfl)
noncomputable def f57 : List Dat × List Dat → Bool × List Un := fun (a0, a1) => (decide (a0.length < 1099511627776), [.b (sameR 3 a0 a1)])
theorem spec57 (a0 : List Dat) (a1 : List Dat) (hc : (decide (a0.length < 1099511627776)) = true) : ∃ m, t57 m (a0, a1) = some ([.b (sameR 3 a0 a1)]) := by
  have hs := of_decide_eq_true hc
  refine ⟨a0.length + 1, ?_⟩
  unfold t57
  dsimp only
  by_cases h : a0.length = a1.length
  · rw [cond_nf (by omega)]
    exact sameL57 _ a0 a1 [] [] _ (by omega) rfl h.symm (by simpa using hs)
  · rw [cond_nt (by omega), sameR_len _ _ _ h]
theorem right57 : ER 57 (mkE N57.en N57.ex f57) := right_of KN_none T55.right (fun m => [S57_0 (L57_0 m m)]) (t := t57) (by kernel_rfl) (fun m => (all1 (H57_0 m m) all0)) (fun m a => by kernel_rfl) fun (a0, a1) hc => spec57 a0 a1 hc
noncomputable def T57 : Tb Try.prog LQ TE := T55.add 57 _ right57
/-! cascade/cascadebook.Same[int] -/
noncomputable def N11 : RoadF := ⟨T57.tab, 11, ⟨[.ints .i64, .ints .i64], [], 0⟩, ⟨[.bool], [], 0⟩, []⟩
abbrev A11_0 : Type := List Int × List Int × Int
noncomputable def L11_0s (m : Nat) (k : A11_0 → Option (List Un)) : A11_0 → Option (List Un) := fun (a0, a1, a2) =>
  bif (decide (a2 < (a0.length : Int))) then
   chk (inb a2 a0.length) <|
   chk (decide (a2.toNat < a0.length)) <|
   chk (inb a2 a1.length) <|
   chk (decide (a2.toNat < a1.length)) <|
   bif ((a0.getD a2.toNat 0) != (a1.getD a2.toNat 0)) then
    some ([.b false])
   else
    k (a0, a1, (w64 (a2 + 1)))
  else
   some ([.b true])
noncomputable def L11_0 (m : Nat) : Nat → A11_0 → Option (List Un) := iterA (L11_0s m)
theorem L11_0_succ (m : Nat) (n : Nat) : L11_0 m (n + 1) = L11_0s m (L11_0 m n) := rfl
noncomputable def S11_0 (F : A11_0 → Option (List Un)) : StopS := ⟨[.lp [0, 1, 0, 1, 1], .blk 0, .code [1, 1, 1]], ⟨frm 26 [(0, .ints .i64), (1, .ints .i64), (5, .int .i64)], [], 0⟩, onU F⟩
theorem H11_0 (m : Nat) : ∀ n, HO N11 (S11_0 (L11_0 m n)) := loop_holds KN_none T57.right (fun k => [S11_0 k]) (fun k h => (all1 h all0)) fun k a => by kernel_rfl
noncomputable def t11 (m : Nat) : List Int × List Int → Option (List Un) := fun (a0, a1) =>
  bif ((a0.length : Int) != (a1.length : Int)) then
   some ([.b false])
  else
   L11_0 m m (a0, a1, 0)
theorem sameL11 (m : Nat) : ∀ (rest rest' pre pre' : List Int) (n : Nat), rest.length < n → pre'.length = pre.length → rest'.length = rest.length → (pre ++ rest).length < 1099511627776 →
    L11_0 m n (pre ++ rest, pre' ++ rest', (pre.length : Int)) = some [.b (sameI rest rest')] := by
  intro rest
  induction rest with
  | nil =>
    intro rest' pre pre' n hn hp hr hl
    obtain ⟨n, rfl⟩ := one_more n (by simp at hn; omega)
    obtain rfl : rest' = [] := List.eq_nil_of_length_eq_zero (by simpa using hr)
    rw [L11_0_succ]; unfold L11_0s; dsimp only
    simp [cond_df, sameI]
  | cons x rest ih =>
    intro rest' pre pre' n hn hp hr hl
    obtain ⟨n, rfl⟩ := one_more n (by simp at hn; omega)
    obtain ⟨y, rest', rfl⟩ : ∃ y l, rest' = y :: l := by cases rest' with | nil => simp at hr | cons y l => exact ⟨y, l, rfl⟩
    simp only [List.length_cons, List.length_append] at hn hl hr
    have := ih rest' (pre ++ [x]) (pre' ++ [y]) n (by omega) (by simp [hp]) (by omega) (by simp; omega)
    rw [L11_0_succ]; unfold L11_0s; dsimp only
    simp only [sameI, sameD, Nat.reduceAdd]
    simp (disch := omega) only [lt_eq, chk_dec, chk_tt, chk_and, chk_inb, chk_fits, chk_make, chkn_dec, cond_dt, cond_df, cond_bt, cond_bf, cond_nt, cond_nf, cond_not, cond_and, cond_or, cond_tt, cond_ff, wrap_id, min_if', max_if', List.length_append, List.length_cons, List.length_nil, List.length_replicate, List.length_set, List.length_map, List.length_range, Int.natCast_add, Int.cast_ofNat_Int, Int.toNat_natCast, Int.add_assoc, Nat.zero_add, Int.zero_add, List.append_assoc, List.cons_append, List.nil_append, getD_mid, getD_mid2 _ _ _ _ _ hp]
    simp only [List.length_append, List.length_cons, List.length_nil, List.length_replicate, List.length_set, List.length_map, List.length_range, Int.natCast_add, Int.cast_ofNat_Int, Int.toNat_natCast, Int.add_assoc, Nat.zero_add, Int.zero_add, List.append_assoc, List.cons_append, List.nil_append] at this ⊢
    (try simp only [bne, cond_not])
    cases (x == y)
    all_goals (first | exact this | rfl)
noncomputable def f11 : List Int × List Int → Bool × List Un := fun (a0, a1) => (decide (a0.length < 1099511627776), [.b (sameI a0 a1)])
theorem spec11 (a0 : List Int) (a1 : List Int) (hc : (decide (a0.length < 1099511627776)) = true) : ∃ m, t11 m (a0, a1) = some ([.b (sameI a0 a1)]) := by
  have hs := of_decide_eq_true hc
  refine ⟨a0.length + 1, ?_⟩
  unfold t11
  dsimp only
  by_cases h : a0.length = a1.length
  · rw [cond_nf (by omega)]
    exact sameL11 _ a0 a1 [] [] _ (by omega) rfl h.symm (by simpa using hs)
  · rw [cond_nt (by omega), sameI_len _ _ h]
theorem right11 : ER 11 (mkE N11.en N11.ex f11) := right_of KN_none T57.right (fun m => [S11_0 (L11_0 m m)]) (t := t11) (by kernel_rfl) (fun m => (all1 (H11_0 m m) all0)) (fun m a => by kernel_rfl) fun (a0, a1) hc => spec11 a0 a1 hc
noncomputable def T11 : Tb Try.prog LQ TE := T57.add 11 _ right11

end Go.Proofs.Ytoiijpphfckdjaa
