/- A part of the walk. -/
import Derived.Test.YtncgbpajngakpaaFlowWork
namespace Go.Proofs.Ytncgbpajngakpaa
open Go Go.Proofs.Ytncgbpajngakpaa.Ev
set_option linter.unusedVariables false
set_option linter.unusedSimpArgs false
set_option linter.unnecessarySimpa false
theorem rowD_mid2 (pre pre' : List Dat) (x : Dat) (rest : List Dat) (h : pre'.length = pre.length) : rowD (pre' ++ x :: rest) pre.length = x := by rw [← h]; exact rowD_mid pre' x rest
def sameD : Nat → Nat → Dat → Dat → Bool
  | _, 0, _, _ => true
  | j, n + 1, x, y => x.i j == y.i j && sameD (j + 1) n x y
/-- Are lists of rows the same, in their first n fields? -/
def sameR (n : Nat) : List Dat → List Dat → Bool
  | [], [] => true
  | x :: a, y :: b => sameD 0 n x y && sameR n a b
  | _, _ => false
def sameI : List Int → List Int → Bool
  | [], [] => true
  | x :: a, y :: b => x == y && sameI a b
  | _, _ => false
theorem sameD_refl (x : Dat) : ∀ (n j : Nat), sameD j n x x = true
  | 0, j => rfl
  | n + 1, j => by simp [sameD, sameD_refl x n]
theorem sameR_refl (n : Nat) : ∀ (l : List Dat), sameR n l l = true
  | [] => rfl
  | x :: l => by simp [sameR, sameD_refl, sameR_refl n l]
theorem sameI_refl : ∀ (l : List Int), sameI l l = true
  | [] => rfl
  | x :: l => by simp [sameI, sameI_refl l]
theorem sameR_len (n : Nat) : ∀ (a b : List Dat), a.length ≠ b.length → sameR n a b = false
  | [], [], h => absurd rfl h
  | [], _ :: _, _ => rfl
  | _ :: _, [], _ => rfl
  | x :: a, y :: b, h => by simp [sameR, sameR_len n a b (by simpa using h)]
theorem sameI_len : ∀ (a b : List Int), a.length ≠ b.length → sameI a b = false
  | [], [], h => absurd rfl h
  | [], _ :: _, _ => rfl
  | _ :: _, [], _ => rfl
  | x :: a, y :: b, h => by simp [sameI, sameI_len a b (by simpa using h)]
/-! cascade/cascadebook.Same[cascade/flow.Claim] -/
noncomputable def N14 : RoadF := ⟨T11.tab, 14, ⟨[.recs [.int .i64, .int .i64, .int .i64], .recs [.int .i64, .int .i64, .int .i64]], []⟩, ⟨[.bool], []⟩, []⟩
abbrev A14_0 : Type := List Dat × List Dat × Int
noncomputable def L14_0s (m : Nat) (k : A14_0 → Option (List Un)) : A14_0 → Option (List Un) := fun (a0, a1, a2) =>
  bif (decide (a2 < (a0.length : Int))) then
   chk (inb a2 a0.length) <|
   chk (decide (a2.toNat < a0.length)) <|
   lt (rowD a0 a2.toNat : Dat) fun d3 =>
   chk (inb a2 a1.length) <|
   chk (decide (a2.toNat < a1.length)) <|
   lt (rowD a1 a2.toNat : Dat) fun d4 =>
   bif (!(((d3.i 0) == (d4.i 0)) && (((d3.i 1) == (d4.i 1)) && (((d3.i 2) == (d4.i 2)) && true)))) then
    some ([.b false])
   else
    k (a0, a1, (w64 (a2 + 1)))
  else
   some ([.b true])
noncomputable def L14_0 (m : Nat) : Nat → A14_0 → Option (List Un) := iterA (L14_0s m)
theorem L14_0_succ (m : Nat) (n : Nat) : L14_0 m (n + 1) = L14_0s m (L14_0 m n) := rfl
noncomputable def S14_0 (F : A14_0 → Option (List Un)) : StopS := ⟨[.lp [0, 1, 0, 1, 1], .blk 0, .code [1, 1, 1]], ⟨frm 26 [(0, .recs [.int .i64, .int .i64, .int .i64]), (1, .recs [.int .i64, .int .i64, .int .i64]), (5, .int .i64)], []⟩, onU F⟩
theorem H14_0 (m : Nat) : ∀ n, HO N14 (S14_0 (L14_0 m n)) := loop_holds KN_none T11.right (fun k => [S14_0 k]) (fun k h => (all1 h all0)) fun k a => by kernel_rfl
noncomputable def t14 (m : Nat) : List Dat × List Dat → Option (List Un) := fun (a0, a1) =>
  bif ((a0.length : Int) != (a1.length : Int)) then
   some ([.b false])
  else
   L14_0 m m (a0, a1, 0)
theorem sameL14 (m : Nat) : ∀ (rest rest' pre pre' : List Dat) (n : Nat), rest.length < n → pre'.length = pre.length → rest'.length = rest.length → (pre ++ rest).length < 1099511627776 →
    L14_0 m n (pre ++ rest, pre' ++ rest', (pre.length : Int)) = some [.b (sameR 3 rest rest')] := by
  intro rest
  induction rest with
  | nil =>
    intro rest' pre pre' n hn hp hr hl
    obtain ⟨n, rfl⟩ := one_more n (by simp at hn; omega)
    obtain rfl : rest' = [] := List.eq_nil_of_length_eq_zero (by simpa using hr)
    rw [L14_0_succ]; unfold L14_0s; dsimp only
    simp [cond_df, sameR]
  | cons x rest ih =>
    intro rest' pre pre' n hn hp hr hl
    obtain ⟨n, rfl⟩ := one_more n (by simp at hn; omega)
    obtain ⟨y, rest', rfl⟩ : ∃ y l, rest' = y :: l := by cases rest' with | nil => simp at hr | cons y l => exact ⟨y, l, rfl⟩
    simp only [List.length_cons, List.length_append] at hn hl hr
    have := ih rest' (pre ++ [x]) (pre' ++ [y]) n (by omega) (by simp [hp]) (by omega) (by simp; omega)
    rw [L14_0_succ]; unfold L14_0s; dsimp only
    simp only [sameR, sameD, Nat.reduceAdd]
    simp (disch := omega) only [lt_eq, chk_dec, chk_tt, chk_and, chk_inb, chk_fits, chk_make, chkn_dec, cond_dt, cond_df, cond_bt, cond_bf, cond_nt, cond_nf, cond_not, cond_and, cond_or, cond_tt, cond_ff, wrap_id, min_if', max_if', List.length_append, List.length_cons, List.length_nil, List.length_replicate, List.length_set, List.length_map, List.length_range, Int.natCast_add, Int.cast_ofNat_Int, Int.toNat_natCast, Int.add_assoc, Nat.zero_add, Int.zero_add, List.append_assoc, List.cons_append, List.nil_append, rowD_mid, rowD_mid2 _ _ _ _ hp]
    simp only [List.length_append, List.length_cons, List.length_nil, List.length_replicate, List.length_set, List.length_map, List.length_range, Int.natCast_add, Int.cast_ofNat_Int, Int.toNat_natCast, Int.add_assoc, Nat.zero_add, Int.zero_add, List.append_assoc, List.cons_append, List.nil_append] at this ⊢
    (try simp only [bne, cond_not])
    cases (x.i 0 == y.i 0) <;> cases (x.i 1 == y.i 1) <;> cases (x.i 2 == y.i 2)
    all_goals (first | exact this | rfl)
noncomputable def f14 : List Dat × List Dat → Bool × List Un := fun (a0, a1) => (decide (a0.length < 1099511627776), [.b (sameR 3 a0 a1)])
theorem spec14 (a0 : List Dat) (a1 : List Dat) (hc : (decide (a0.length < 1099511627776)) = true) : ∃ m, t14 m (a0, a1) = some ([.b (sameR 3 a0 a1)]) := by
  have hs := of_decide_eq_true hc
  refine ⟨a0.length + 1, ?_⟩
  unfold t14
  dsimp only
  by_cases h : a0.length = a1.length
  · rw [cond_nf (by omega)]
    exact sameL14 _ a0 a1 [] [] _ (by omega) rfl h.symm (by simpa using hs)
  · rw [cond_nt (by omega), sameR_len _ _ _ h]
theorem right14 : ER 14 (mkE N14.en N14.ex f14) := right_of KN_none T11.right (fun m => [S14_0 (L14_0 m m)]) (t := t14) (by kernel_rfl) (fun m => (all1 (H14_0 m m) all0)) (fun m a => by kernel_rfl) fun (a0, a1) hc => spec14 a0 a1 hc
noncomputable def T14 : Tb Try.prog LQ TE := T11.add 14 _ right14
/-! cascade/cascadebook.Same[cascade/flow.Pay] -/
noncomputable def N12 : RoadF := ⟨T14.tab, 12, ⟨[.recs [.int .i64, .int .i64, .int .i64, .int .i64], .recs [.int .i64, .int .i64, .int .i64, .int .i64]], []⟩, ⟨[.bool], []⟩, []⟩
abbrev A12_0 : Type := List Dat × List Dat × Int
noncomputable def L12_0s (m : Nat) (k : A12_0 → Option (List Un)) : A12_0 → Option (List Un) := fun (a0, a1, a2) =>
  bif (decide (a2 < (a0.length : Int))) then
   chk (inb a2 a0.length) <|
   chk (decide (a2.toNat < a0.length)) <|
   lt (rowD a0 a2.toNat : Dat) fun d3 =>
   chk (inb a2 a1.length) <|
   chk (decide (a2.toNat < a1.length)) <|
   lt (rowD a1 a2.toNat : Dat) fun d4 =>
   bif (!(((d3.i 0) == (d4.i 0)) && (((d3.i 1) == (d4.i 1)) && (((d3.i 2) == (d4.i 2)) && (((d3.i 3) == (d4.i 3)) && true))))) then
    some ([.b false])
   else
    k (a0, a1, (w64 (a2 + 1)))
  else
   some ([.b true])
noncomputable def L12_0 (m : Nat) : Nat → A12_0 → Option (List Un) := iterA (L12_0s m)
theorem L12_0_succ (m : Nat) (n : Nat) : L12_0 m (n + 1) = L12_0s m (L12_0 m n) := rfl
noncomputable def S12_0 (F : A12_0 → Option (List Un)) : StopS := ⟨[.lp [0, 1, 0, 1, 1], .blk 0, .code [1, 1, 1]], ⟨frm 26 [(0, .recs [.int .i64, .int .i64, .int .i64, .int .i64]), (1, .recs [.int .i64, .int .i64, .int .i64, .int .i64]), (5, .int .i64)], []⟩, onU F⟩
theorem H12_0 (m : Nat) : ∀ n, HO N12 (S12_0 (L12_0 m n)) := loop_holds KN_none T14.right (fun k => [S12_0 k]) (fun k h => (all1 h all0)) fun k a => by kernel_rfl
noncomputable def t12 (m : Nat) : List Dat × List Dat → Option (List Un) := fun (a0, a1) =>
  bif ((a0.length : Int) != (a1.length : Int)) then
   some ([.b false])
  else
   L12_0 m m (a0, a1, 0)
theorem sameL12 (m : Nat) : ∀ (rest rest' pre pre' : List Dat) (n : Nat), rest.length < n → pre'.length = pre.length → rest'.length = rest.length → (pre ++ rest).length < 1099511627776 →
    L12_0 m n (pre ++ rest, pre' ++ rest', (pre.length : Int)) = some [.b (sameR 4 rest rest')] := by
  intro rest
  induction rest with
  | nil =>
    intro rest' pre pre' n hn hp hr hl
    obtain ⟨n, rfl⟩ := one_more n (by simp at hn; omega)
    obtain rfl : rest' = [] := List.eq_nil_of_length_eq_zero (by simpa using hr)
    rw [L12_0_succ]; unfold L12_0s; dsimp only
    simp [cond_df, sameR]
  | cons x rest ih =>
    intro rest' pre pre' n hn hp hr hl
    obtain ⟨n, rfl⟩ := one_more n (by simp at hn; omega)
    obtain ⟨y, rest', rfl⟩ : ∃ y l, rest' = y :: l := by cases rest' with | nil => simp at hr | cons y l => exact ⟨y, l, rfl⟩
    simp only [List.length_cons, List.length_append] at hn hl hr
    have := ih rest' (pre ++ [x]) (pre' ++ [y]) n (by omega) (by simp [hp]) (by omega) (by simp; omega)
    rw [L12_0_succ]; unfold L12_0s; dsimp only
    simp only [sameR, sameD, Nat.reduceAdd]
    simp (disch := omega) only [lt_eq, chk_dec, chk_tt, chk_and, chk_inb, chk_fits, chk_make, chkn_dec, cond_dt, cond_df, cond_bt, cond_bf, cond_nt, cond_nf, cond_not, cond_and, cond_or, cond_tt, cond_ff, wrap_id, min_if', max_if', List.length_append, List.length_cons, List.length_nil, List.length_replicate, List.length_set, List.length_map, List.length_range, Int.natCast_add, Int.cast_ofNat_Int, Int.toNat_natCast, Int.add_assoc, Nat.zero_add, Int.zero_add, List.append_assoc, List.cons_append, List.nil_append, rowD_mid, rowD_mid2 _ _ _ _ hp]
    simp only [List.length_append, List.length_cons, List.length_nil, List.length_replicate, List.length_set, List.length_map, List.length_range, Int.natCast_add, Int.cast_ofNat_Int, Int.toNat_natCast, Int.add_assoc, Nat.zero_add, Int.zero_add, List.append_assoc, List.cons_append, List.nil_append] at this ⊢
    (try simp only [bne, cond_not])
    cases (x.i 0 == y.i 0) <;> cases (x.i 1 == y.i 1) <;> cases (x.i 2 == y.i 2) <;> cases (x.i 3 == y.i 3)
    all_goals (first | exact this | rfl)
noncomputable def f12 : List Dat × List Dat → Bool × List Un := fun (a0, a1) => (decide (a0.length < 1099511627776), [.b (sameR 4 a0 a1)])
theorem spec12 (a0 : List Dat) (a1 : List Dat) (hc : (decide (a0.length < 1099511627776)) = true) : ∃ m, t12 m (a0, a1) = some ([.b (sameR 4 a0 a1)]) := by
  have hs := of_decide_eq_true hc
  refine ⟨a0.length + 1, ?_⟩
  unfold t12
  dsimp only
  by_cases h : a0.length = a1.length
  · rw [cond_nf (by omega)]
    exact sameL12 _ a0 a1 [] [] _ (by omega) rfl h.symm (by simpa using hs)
  · rw [cond_nt (by omega), sameR_len _ _ _ h]
theorem right12 : ER 12 (mkE N12.en N12.ex f12) := right_of KN_none T14.right (fun m => [S12_0 (L12_0 m m)]) (t := t12) (by kernel_rfl) (fun m => (all1 (H12_0 m m) all0)) (fun m a => by kernel_rfl) fun (a0, a1) hc => spec12 a0 a1 hc
noncomputable def T12 : Tb Try.prog LQ TE := T14.add 12 _ right12

end Go.Proofs.Ytncgbpajngakpaa
