/- A part of the walk. -/
import Derived.Test.YtncgbpajngakpaaFlow
namespace Go.Proofs.Ytncgbpajngakpaa
open Go Go.Proofs.Ytncgbpajngakpaa.Ev
set_option linter.unusedVariables false
set_option linter.unusedSimpArgs false
set_option linter.unnecessarySimpa false

/-! cascade/cascaderef9.pay -/
noncomputable def N26 : RoadF := ⟨T10.tab, 26, ⟨[.buf 0 4, .int .i64, .agg [.int .i64, .int .i64], .int .i64, .int .i64], [.recs [.int .i64, .int .i64, .int .i64, .int .i64]]⟩, ⟨[.buf 1 4], [.gone, .recs [.int .i64, .int .i64, .int .i64, .int .i64]]⟩, []⟩
noncomputable def t26 (m : Nat) : Int × Int × Int × Int × Int × List Dat → Option (List Un) := fun (a0, a1, a2, a3, a4, a5) =>
  bif decide (a4 ≤ 0) then
   some ([.d a5])
  else
   chk (fits (a5.length + 1) 32) <|
   some ([.d (a5 ++ ([.r [.n a0, .n a1, .n a3, .n a4]]))])
noncomputable def f26 : Int × Int × Int × Int × Int × List Dat → Bool × List Un := fun (a0, a1, a2, a3, a4, a5) => (decide (a5.length ≤ 68719476736), [.d ((if 0 < a4 then a5 ++ [.r [.n a0, .n a1, .n a3, .n a4]] else a5))])
theorem spec26 (a0 : Int) (a1 : Int) (a2 : Int) (a3 : Int) (a4 : Int) (a5 : List Dat) (hc : (decide (a5.length ≤ 68719476736)) = true) : ∃ m, t26 m (a0, a1, a2, a3, a4, a5) = some ([.d ((if 0 < a4 then a5 ++ [.r [.n a0, .n a1, .n a3, .n a4]] else a5))]) := by
  have h := of_decide_eq_true hc
  refine ⟨0, ?_⟩
  unfold t26
  by_cases h0 : 0 < a4
  · rw [if_pos h0]
    simp (disch := omega) only [lt_eq, chk_dec, chk_tt, chk_and, chk_inb, chk_fits, chk_make, chkn_dec, cond_dt, cond_df, cond_bt, cond_bf, cond_nt, cond_nf, cond_not, cond_and, cond_or, cond_tt, cond_ff, wrap_id, min_if', max_if']
  · rw [if_neg h0]
    simp (disch := omega) only [lt_eq, chk_dec, chk_tt, chk_and, chk_inb, chk_fits, chk_make, chkn_dec, cond_dt, cond_df, cond_bt, cond_bf, cond_nt, cond_nf, cond_not, cond_and, cond_or, cond_tt, cond_ff, wrap_id, min_if', max_if']
theorem right26 : ER 26 (mkE N26.en N26.ex f26) := right_of KN_none T10.right (fun m => []) (t := t26) (by kernel_rfl) (fun m => all0) (fun m a => by kernel_rfl) fun (a0, a1, a2, a3, a4, a5) hc => spec26 a0 a1 a2 a3 a4 a5 hc
noncomputable def T26 : Tb Try.prog LQ TE := T10.add 26 _ right26
theorem one_add (z : Int) : 1 + z = z + 1 := Int.add_comm 1 z
theorem rowD_mid3 (pre done : List Dat) (x : Dat) (rest : List Dat) : rowD (pre ++ (done ++ x :: rest)) (pre.length + done.length) = x := by
  rw [← List.append_assoc, ← List.length_append]; exact rowD_mid _ _ _
theorem sumI_nonneg (j : Nat) : ∀ l : List Dat, (∀ d ∈ l, 0 ≤ d.i j) → 0 ≤ sumI j l
  | [], _ => by simp [sumI]
  | d :: l, h => by
    have := h d (by simp)
    have := sumI_nonneg j l fun x hx => h x (by simp [hx])
    simp only [sumI]; omega
theorem sumI_app (j : Nat) : ∀ a b : List Dat, sumI j (a ++ b) = sumI j a + sumI j b
  | [], b => by simp [sumI]
  | d :: a, b => by simp only [List.cons_append, sumI, sumI_app j a b]; omega
theorem payAll_sum (a k : Int) : ∀ (xs : List Int) (i : Int), (∀ x ∈ xs, 0 ≤ x) → sumI 3 (payAll a k i xs) = xs.sum
  | [], i, _ => rfl
  | x :: xs, i, h => by
    have := payAll_sum a k xs (i + 1) fun y hy => h y (by simp [hy])
    have h0 := h x (by simp)
    simp only [payAll, sumI_app, List.sum_cons, this]
    by_cases hx : 0 < x
    · rw [if_pos hx]; simp [sumI, fld_i3]
    · rw [if_neg hx]; simp only [sumI]; omega
theorem payAll_mem (a k : Int) : ∀ (xs : List Int) (i : Int), ∀ d ∈ payAll a k i xs, 0 ≤ d.i 3
  | [], i, d, h => by simp [payAll] at h
  | x :: xs, i, d, h => by
    simp only [payAll, List.mem_append] at h
    rcases h with h | h
    · by_cases hx : 0 < x
      · rw [if_pos hx] at h
        rw [List.mem_singleton.1 h, fld_i3]; omega
      · rw [if_neg hx] at h; cases h
    · exact payAll_mem a k xs (i + 1) d h
theorem payOne_sum (a k n : Int) (h : 0 ≤ n) : sumI 3 (payOne a k n) = n ∧ ∀ d ∈ payOne a k n, 0 ≤ d.i 3 := by
  unfold payOne
  by_cases hx : 0 < n
  · rw [if_pos hx]
    exact ⟨by simp [sumI, fld_i3], fun d hd => by rw [List.mem_singleton.1 hd, fld_i3]; omega⟩
  · rw [if_neg hx]
    exact ⟨by simp only [sumI]; omega, fun d hd => by cases hd⟩
theorem rankV_sum (a kd : Int) : ∀ (k : Nat) (r n : Int) (c : List Dat), claimsG c = true → sumI 3 (rankV a kd k r n c).2.1 = (rankV a kd k r n c).2.2 ∧ ∀ d ∈ (rankV a kd k r n c).2.1, 0 ≤ d.i 3
  | 0, r, n, c, h => ⟨rfl, fun d hd => by simp [rankV] at hd⟩
  | k + 1, r, n, c, h => by
    obtain ⟨g1, g2⟩ := give_ok (rankS r) (j := 1) (.inl rfl) n h
    obtain ⟨l1, l2, l3⟩ := sharesV_ok (rankS r) (j := 1) (.inl rfl) n h
    obtain ⟨i1, i2⟩ := rankV_sum a kd k (r + 1) (n - (sharesV (rankS r) 1 n c).sum) _ g1
    have hx : ∀ x ∈ sharesV (rankS r) 1 n c, 0 ≤ x := fun x hx => by
      obtain ⟨i, hi, rfl⟩ := mem_getD hx
      rw [l1] at hi
      exact (l3 i hi).1
    simp only [rankV]
    refine ⟨by rw [sumI_app, payAll_sum a kd _ 0 hx, i1], fun d hd => ?_⟩
    rcases List.mem_append.1 hd with hd | hd
    · exact payAll_mem a kd _ 0 d hd
    · exact i2 d hd
theorem shares_mem {c : List Dat} (sel : Dat → Bool) {j : Nat} (hj : j = 1 ∨ j = 2) (n : Int) (h : claimsG c = true) : ∀ x ∈ sharesV sel j n c, 0 ≤ x := fun x hx => by
  obtain ⟨l1, l2, l3⟩ := sharesV_ok sel hj n h
  obtain ⟨i, hi, rfl⟩ := mem_getD hx
  rw [l1] at hi
  exact (l3 i hi).1
/-- Shares that claims may be given: each no more than there is. -/
def fitG (j : Nat) : List Int → List Dat → Prop
  | x :: xs, d :: c => (0 ≤ x ∧ x ≤ d.i j) ∧ claimG d = true ∧ fitG j xs c
  | [], [] => True
  | _, _ => False
theorem fitG_of (j : Nat) : ∀ (xs : List Int) (c : List Dat), xs.length = c.length → (∀ d ∈ c, claimG d = true) → (∀ i, i < c.length → 0 ≤ xs.getD i 0 ∧ xs.getD i 0 ≤ (rowD c i).i j) → fitG j xs c
  | [], [], _, _, _ => trivial
  | x :: xs, d :: c, h, h2, h3 => ⟨h3 0 (by simp), h2 d (by simp), fitG_of j xs c (by simpa using h) (fun y hy => h2 y (by simp [hy])) (fun i hi => h3 (i + 1) (by simpa using hi))⟩
  | [], _ :: _, h, _, _ => by simp at h
  | _ :: _, [], h, _, _ => by simp at h
theorem fitG_shares {c : List Dat} (sel : Dat → Bool) {j : Nat} (hj : j = 1 ∨ j = 2) (n : Int) (h : claimsG c = true) : fitG j (sharesV sel j n c) c := by
  obtain ⟨l1, l2, l3⟩ := sharesV_ok sel hj n h
  obtain ⟨h1, h2⟩ := claimsG_at h
  refine fitG_of j _ _ l1 h2 fun i hi => ⟨(l3 i hi).1, ?_⟩
  have := (l3 i hi).2
  have hg := claimG_at (h2 _ (rowD_in hi))
  cases hs : sel (rowD c i) <;> rw [hs] at this
  · rcases hj with rfl | rfl <;> simp only [cond_false] at this <;> omega
  · exact this
/-FLOWREF-/
/-! cascade/cascaderef9.Run -/
noncomputable def N18 : RoadF := ⟨T26.tab, 18, ⟨[.int .i64, .recs [.int .i64, .int .i64], .agg [.int .i64, .int .i64, .int .i64, .int .i64, .recs [.int .i64, .int .i64, .int .i64]]], []⟩, ⟨[.buf 0 4, .int .i64, .agg [.int .i64, .int .i64, .int .i64, .int .i64, .buf 1 3]], [.recs [.int .i64, .int .i64, .int .i64, .int .i64], .recs [.int .i64, .int .i64, .int .i64]]⟩, []⟩
abbrev A18_8 : Type := Int × List Dat × Int × Int × Int × Int × Int × Int × Int × Int × Int × Int × Int × Int × Int × Int × List Dat × List Dat × List Dat
abbrev A18_7 : Type := Int × Int × Int × Int × List Dat × Int × Int × Int × Int × Int × Int × Int × Int × Int × Int × Int × Int × Int × List Dat × Int × Int × List Int × List Dat × List Dat
abbrev A18_6 : Type := Int × Int × Int × Int × Int × List Dat × Int × Int × Int × Int × Int × Int × Int × Int × Int × Int × Int × Int × Int × List Dat × Int × Int × List Int × List Dat × List Dat
abbrev A18_5 : Type := Int × Int × Int × Int × List Dat × Int × Int × Int × Int × Int × Int × Int × Int × Int × Int × Int × List Dat × Int × Int × List Dat × List Dat
abbrev A18_4 : Type := Int × Int × Int × List Dat × Int × Int × Int × Int × Int × Int × Int × Int × Int × Int × Int × Int × List Dat × Int × Int × List Int × List Dat × List Dat
abbrev A18_3 : Type := Int × Int × Int × List Dat × Int × Int × Int × Int × Int × Int × Int × Int × Int × Int × Int × Int × List Dat × Int × Int × List Int × List Dat × List Dat
abbrev A18_2 : Type := Int × Int × Int × List Dat × Int × Int × Int × Int × Int × Int × Int × Int × Int × Int × Int × Int × List Dat × Int × Int × List Int × List Dat × List Dat
abbrev A18_1 : Type := Int × Int × Int × List Dat × Int × Int × Int × Int × Int × Int × Int × Int × Int × Int × Int × Int × List Dat × Int × Int × List Int × List Dat × List Dat
abbrev A18_0 : Type := Int × List Dat × Int × Int × Int × Int × Int × Int × Int × Int × Int × Int × List Dat × List Dat × List Dat
noncomputable def L18_8s (m : Nat) (k0 : A18_0 → Option (List Un)) (k : A18_8 → Option (List Un)) : A18_8 → Option (List Un) := fun (a0, a1, a2, a3, a4, a5, a6, a7, a8, a9, a10, a11, a12, a13, a14, a15, a16, a17, a18) =>
  bif decide (a7 < a6) then
   chk (inb a7 a5.toNat) <|
   chk (decide ((a4.toNat + a7.toNat) < a16.length)) <|
   k ((w64 (a0 - ((rowD a16 (a4.toNat + a7.toNat)).i 3))), a1, a2, a3, (a4.toNat : Int), (a5.toNat : Int), a6, (w64 (a7 + 1)), a8, a9, a10, a11, a12, a13, a14, a15, a16, a17, a18)
  else
   k0 (a0, a1, a2, (w64 (a3 + 1)), a8, a9, a10, a11, a12, a13, a14, a15, a16, a17, a18)
noncomputable def L18_8 (m : Nat) (k0 : A18_0 → Option (List Un)) : Nat → A18_8 → Option (List Un) := iterA (L18_8s m k0)
theorem L18_8_succ (m : Nat) (k0 : A18_0 → Option (List Un)) (n : Nat) : L18_8 m k0 (n + 1) = L18_8s m k0 (L18_8 m k0 n) := rfl
noncomputable def S18_8 (F : A18_8 → Option (List Un)) : StopS := ⟨[.lp [0, 1, 1, 1, 1, 0, 0, 1, 1, 0, 0, 1, 0, 1, 1, 1], .blk 17, .blk 1, .code [1, 1, 1, 0, 0, 1, 0, 1, 1, 1], .lp [0, 1, 0, 1, 1, 1], .blk 0, .code [1, 1, 1, 1]], ⟨frm 293 [(0, .int .i64), (5, .ptr 0 0 0), (8, .ptr 1 0 0), (9, .buf 2 4), (42, .recs [.int .i64, .int .i64]), (43, .int .i64), (44, .int .i64), (278, .sl 2 4), (279, .int .i64), (280, .int .i64)], [.cells [.int .i64, .int .i64, .int .i64, .int .i64, .buf 3 3], .cells [.int .i64, .int .i64, .int .i64, .int .i64, .buf 4 3], .recs [.int .i64, .int .i64, .int .i64, .int .i64], .recs [.int .i64, .int .i64, .int .i64], .recs [.int .i64, .int .i64, .int .i64]]⟩, onU F⟩
noncomputable def L18_7s (m : Nat) (k0 : A18_0 → Option (List Un)) (k5 : A18_5 → Option (List Un)) (k : A18_7 → Option (List Un)) : A18_7 → Option (List Un) := fun (a0, a1, a2, a3, a4, a5, a6, a7, a8, a9, a10, a11, a12, a13, a14, a15, a16, a17, a18, a19, a20, a21, a22, a23) =>
  bif decide (a9 < a8) then
   chk (inb a9 a21.length) <|
   chk (decide (a9.toNat < a21.length)) <|
   chk (inb a9 a22.length) <|
   chk (decide (a9.toNat < a22.length)) <|
   chk (inb a9 a22.length) <|
   chk (decide (a9.toNat < a22.length)) <|
   lt (rowD a22 a9.toNat : Dat) fun d28 =>
   lt ((List.set a22 a9.toNat (.r [.n (d28.i 0), .n (w64 (((rowD a22 a9.toNat).i 1) - (a21.getD a9.toNat 0))), .n (d28.i 2)])) : List Dat) fun l29 =>
   lt ((w64 (a3 - (a21.getD a9.toNat 0))) : Int) fun x30 =>
   bif a19 == 4 then
    chk (decide (a18.length ≤ 68719476736)) <|
    k (a0, a1, a2, x30, a4, a5, a6, a7, a8, (w64 (a9 + 1)), a10, a11, (w64 (a12 - (a21.getD a9.toNat 0))), a13, a14, a15, a16, a17, (if 0 < (a21.getD a9.toNat 0) then a18 ++ [.r [.n a1, .n a19, .n a9, .n (a21.getD a9.toNat 0)]] else a18), a19, a20, a21, l29, a23)
   else
    chk (decide (a18.length ≤ 68719476736)) <|
    k (a0, a1, a2, x30, a4, a5, a6, a7, a8, (w64 (a9 + 1)), a10, a11, a12, a13, a14, a15, a16, a17, (if 0 < (a21.getD a9.toNat 0) then a18 ++ [.r [.n a1, .n a19, .n a9, .n (a21.getD a9.toNat 0)]] else a18), a19, a20, a21, l29, a23)
  else
   k5 (a0, a1, a2, a3, a4, a5, a6, (w64 (a7 + 1)), a10, a11, a12, a13, a14, a15, a16, a17, a18, a19, a20, a22, a23)
noncomputable def L18_7 (m : Nat) (k0 : A18_0 → Option (List Un)) (k5 : A18_5 → Option (List Un)) : Nat → A18_7 → Option (List Un) := iterA (L18_7s m k0 k5)
theorem L18_7_succ (m : Nat) (k0 : A18_0 → Option (List Un)) (k5 : A18_5 → Option (List Un)) (n : Nat) : L18_7 m k0 k5 (n + 1) = L18_7s m k0 k5 (L18_7 m k0 k5 n) := rfl
noncomputable def S18_7 (F : A18_7 → Option (List Un)) : StopS := ⟨[.lp [0, 1, 1, 1, 1, 0, 0, 1, 1, 0, 0, 1, 1, 1, 0, 1, 1, 1, 1, 1, 1, 1, 1, 1, 1, 1, 0, 1, 0, 1, 1, 0, 0, 1, 1, 0, 0, 1, 0, 1, 1, 1], .blk 15, .blk 12, .code [1, 1, 1, 0, 0, 1, 1, 1, 0, 1, 1, 1, 1, 1, 1, 1, 1, 1, 1, 1, 0, 1, 0, 1, 1, 0, 0, 1, 1, 0, 0, 1, 0, 1, 1, 1], .lp [0, 1, 1, 1, 0, 1, 1, 1, 1, 1, 1, 1, 1, 1, 1, 1, 0, 1, 0, 1, 1, 0, 0, 1, 1, 0, 0, 1, 0, 1, 1, 1], .blk 11, .blk 2, .code [1, 1, 1, 0, 0, 1, 1, 0, 0, 1, 0, 1, 1, 1], .blk 1, .code [1, 1, 1, 0, 0, 1, 0, 1, 1, 1], .lp [0, 1, 0, 1, 1, 1], .blk 0, .code [1, 1, 1, 1]], ⟨frm 293 [(0, .int .i64), (5, .ptr 0 0 0), (8, .ptr 1 0 0), (9, .buf 2 4), (10, .int .i64), (11, .ptr 3 0 0), (12, .int .i64), (27, .int .i64), (42, .recs [.int .i64, .int .i64]), (43, .int .i64), (44, .int .i64), (214, .int .i64), (237, .buf 4 1), (238, .int .i64), (239, .int .i64)], [.cells [.int .i64, .int .i64, .int .i64, .int .i64, .buf 5 3], .cells [.int .i64, .int .i64, .int .i64, .int .i64, .buf 6 3], .recs [.int .i64, .int .i64, .int .i64, .int .i64], .cells [.int .i64, .int .i64], .ints .i64, .recs [.int .i64, .int .i64, .int .i64], .recs [.int .i64, .int .i64, .int .i64]]⟩, onU F⟩
noncomputable def L18_6s (m : Nat) (k0 : A18_0 → Option (List Un)) (k5 : A18_5 → Option (List Un)) (k : A18_6 → Option (List Un)) : A18_6 → Option (List Un) := fun (a0, a1, a2, a3, a4, a5, a6, a7, a8, a9, a10, a11, a12, a13, a14, a15, a16, a17, a18, a19, a20, a21, a22, a23, a24) =>
  bif decide (a10 < a9) then
   chk (inb a10 a23.length) <|
   chk (decide (a10.toNat < a23.length)) <|
   lt (rowD a23 a10.toNat : Dat) fun d25 =>
   bif (d25.i 0) == a4 then
    chk (fits (a22.length + 1) 8) <|
    k (a0, a1, a2, a3, a4, a5, a6, a7, a8, a9, (w64 (a10 + 1)), a11, a12, a13, a14, a15, a16, a17, a18, a19, a20, a21, (a22 ++ ([(d25.i 1)])), a23, a24)
   else
    chk (fits (a22.length + 1) 8) <|
    k (a0, a1, a2, a3, a4, a5, a6, a7, a8, a9, (w64 (a10 + 1)), a11, a12, a13, a14, a15, a16, a17, a18, a19, a20, a21, (a22 ++ ([0])), a23, a24)
  else
   chk (decide (a3 ≤ 9223372036854775807 ∧ a22.length < 1099511627776)) <|
   L18_7 m k0 k5 m (a0, a1, a2, a3, a5, a6, a7, a8, ((proV a3 a22).length : Int), 0, a11, a12, a13, a14, a15, a16, a17, a18, a19, a20, a21, (proV a3 a22), a23, a24)
noncomputable def L18_6 (m : Nat) (k0 : A18_0 → Option (List Un)) (k5 : A18_5 → Option (List Un)) : Nat → A18_6 → Option (List Un) := iterA (L18_6s m k0 k5)
theorem L18_6_succ (m : Nat) (k0 : A18_0 → Option (List Un)) (k5 : A18_5 → Option (List Un)) (n : Nat) : L18_6 m k0 k5 (n + 1) = L18_6s m k0 k5 (L18_6 m k0 k5 n) := rfl
noncomputable def S18_6 (F : A18_6 → Option (List Un)) : StopS := ⟨[.lp [0, 1, 0, 1, 1, 0, 0, 1, 1, 0, 0, 1, 1, 1, 0, 1, 1, 1, 1, 1, 1, 1, 1, 1, 1, 1, 0, 1, 0, 1, 1, 0, 0, 1, 1, 0, 0, 1, 0, 1, 1, 1], .blk 13, .code [1, 1, 1, 0, 0, 1, 1, 0, 0, 1, 1, 1, 0, 1, 1, 1, 1, 1, 1, 1, 1, 1, 1, 1, 0, 1, 0, 1, 1, 0, 0, 1, 1, 0, 0, 1, 0, 1, 1, 1], .blk 12, .code [1, 1, 1, 0, 0, 1, 1, 1, 0, 1, 1, 1, 1, 1, 1, 1, 1, 1, 1, 1, 0, 1, 0, 1, 1, 0, 0, 1, 1, 0, 0, 1, 0, 1, 1, 1], .lp [0, 1, 1, 1, 0, 1, 1, 1, 1, 1, 1, 1, 1, 1, 1, 1, 0, 1, 0, 1, 1, 0, 0, 1, 1, 0, 0, 1, 0, 1, 1, 1], .blk 11, .blk 2, .code [1, 1, 1, 0, 0, 1, 1, 0, 0, 1, 0, 1, 1, 1], .blk 1, .code [1, 1, 1, 0, 0, 1, 0, 1, 1, 1], .lp [0, 1, 0, 1, 1, 1], .blk 0, .code [1, 1, 1, 1]], ⟨frm 293 [(0, .int .i64), (5, .ptr 0 0 0), (8, .ptr 1 0 0), (9, .buf 2 4), (10, .int .i64), (11, .ptr 3 0 0), (12, .int .i64), (27, .int .i64), (28, .int .i64), (29, .buf 4 1), (42, .recs [.int .i64, .int .i64]), (43, .int .i64), (44, .int .i64), (214, .int .i64), (218, .buf 5 3), (219, .int .i64), (220, .int .i64)], [.cells [.int .i64, .int .i64, .int .i64, .int .i64, .buf 5 3], .cells [.int .i64, .int .i64, .int .i64, .int .i64, .buf 6 3], .recs [.int .i64, .int .i64, .int .i64, .int .i64], .cells [.int .i64, .int .i64], .ints .i64, .recs [.int .i64, .int .i64, .int .i64], .recs [.int .i64, .int .i64, .int .i64]]⟩, onU F⟩
noncomputable def L18_5s (m : Nat) (k0 : A18_0 → Option (List Un)) (k : A18_5 → Option (List Un)) : A18_5 → Option (List Un) := fun (a0, a1, a2, a3, a4, a5, a6, a7, a8, a9, a10, a11, a12, a13, a14, a15, a16, a17, a18, a19, a20) =>
  bif decide (a7 < 8) then
   L18_6 m k0 k m (a0, a1, a2, a3, a7, a4, a5, a6, a7, (a19.length : Int), 0, a8, a9, a10, a11, a12, a13, a14, a15, a16, a17, a18, [], a19, a20)
  else
   chk (true && (decide (0 ≤ a2) && decide (a2.toNat ≤ a16.length ∧ a16.length ≤ a16.length))) <|
   L18_8 m k0 m (a0, a4, a5, a6, (a2.toNat : Int), (((a16.length - a2.toNat) : Nat) : Int), (((a16.length - a2.toNat) : Nat) : Int), 0, a8, a9, a10, a11, a12, a13, a14, a15, a16, a19, a20)
noncomputable def L18_5 (m : Nat) (k0 : A18_0 → Option (List Un)) : Nat → A18_5 → Option (List Un) := iterA (L18_5s m k0)
theorem L18_5_succ (m : Nat) (k0 : A18_0 → Option (List Un)) (n : Nat) : L18_5 m k0 (n + 1) = L18_5s m k0 (L18_5 m k0 n) := rfl
noncomputable def S18_5 (F : A18_5 → Option (List Un)) : StopS := ⟨[.lp [0, 1, 1, 1, 0, 1, 1, 1, 1, 1, 1, 1, 1, 1, 1, 1, 0, 1, 0, 1, 1, 0, 0, 1, 1, 0, 0, 1, 0, 1, 1, 1], .blk 11, .blk 2, .code [1, 1, 1, 0, 0, 1, 1, 0, 0, 1, 0, 1, 1, 1], .blk 1, .code [1, 1, 1, 0, 0, 1, 0, 1, 1, 1], .lp [0, 1, 0, 1, 1, 1], .blk 0, .code [1, 1, 1, 1]], ⟨frm 293 [(0, .int .i64), (5, .ptr 0 0 0), (8, .ptr 1 0 0), (9, .buf 2 4), (10, .int .i64), (11, .ptr 3 0 0), (12, .int .i64), (27, .int .i64), (42, .recs [.int .i64, .int .i64]), (43, .int .i64), (44, .int .i64), (214, .int .i64)], [.cells [.int .i64, .int .i64, .int .i64, .int .i64, .buf 4 3], .cells [.int .i64, .int .i64, .int .i64, .int .i64, .buf 5 3], .recs [.int .i64, .int .i64, .int .i64, .int .i64], .cells [.int .i64, .int .i64], .recs [.int .i64, .int .i64, .int .i64], .recs [.int .i64, .int .i64, .int .i64]]⟩, onU F⟩
noncomputable def L18_4s (m : Nat) (k0 : A18_0 → Option (List Un)) (k : A18_4 → Option (List Un)) : A18_4 → Option (List Un) := fun (a0, a1, a2, a3, a4, a5, a6, a7, a8, a9, a10, a11, a12, a13, a14, a15, a16, a17, a18, a19, a20, a21) =>
  bif decide (a7 < a6) then
   chk (inb a7 a19.length) <|
   chk (decide (a7.toNat < a19.length)) <|
   chk (inb a7 a20.length) <|
   chk (decide (a7.toNat < a20.length)) <|
   chk (inb a7 a20.length) <|
   chk (decide (a7.toNat < a20.length)) <|
   lt (rowD a20 a7.toNat : Dat) fun d21 =>
   chk (decide (a16.length ≤ 68719476736)) <|
   k (a0, a1, a2, a3, a4, a5, a6, (w64 (a7 + 1)), a8, a9, (w64 (a10 - (a19.getD a7.toNat 0))), a11, a12, a13, a14, a15, (if 0 < (a19.getD a7.toNat 0) then a16 ++ [.r [.n a1, .n a17, .n a7, .n (a19.getD a7.toNat 0)]] else a16), a17, a18, a19, (List.set a20 a7.toNat (.r [.n (d21.i 0), .n (w64 (((rowD a20 a7.toNat).i 1) - (a19.getD a7.toNat 0))), .n (d21.i 2)])), a21)
  else
   chk (true && (decide (0 ≤ a2) && decide (a2.toNat ≤ a16.length ∧ a16.length ≤ a16.length))) <|
   L18_8 m k0 m (a0, a3, a4, a5, (a2.toNat : Int), (((a16.length - a2.toNat) : Nat) : Int), (((a16.length - a2.toNat) : Nat) : Int), 0, a8, a9, a10, a11, a12, a13, a14, a15, a16, a20, a21)
noncomputable def L18_4 (m : Nat) (k0 : A18_0 → Option (List Un)) : Nat → A18_4 → Option (List Un) := iterA (L18_4s m k0)
theorem L18_4_succ (m : Nat) (k0 : A18_0 → Option (List Un)) (n : Nat) : L18_4 m k0 (n + 1) = L18_4s m k0 (L18_4 m k0 n) := rfl
noncomputable def S18_4 (F : A18_4 → Option (List Un)) : StopS := ⟨[.lp [0, 1, 1, 1, 0, 1, 1, 1, 1, 1, 1, 1, 1, 1, 0, 1, 0, 1, 1, 0, 0, 1, 1, 0, 0, 1, 0, 1, 1, 1], .blk 9, .blk 2, .code [1, 1, 1, 0, 0, 1, 1, 0, 0, 1, 0, 1, 1, 1], .blk 1, .code [1, 1, 1, 0, 0, 1, 0, 1, 1, 1], .lp [0, 1, 0, 1, 1, 1], .blk 0, .code [1, 1, 1, 1]], ⟨frm 293 [(0, .int .i64), (5, .ptr 0 0 0), (8, .ptr 1 0 0), (9, .buf 2 4), (10, .int .i64), (11, .ptr 3 0 0), (12, .int .i64), (42, .recs [.int .i64, .int .i64]), (43, .int .i64), (44, .int .i64), (171, .buf 4 1), (172, .int .i64), (173, .int .i64)], [.cells [.int .i64, .int .i64, .int .i64, .int .i64, .buf 5 3], .cells [.int .i64, .int .i64, .int .i64, .int .i64, .buf 6 3], .recs [.int .i64, .int .i64, .int .i64, .int .i64], .cells [.int .i64, .int .i64], .ints .i64, .recs [.int .i64, .int .i64, .int .i64], .recs [.int .i64, .int .i64, .int .i64]]⟩, onU F⟩
noncomputable def L18_3s (m : Nat) (k0 : A18_0 → Option (List Un)) (k : A18_3 → Option (List Un)) : A18_3 → Option (List Un) := fun (a0, a1, a2, a3, a4, a5, a6, a7, a8, a9, a10, a11, a12, a13, a14, a15, a16, a17, a18, a19, a20, a21) =>
  bif decide (a7 < a6) then
   chk (inb a7 a20.length) <|
   chk (decide (a7.toNat < a20.length)) <|
   chk (fits (a19.length + 1) 8) <|
   k (a0, a1, a2, a3, a4, a5, a6, (w64 (a7 + 1)), a8, a9, a10, a11, a12, a13, a14, a15, a16, a17, a18, (a19 ++ ([((rowD a20 a7.toNat).i 1)])), a20, a21)
  else
   lt ((if a10 < a0 then a10 else a0) : Int) fun x13 =>
   chk (decide (x13 ≤ 9223372036854775807 ∧ a19.length < 1099511627776)) <|
   L18_4 m k0 m (a0, a1, a2, a3, a4, a5, ((proV x13 a19).length : Int), 0, a8, a9, a10, a11, a12, a13, a14, a15, a16, a17, a18, (proV x13 a19), a20, a21)
noncomputable def L18_3 (m : Nat) (k0 : A18_0 → Option (List Un)) : Nat → A18_3 → Option (List Un) := iterA (L18_3s m k0)
theorem L18_3_succ (m : Nat) (k0 : A18_0 → Option (List Un)) (n : Nat) : L18_3 m k0 (n + 1) = L18_3s m k0 (L18_3 m k0 n) := rfl
noncomputable def S18_3 (F : A18_3 → Option (List Un)) : StopS := ⟨[.lp [0, 1, 0, 1, 0, 1, 1, 1, 1, 1, 1, 1, 1, 1, 0, 1, 0, 1, 1, 0, 0, 1, 1, 0, 0, 1, 0, 1, 1, 1], .blk 7, .code [1, 1, 0, 1, 1, 1, 1, 1, 1, 1, 1, 1, 0, 1, 0, 1, 1, 0, 0, 1, 1, 0, 0, 1, 0, 1, 1, 1], .blk 2, .code [1, 1, 1, 0, 0, 1, 1, 0, 0, 1, 0, 1, 1, 1], .blk 1, .code [1, 1, 1, 0, 0, 1, 0, 1, 1, 1], .lp [0, 1, 0, 1, 1, 1], .blk 0, .code [1, 1, 1, 1]], ⟨frm 293 [(0, .int .i64), (5, .ptr 0 0 0), (8, .ptr 1 0 0), (9, .buf 2 4), (10, .int .i64), (11, .ptr 3 0 0), (12, .int .i64), (22, .buf 4 1), (42, .recs [.int .i64, .int .i64]), (43, .int .i64), (44, .int .i64), (154, .buf 5 3), (155, .int .i64), (156, .int .i64)], [.cells [.int .i64, .int .i64, .int .i64, .int .i64, .buf 5 3], .cells [.int .i64, .int .i64, .int .i64, .int .i64, .buf 6 3], .recs [.int .i64, .int .i64, .int .i64, .int .i64], .cells [.int .i64, .int .i64], .ints .i64, .recs [.int .i64, .int .i64, .int .i64], .recs [.int .i64, .int .i64, .int .i64]]⟩, onU F⟩
noncomputable def L18_2s (m : Nat) (k0 : A18_0 → Option (List Un)) (k : A18_2 → Option (List Un)) : A18_2 → Option (List Un) := fun (a0, a1, a2, a3, a4, a5, a6, a7, a8, a9, a10, a11, a12, a13, a14, a15, a16, a17, a18, a19, a20, a21) =>
  bif decide (a7 < a6) then
   chk (inb a7 a19.length) <|
   chk (decide (a7.toNat < a19.length)) <|
   chk (inb a7 a20.length) <|
   chk (decide (a7.toNat < a20.length)) <|
   chk (inb a7 a20.length) <|
   chk (decide (a7.toNat < a20.length)) <|
   lt (rowD a20 a7.toNat : Dat) fun d16 =>
   chk (decide (a16.length ≤ 68719476736)) <|
   k (a0, a1, a2, a3, a4, a5, a6, (w64 (a7 + 1)), a8, a9, a10, a11, a12, a13, a14, a15, (if 0 < (a19.getD a7.toNat 0) then a16 ++ [.r [.n a1, .n a17, .n a7, .n (a19.getD a7.toNat 0)]] else a16), a17, a18, a19, (List.set a20 a7.toNat (.r [.n (d16.i 0), .n (d16.i 1), .n (w64 (((rowD a20 a7.toNat).i 2) - (a19.getD a7.toNat 0)))])), a21)
  else
   chk (true && (decide (0 ≤ a2) && decide (a2.toNat ≤ a16.length ∧ a16.length ≤ a16.length))) <|
   L18_8 m k0 m (a0, a3, a4, a5, (a2.toNat : Int), (((a16.length - a2.toNat) : Nat) : Int), (((a16.length - a2.toNat) : Nat) : Int), 0, a8, a9, a10, a11, a12, a13, a14, a15, a16, a20, a21)
noncomputable def L18_2 (m : Nat) (k0 : A18_0 → Option (List Un)) : Nat → A18_2 → Option (List Un) := iterA (L18_2s m k0)
theorem L18_2_succ (m : Nat) (k0 : A18_0 → Option (List Un)) (n : Nat) : L18_2 m k0 (n + 1) = L18_2s m k0 (L18_2 m k0 n) := rfl
noncomputable def S18_2 (F : A18_2 → Option (List Un)) : StopS := ⟨[.lp [0, 1, 1, 1, 0, 1, 1, 1, 1, 1, 1, 1, 0, 1, 0, 1, 1, 0, 0, 1, 1, 0, 0, 1, 0, 1, 1, 1], .blk 5, .blk 2, .code [1, 1, 1, 0, 0, 1, 1, 0, 0, 1, 0, 1, 1, 1], .blk 1, .code [1, 1, 1, 0, 0, 1, 0, 1, 1, 1], .lp [0, 1, 0, 1, 1, 1], .blk 0, .code [1, 1, 1, 1]], ⟨frm 293 [(0, .int .i64), (5, .ptr 0 0 0), (8, .ptr 1 0 0), (9, .buf 2 4), (10, .int .i64), (11, .ptr 3 0 0), (12, .int .i64), (42, .recs [.int .i64, .int .i64]), (43, .int .i64), (44, .int .i64), (124, .buf 4 1), (125, .int .i64), (126, .int .i64)], [.cells [.int .i64, .int .i64, .int .i64, .int .i64, .buf 5 3], .cells [.int .i64, .int .i64, .int .i64, .int .i64, .buf 6 3], .recs [.int .i64, .int .i64, .int .i64, .int .i64], .cells [.int .i64, .int .i64], .ints .i64, .recs [.int .i64, .int .i64, .int .i64], .recs [.int .i64, .int .i64, .int .i64]]⟩, onU F⟩
noncomputable def L18_1s (m : Nat) (k0 : A18_0 → Option (List Un)) (k : A18_1 → Option (List Un)) : A18_1 → Option (List Un) := fun (a0, a1, a2, a3, a4, a5, a6, a7, a8, a9, a10, a11, a12, a13, a14, a15, a16, a17, a18, a19, a20, a21) =>
  bif decide (a7 < a6) then
   chk (inb a7 a20.length) <|
   chk (decide (a7.toNat < a20.length)) <|
   lt (rowD a20 a7.toNat : Dat) fun d11 =>
   bif (d11.i 0) == a18 then
    chk (fits (a19.length + 1) 8) <|
    k (a0, a1, a2, a3, a4, a5, a6, (w64 (a7 + 1)), a8, a9, a10, a11, a12, a13, a14, a15, a16, a17, a18, (a19 ++ ([(d11.i 2)])), a20, a21)
   else
    chk (fits (a19.length + 1) 8) <|
    k (a0, a1, a2, a3, a4, a5, a6, (w64 (a7 + 1)), a8, a9, a10, a11, a12, a13, a14, a15, a16, a17, a18, (a19 ++ ([0])), a20, a21)
  else
   chk (decide (a0 ≤ 9223372036854775807 ∧ a19.length < 1099511627776)) <|
   L18_2 m k0 m (a0, a1, a2, a3, a4, a5, ((proV a0 a19).length : Int), 0, a8, a9, a10, a11, a12, a13, a14, a15, a16, a17, a18, (proV a0 a19), a20, a21)
noncomputable def L18_1 (m : Nat) (k0 : A18_0 → Option (List Un)) : Nat → A18_1 → Option (List Un) := iterA (L18_1s m k0)
theorem L18_1_succ (m : Nat) (k0 : A18_0 → Option (List Un)) (n : Nat) : L18_1 m k0 (n + 1) = L18_1s m k0 (L18_1 m k0 n) := rfl
noncomputable def S18_1 (F : A18_1 → Option (List Un)) : StopS := ⟨[.lp [0, 1, 0, 1, 0, 1, 1, 1, 1, 1, 1, 1, 0, 1, 0, 1, 1, 0, 0, 1, 1, 0, 0, 1, 0, 1, 1, 1], .blk 3, .code [1, 1, 0, 1, 1, 1, 1, 1, 1, 1, 0, 1, 0, 1, 1, 0, 0, 1, 1, 0, 0, 1, 0, 1, 1, 1], .blk 2, .code [1, 1, 1, 0, 0, 1, 1, 0, 0, 1, 0, 1, 1, 1], .blk 1, .code [1, 1, 1, 0, 0, 1, 0, 1, 1, 1], .lp [0, 1, 0, 1, 1, 1], .blk 0, .code [1, 1, 1, 1]], ⟨frm 293 [(0, .int .i64), (5, .ptr 0 0 0), (8, .ptr 1 0 0), (9, .buf 2 4), (10, .int .i64), (11, .ptr 3 0 0), (12, .int .i64), (16, .buf 4 1), (42, .recs [.int .i64, .int .i64]), (43, .int .i64), (44, .int .i64), (104, .buf 5 3), (105, .int .i64), (106, .int .i64)], [.cells [.int .i64, .int .i64, .int .i64, .int .i64, .buf 5 3], .cells [.int .i64, .int .i64, .int .i64, .int .i64, .buf 6 3], .recs [.int .i64, .int .i64, .int .i64, .int .i64], .cells [.int .i64, .int .i64], .ints .i64, .recs [.int .i64, .int .i64, .int .i64], .recs [.int .i64, .int .i64, .int .i64]]⟩, onU F⟩
noncomputable def L18_0s (m : Nat) (k : A18_0 → Option (List Un)) : A18_0 → Option (List Un) := fun (a0, a1, a2, a3, a4, a5, a6, a7, a8, a9, a10, a11, a12, a13, a14) =>
  bif decide (a3 < a2) then
   chk (inb a3 a1.length) <|
   chk (decide (a3.toNat < a1.length)) <|
   lt (rowD a1 a3.toNat : Dat) fun d1 =>
   bif (d1.i 0) == 1 then
    lt ((if a4 < a0 then a4 else a0) : Int) fun x2 =>
    chk (decide (a12.length ≤ 68719476736)) <|
    lt ((if 0 < x2 then a12 ++ [.r [.n a3, .n (d1.i 0), .n (-1), .n x2]] else a12) : List Dat) fun l3 =>
    chk (true && (decide (0 ≤ (a12.length : Int)) && decide (a12.length ≤ l3.length ∧ l3.length ≤ l3.length))) <|
    L18_8 m k m (a0, a1, a2, a3, (a12.length : Int), (((l3.length - a12.length) : Nat) : Int), (((l3.length - a12.length) : Nat) : Int), 0, (w64 (a4 - x2)), a5, a6, a7, a8, a9, a10, a11, l3, a13, a14)
   else
    bif (d1.i 0) == 2 then
     lt ((if a5 < a0 then a5 else a0) : Int) fun x4 =>
     chk (decide (a12.length ≤ 68719476736)) <|
     lt ((if 0 < x4 then a12 ++ [.r [.n a3, .n (d1.i 0), .n (-1), .n x4]] else a12) : List Dat) fun l5 =>
     chk (true && (decide (0 ≤ (a12.length : Int)) && decide (a12.length ≤ l5.length ∧ l5.length ≤ l5.length))) <|
     L18_8 m k m (a0, a1, a2, a3, (a12.length : Int), (((l5.length - a12.length) : Nat) : Int), (((l5.length - a12.length) : Nat) : Int), 0, a4, (w64 (a5 - x4)), a6, a7, a8, a9, a10, a11, l5, a13, a14)
    else
     bif (d1.i 0) == 6 then
      lt ((if a7 < a0 then a7 else a0) : Int) fun x6 =>
      chk (decide (a12.length ≤ 68719476736)) <|
      lt ((if 0 < x6 then a12 ++ [.r [.n a3, .n (d1.i 0), .n (-1), .n x6]] else a12) : List Dat) fun l7 =>
      chk (true && (decide (0 ≤ (a12.length : Int)) && decide (a12.length ≤ l7.length ∧ l7.length ≤ l7.length))) <|
      L18_8 m k m (a0, a1, a2, a3, (a12.length : Int), (((l7.length - a12.length) : Nat) : Int), (((l7.length - a12.length) : Nat) : Int), 0, a4, a5, a6, (w64 (a7 - x6)), a8, a9, a10, a11, l7, a13, a14)
     else
      bif (d1.i 0) == 3 then
       L18_1 m k m (a0, a3, (a12.length : Int), a1, a2, a3, (a13.length : Int), 0, a4, a5, a6, a7, a8, a9, a10, a11, a12, (d1.i 0), (d1.i 1), [], a13, a14)
      else
       bif (d1.i 0) == 5 then
        L18_3 m k m (a0, a3, (a12.length : Int), a1, a2, a3, (a13.length : Int), 0, a4, a5, a6, a7, a8, a9, a10, a11, a12, (d1.i 0), (d1.i 1), [], a13, a14)
       else
        bif (d1.i 0) == 4 then
         bif (d1.i 0) == 4 then
          bif (d1.i 0) == 4 then
           L18_5 m k m (a0, a3, (a12.length : Int), (if a6 < a0 then a6 else a0), a1, a2, a3, 0, a4, a5, a6, a7, a8, a9, a10, a11, a12, (d1.i 0), (d1.i 1), a13, a14)
          else
           L18_5 m k m (a0, a3, (a12.length : Int), a0, a1, a2, a3, 0, a4, a5, a6, a7, a8, a9, a10, a11, a12, (d1.i 0), (d1.i 1), a13, a14)
         else
          chk (true && (decide (0 ≤ (a12.length : Int)) && decide (a12.length ≤ a12.length ∧ a12.length ≤ a12.length))) <|
          L18_8 m k m (a0, a1, a2, a3, (a12.length : Int), (((a12.length - a12.length) : Nat) : Int), (((a12.length - a12.length) : Nat) : Int), 0, a4, a5, a6, a7, a8, a9, a10, a11, a12, a13, a14)
        else
         bif (d1.i 0) == 7 then
          bif (d1.i 0) == 4 then
           L18_5 m k m (a0, a3, (a12.length : Int), (if a6 < a0 then a6 else a0), a1, a2, a3, 0, a4, a5, a6, a7, a8, a9, a10, a11, a12, (d1.i 0), (d1.i 1), a13, a14)
          else
           L18_5 m k m (a0, a3, (a12.length : Int), a0, a1, a2, a3, 0, a4, a5, a6, a7, a8, a9, a10, a11, a12, (d1.i 0), (d1.i 1), a13, a14)
         else
          chk (true && (decide (0 ≤ (a12.length : Int)) && decide (a12.length ≤ a12.length ∧ a12.length ≤ a12.length))) <|
          L18_8 m k m (a0, a1, a2, a3, (a12.length : Int), (((a12.length - a12.length) : Nat) : Int), (((a12.length - a12.length) : Nat) : Int), 0, a4, a5, a6, a7, a8, a9, a10, a11, a12, a13, a14)
  else
   some ([.i a0, .i a4, .i a5, .i a6, .i a7, .d a12, .d a13])
noncomputable def L18_0 (m : Nat) : Nat → A18_0 → Option (List Un) := iterA (L18_0s m)
theorem L18_0_succ (m : Nat) (n : Nat) : L18_0 m (n + 1) = L18_0s m (L18_0 m n) := rfl
noncomputable def S18_0 (F : A18_0 → Option (List Un)) : StopS := ⟨[.lp [0, 1, 0, 1, 1, 1], .blk 0, .code [1, 1, 1, 1]], ⟨frm 293 [(0, .int .i64), (5, .ptr 0 0 0), (8, .ptr 1 0 0), (9, .buf 2 4), (42, .recs [.int .i64, .int .i64]), (43, .int .i64), (44, .int .i64)], [.cells [.int .i64, .int .i64, .int .i64, .int .i64, .buf 3 3], .cells [.int .i64, .int .i64, .int .i64, .int .i64, .buf 4 3], .recs [.int .i64, .int .i64, .int .i64, .int .i64], .recs [.int .i64, .int .i64, .int .i64], .recs [.int .i64, .int .i64, .int .i64]]⟩, onU F⟩
theorem H18_8 (m : Nat) (k0 : A18_0 → Option (List Un)) (h0 : HO N18 (S18_0 k0)) : ∀ n, HO N18 (S18_8 (L18_8 m k0 n)) := loop_holds KN_none T26.right (fun k => [S18_0 k0, S18_8 k]) (fun k h => (all1 h0 (all1 h all0))) fun k a => by kernel_rfl
theorem H18_7 (m : Nat) (k0 : A18_0 → Option (List Un)) (h0 : HO N18 (S18_0 k0)) (k5 : A18_5 → Option (List Un)) (h5 : HO N18 (S18_5 k5)) : ∀ n, HO N18 (S18_7 (L18_7 m k0 k5 n)) := loop_holds KN_none T26.right (fun k => [S18_5 k5, S18_7 k]) (fun k h => (all1 h5 (all1 h all0))) fun k a => by kernel_rfl
theorem H18_6 (m : Nat) (k0 : A18_0 → Option (List Un)) (h0 : HO N18 (S18_0 k0)) (k5 : A18_5 → Option (List Un)) (h5 : HO N18 (S18_5 k5)) : ∀ n, HO N18 (S18_6 (L18_6 m k0 k5 n)) := loop_holds KN_none T26.right (fun k => [S18_6 k, S18_7 (L18_7 m k0 k5 m)]) (fun k h => (all1 h (all1 (H18_7 m _ h0 _ h5 m) all0))) fun k a => by kernel_rfl
theorem H18_5 (m : Nat) (k0 : A18_0 → Option (List Un)) (h0 : HO N18 (S18_0 k0)) : ∀ n, HO N18 (S18_5 (L18_5 m k0 n)) := loop_holds KN_none T26.right (fun k => [S18_6 (L18_6 m k0 (k) m), S18_8 (L18_8 m k0 m)]) (fun k h => (all1 (H18_6 m _ h0 _ h m) (all1 (H18_8 m _ h0 m) all0))) fun k a => by kernel_rfl
theorem H18_4 (m : Nat) (k0 : A18_0 → Option (List Un)) (h0 : HO N18 (S18_0 k0)) : ∀ n, HO N18 (S18_4 (L18_4 m k0 n)) := loop_holds KN_none T26.right (fun k => [S18_4 k, S18_8 (L18_8 m k0 m)]) (fun k h => (all1 h (all1 (H18_8 m _ h0 m) all0))) fun k a => by kernel_rfl
theorem H18_3 (m : Nat) (k0 : A18_0 → Option (List Un)) (h0 : HO N18 (S18_0 k0)) : ∀ n, HO N18 (S18_3 (L18_3 m k0 n)) := loop_holds KN_none T26.right (fun k => [S18_3 k, S18_4 (L18_4 m k0 m)]) (fun k h => (all1 h (all1 (H18_4 m _ h0 m) all0))) fun k a => by kernel_rfl
theorem H18_2 (m : Nat) (k0 : A18_0 → Option (List Un)) (h0 : HO N18 (S18_0 k0)) : ∀ n, HO N18 (S18_2 (L18_2 m k0 n)) := loop_holds KN_none T26.right (fun k => [S18_2 k, S18_8 (L18_8 m k0 m)]) (fun k h => (all1 h (all1 (H18_8 m _ h0 m) all0))) fun k a => by kernel_rfl
theorem H18_1 (m : Nat) (k0 : A18_0 → Option (List Un)) (h0 : HO N18 (S18_0 k0)) : ∀ n, HO N18 (S18_1 (L18_1 m k0 n)) := loop_holds KN_none T26.right (fun k => [S18_1 k, S18_2 (L18_2 m k0 m)]) (fun k h => (all1 h (all1 (H18_2 m _ h0 m) all0))) fun k a => by kernel_rfl
theorem H18_0 (m : Nat) : ∀ n, HO N18 (S18_0 (L18_0 m n)) := loop_holds KN_none T26.right (fun k => [S18_1 (L18_1 m (k) m), S18_3 (L18_3 m (k) m), S18_5 (L18_5 m (k) m), S18_8 (L18_8 m (k) m)]) (fun k h => (all1 (H18_1 m _ h m) (all1 (H18_3 m _ h m) (all1 (H18_5 m _ h m) (all1 (H18_8 m _ h m) all0))))) fun k a => by kernel_rfl
noncomputable def t18 (m : Nat) : Int × List Dat × Int × Int × Int × Int × List Dat → Option (List Un) := fun (a0, a1, a2, a3, a4, a5, a6) =>
  chk (fits (0 + a6.length) 24) <|
  L18_0 m m (a0, a1, (a1.length : Int), 0, a2, a3, a4, a5, 0, 0, 0, 0, [], a6, [])
section
variable (m : Nat) (st zl : List Dat) (ns z1 z2 z3 z4 : Int)
theorem rfL8 (k0 : A18_0 → Option (List Un)) (at_ fee rc pri room : Int) (ha : 0 ≤ at_ ∧ at_ ≤ 1000000) (ob c : List Dat) : ∀ (rest done : List Dat) (n : Nat) (cash : Int), rest.length < n → (done ++ rest).length ≤ 137438953472 → (∀ d ∈ rest, 0 ≤ d.i 3) → sumI 3 rest ≤ cash → cash ≤ 1152921504606846976 →
    L18_8 m k0 n (cash, st, ns, at_, (ob.length : Int), ((done ++ rest).length : Int), ((done ++ rest).length : Int), (done.length : Int), fee, rc, pri, room, z1, z2, z3, z4, ob ++ (done ++ rest), c, zl) = k0 (cash - sumI 3 rest, st, ns, at_ + 1, fee, rc, pri, room, z1, z2, z3, z4, ob ++ (done ++ rest), c, zl) := by
  intro rest
  induction rest with
  | nil =>
    intro done n cash hn hl hd h0 h1
    obtain ⟨n, rfl⟩ := one_more n (by simp at hn; omega)
    rw [L18_8_succ]; unfold L18_8s; dsimp only
    simp only [List.append_nil, sumI, Int.sub_zero]
    rw [cond_df (by omega), wrap_id (by omega) (by omega)]
  | cons x rest ih =>
    intro done n cash hn hl hd h0 h1
    obtain ⟨n, rfl⟩ := one_more n (by simp at hn; omega)
    simp only [List.length_append, List.length_cons, sumI] at hl hn h0
    have hx := hd x (by simp)
    have hs := sumI_nonneg 3 rest fun d h => hd d (by simp [h])
    have := ih (done ++ [x]) n (cash - x.i 3) (by omega) (by simp; omega) (fun d h => hd d (by simp [h])) (by omega) (by omega)
    simp only [sumI]
    rw [show cash - (x.i 3 + sumI 3 rest) = cash - x.i 3 - sumI 3 rest by omega]
    rw [L18_8_succ]; unfold L18_8s; dsimp only
    simp (disch := omega) only [lt_eq, chk_dec, chk_tt, chk_and, chk_inb, chk_fits, chk_make, chkn_dec, cond_dt, cond_df, cond_bt, cond_bf, cond_nt, cond_nf, cond_not, cond_and, cond_or, cond_tt, cond_ff, wrap_id, min_if', max_if', List.length_append, List.length_cons, List.length_nil, List.length_replicate, List.length_set, List.length_map, List.length_range, Int.natCast_add, Int.cast_ofNat_Int, Int.toNat_natCast, Int.add_assoc, Nat.zero_add, Int.zero_add, List.append_assoc, List.cons_append, List.nil_append, rowD_mid3, Nat.add_assoc]
    simp only [List.length_append, List.length_cons, List.length_nil, List.length_replicate, List.length_set, List.length_map, List.length_range, Int.natCast_add, Int.cast_ofNat_Int, Int.toNat_natCast, Int.add_assoc, Nat.zero_add, Int.zero_add, List.append_assoc, List.cons_append, List.nil_append] at this ⊢
    exact this
theorem rfL2 (k0 : A18_0 → Option (List Un)) (cash at_ fee rc room kd rk : Int) (ob : List Dat) : ∀ (xr : List Int) (cr gd : List Dat) (xd : List Int) (n : Nat) (pri : Int) (pays : List Dat), xr.length < n → fitG 2 xr cr → xd.length = gd.length → (gd ++ cr).length ≤ 1000 → xr.length = cr.length → (ob ++ pays).length + xr.length ≤ 68719476736 →
    L18_2 m k0 n (cash, at_, (ob.length : Int), st, ns, at_, ((xd ++ xr).length : Int), (gd.length : Int), fee, rc, pri, room, z1, z2, z3, z4, ob ++ pays, kd, rk, xd ++ xr, gd ++ cr, zl) = L18_8 m k0 m (cash, st, ns, at_, (ob.length : Int), ((pays ++ payAll at_ kd gd.length xr).length : Int), ((pays ++ payAll at_ kd gd.length xr).length : Int), 0, fee, rc, pri, room, z1, z2, z3, z4, ob ++ (pays ++ payAll at_ kd gd.length xr), (gd ++ giveAll 2 xr cr), zl) := by
  intro xr
  induction xr with
  | nil =>
    intro cr gd xd n pri pays hn hf he hl hc ho
    obtain ⟨n, rfl⟩ := one_more n (by simp at hn; omega)
    obtain rfl := List.eq_nil_of_length_eq_zero hc.symm
    rw [L18_2_succ]; unfold L18_2s; dsimp only
    simp only [List.append_nil, payAll, giveAll, List.sum_nil, Int.sub_zero, Int.toNat_natCast, List.length_append] at ho ⊢
    rw [cond_df (by omega), chk_t (by simp) rfl]
    rw [show ob.length + pays.length - ob.length = pays.length by omega]
  | cons v xr ih =>
    intro cr gd xd n pri pays hn hf he hl hc ho
    obtain ⟨n, rfl⟩ := one_more n (by simp at hn; omega)
    cases cr with
    | nil => simp at hc
    | cons x cr =>
    obtain ⟨hv, hx, hf⟩ := hf
    have hx := claimG_at hx
    simp only [List.length_append, List.length_cons] at hl hn hc ho
    have := ih cr (gd ++ [lessD 2 v x]) (xd ++ [v]) n pri (pays ++ if 0 < v then [.r [.n at_, .n kd, .n gd.length, .n v]] else []) (by omega) hf (by simp [he]) (by simp; omega) (by omega) (by split <;> simp <;> omega)
    have gx : (xd ++ v :: xr).getD gd.length 0 = v := by rw [← he]; exact getD_mid _ _ _ _
    simp only [payAll, giveAll]
    rw [L18_2_succ]; unfold L18_2s; dsimp only
    have e5 : (lessD 2 v x) = .r [.n (x.i 0), .n (x.i 1), .n (x.i 2 - v)] := by simp only [lessD, show ¬ (2 : Nat) = 1 by decide, if_false]
    rw [e5] at this ⊢
    by_cases h0 : 0 < v
    · rw [if_pos h0] at this ⊢
      simp (disch := omega) only [lt_eq, chk_dec, chk_tt, chk_and, chk_inb, chk_fits, chk_make, chkn_dec, cond_dt, cond_df, cond_bt, cond_bf, cond_nt, cond_nf, cond_not, cond_and, cond_or, cond_tt, cond_ff, wrap_id, min_if', max_if', rowD_mid, gx, set_mid, List.length_append, List.length_cons, Int.natCast_add, Int.toNat_natCast, Int.cast_ofNat_Int, h0, if_true, if_false]
      simp only [List.length_append, List.length_cons, List.length_nil, List.length_replicate, List.length_set, List.length_map, List.length_range, Int.natCast_add, Int.cast_ofNat_Int, Int.toNat_natCast, Int.add_assoc, Nat.zero_add, Int.zero_add, List.append_assoc, List.cons_append, List.nil_append, one_add, List.append_nil] at this ⊢
      skip
      exact this
    · rw [if_neg h0] at this ⊢
      simp (disch := omega) only [lt_eq, chk_dec, chk_tt, chk_and, chk_inb, chk_fits, chk_make, chkn_dec, cond_dt, cond_df, cond_bt, cond_bf, cond_nt, cond_nf, cond_not, cond_and, cond_or, cond_tt, cond_ff, wrap_id, min_if', max_if', rowD_mid, gx, set_mid, List.length_append, List.length_cons, Int.natCast_add, Int.toNat_natCast, Int.cast_ofNat_Int, h0, if_true, if_false]
      simp only [List.length_append, List.length_cons, List.length_nil, List.length_replicate, List.length_set, List.length_map, List.length_range, Int.natCast_add, Int.cast_ofNat_Int, Int.toNat_natCast, Int.add_assoc, Nat.zero_add, Int.zero_add, List.append_assoc, List.cons_append, List.nil_append, one_add, List.append_nil] at this ⊢
      skip
      exact this
theorem rfL4 (k0 : A18_0 → Option (List Un)) (cash at_ fee rc room kd rk : Int) (ob : List Dat) : ∀ (xr : List Int) (cr gd : List Dat) (xd : List Int) (n : Nat) (pri : Int) (pays : List Dat), xr.length < n → fitG 1 xr cr → xd.length = gd.length → (gd ++ cr).length ≤ 1000 → xr.length = cr.length → (ob ++ pays).length + xr.length ≤ 68719476736 → (∀ v ∈ xr, 0 ≤ v) → xr.sum ≤ pri → pri ≤ 1152921504606846976 →
    L18_4 m k0 n (cash, at_, (ob.length : Int), st, ns, at_, ((xd ++ xr).length : Int), (gd.length : Int), fee, rc, pri, room, z1, z2, z3, z4, ob ++ pays, kd, rk, xd ++ xr, gd ++ cr, zl) = L18_8 m k0 m (cash, st, ns, at_, (ob.length : Int), ((pays ++ payAll at_ kd gd.length xr).length : Int), ((pays ++ payAll at_ kd gd.length xr).length : Int), 0, fee, rc, (pri - xr.sum), room, z1, z2, z3, z4, ob ++ (pays ++ payAll at_ kd gd.length xr), (gd ++ giveAll 1 xr cr), zl) := by
  intro xr
  induction xr with
  | nil =>
    intro cr gd xd n pri pays hn hf he hl hc ho hn0 hp0 hp1
    obtain ⟨n, rfl⟩ := one_more n (by simp at hn; omega)
    obtain rfl := List.eq_nil_of_length_eq_zero hc.symm
    rw [L18_4_succ]; unfold L18_4s; dsimp only
    simp only [List.append_nil, payAll, giveAll, List.sum_nil, Int.sub_zero, Int.toNat_natCast, List.length_append] at ho ⊢
    rw [cond_df (by omega), chk_t (by simp) rfl]
    rw [show ob.length + pays.length - ob.length = pays.length by omega]
  | cons v xr ih =>
    intro cr gd xd n pri pays hn hf he hl hc ho hn0 hp0 hp1
    obtain ⟨n, rfl⟩ := one_more n (by simp at hn; omega)
    cases cr with
    | nil => simp at hc
    | cons x cr =>
    obtain ⟨hv, hx, hf⟩ := hf
    have hx := claimG_at hx
    simp only [List.length_append, List.length_cons, List.sum_cons] at hl hn hc ho hn0 hp0 hp1
    have := ih cr (gd ++ [lessD 1 v x]) (xd ++ [v]) n (pri - v) (pays ++ if 0 < v then [.r [.n at_, .n kd, .n gd.length, .n v]] else []) (by omega) hf (by simp [he]) (by simp; omega) (by omega) (by split <;> simp <;> omega) (fun y hy => hn0 y (by simp [hy])) (by omega) (by omega)
    have hsum := sum_nonneg xr fun y hy => hn0 y (by simp [hy])
    have gx : (xd ++ v :: xr).getD gd.length 0 = v := by rw [← he]; exact getD_mid _ _ _ _
    simp only [payAll, giveAll, List.sum_cons]
    rw [L18_4_succ]; unfold L18_4s; dsimp only
    have e5 : (lessD 1 v x) = .r [.n (x.i 0), .n (x.i 1 - v), .n (x.i 2)] := by simp only [lessD, if_true]
    rw [e5] at this ⊢
    by_cases h0 : 0 < v
    · rw [if_pos h0] at this ⊢
      simp (disch := omega) only [lt_eq, chk_dec, chk_tt, chk_and, chk_inb, chk_fits, chk_make, chkn_dec, cond_dt, cond_df, cond_bt, cond_bf, cond_nt, cond_nf, cond_not, cond_and, cond_or, cond_tt, cond_ff, wrap_id, min_if', max_if', rowD_mid, gx, set_mid, List.length_append, List.length_cons, Int.natCast_add, Int.toNat_natCast, Int.cast_ofNat_Int, h0, if_true, if_false]
      simp only [List.length_append, List.length_cons, List.length_nil, List.length_replicate, List.length_set, List.length_map, List.length_range, Int.natCast_add, Int.cast_ofNat_Int, Int.toNat_natCast, Int.add_assoc, Nat.zero_add, Int.zero_add, List.append_assoc, List.cons_append, List.nil_append, one_add, List.append_nil] at this ⊢
      rw [show pri - (v + xr.sum) = pri - v - xr.sum by omega]
      exact this
    · rw [if_neg h0] at this ⊢
      simp (disch := omega) only [lt_eq, chk_dec, chk_tt, chk_and, chk_inb, chk_fits, chk_make, chkn_dec, cond_dt, cond_df, cond_bt, cond_bf, cond_nt, cond_nf, cond_not, cond_and, cond_or, cond_tt, cond_ff, wrap_id, min_if', max_if', rowD_mid, gx, set_mid, List.length_append, List.length_cons, Int.natCast_add, Int.toNat_natCast, Int.cast_ofNat_Int, h0, if_true, if_false]
      simp only [List.length_append, List.length_cons, List.length_nil, List.length_replicate, List.length_set, List.length_map, List.length_range, Int.natCast_add, Int.cast_ofNat_Int, Int.toNat_natCast, Int.add_assoc, Nat.zero_add, Int.zero_add, List.append_assoc, List.cons_append, List.nil_append, one_add, List.append_nil] at this ⊢
      rw [show pri - (v + xr.sum) = pri - v - xr.sum by omega]
      exact this
theorem rfL7 (k0 : A18_0 → Option (List Un)) (k5 : A18_5 → Option (List Un)) (cash at_ r fee rc room kd rk : Int) (hr : 0 ≤ r ∧ r ≤ 8) (ob : List Dat) : ∀ (xr : List Int) (cr gd : List Dat) (xd : List Int) (n : Nat) (left pri : Int) (out : List Dat), xr.length < n → fitG 1 xr cr → xd.length = gd.length → (gd ++ cr).length ≤ 1000 → xr.length = cr.length → out.length + xr.length ≤ 68719476736 → (∀ v ∈ xr, 0 ≤ v) → xr.sum ≤ left → left ≤ 1152921504606846976 → (kd = 4 → xr.sum ≤ pri ∧ pri ≤ 1152921504606846976) →
    L18_7 m k0 k5 n (cash, at_, (ob.length : Int), left, st, ns, at_, r, ((xd ++ xr).length : Int), (gd.length : Int), fee, rc, pri, room, z1, z2, z3, z4, out, kd, rk, xd ++ xr, gd ++ cr, zl) = k5 (cash, at_, (ob.length : Int), (left - xr.sum), st, ns, at_, (r + 1), fee, rc, (if kd = 4 then pri - xr.sum else pri), room, z1, z2, z3, z4, (out ++ payAll at_ kd gd.length xr), kd, rk, (gd ++ giveAll 1 xr cr), zl) := by
  intro xr
  induction xr with
  | nil =>
    intro cr gd xd n left pri out hn hf he hl hc ho hn0 hl0 hl1 hp
    obtain ⟨n, rfl⟩ := one_more n (by simp at hn; omega)
    obtain rfl := List.eq_nil_of_length_eq_zero hc.symm
    rw [L18_7_succ]; unfold L18_7s; dsimp only
    simp only [List.append_nil, payAll, giveAll, List.sum_nil, Int.sub_zero]
    rw [cond_df (by omega), wrap_id (by omega) (by omega), ite_self]
  | cons v xr ih =>
    intro cr gd xd n left pri out hn hf he hl hc ho hn0 hl0 hl1 hp
    obtain ⟨n, rfl⟩ := one_more n (by simp at hn; omega)
    cases cr with
    | nil => simp at hc
    | cons x cr =>
    obtain ⟨hv, hx, hf⟩ := hf
    have hx := claimG_at hx
    have hsum := sum_nonneg xr fun y hy => hn0 y (by simp [hy])
    simp only [List.length_append, List.length_cons, List.sum_cons] at hl hn hc ho hl0 hp
    have := ih cr (gd ++ [lessD 1 v x]) (xd ++ [v]) n (left - v) (if kd = 4 then pri - v else pri) (out ++ if 0 < v then [.r [.n at_, .n kd, .n gd.length, .n v]] else []) (by omega) hf (by simp [he]) (by simp; omega) (by omega) (by split <;> simp <;> omega) (fun y hy => hn0 y (by simp [hy])) (by omega) (by omega) (fun hk => by rw [if_pos hk]; have := hp hk; omega)
    have gx : (xd ++ v :: xr).getD gd.length 0 = v := by rw [← he]; exact getD_mid _ _ _ _
    simp only [payAll, giveAll, List.sum_cons]
    have e5 : (lessD 1 v x) = .r [.n (x.i 0), .n (x.i 1 - v), .n (x.i 2)] := by simp only [lessD, if_true]
    rw [e5] at this ⊢
    rw [show left - (v + xr.sum) = left - v - xr.sum by omega]
    rw [L18_7_succ]; unfold L18_7s; dsimp only
    by_cases hk : kd = 4
    · have hp := hp hk
      simp only [if_pos hk] at this ⊢
      rw [show pri - (v + xr.sum) = pri - v - xr.sum by omega]
      by_cases h0 : 0 < v
      · rw [if_pos h0] at this ⊢
        simp (disch := omega) only [lt_eq, chk_dec, chk_tt, chk_and, chk_inb, chk_fits, chk_make, chkn_dec, cond_dt, cond_df, cond_bt, cond_bf, cond_nt, cond_nf, cond_not, cond_and, cond_or, cond_tt, cond_ff, wrap_id, min_if', max_if', rowD_mid, gx, set_mid, List.length_append, List.length_cons, Int.natCast_add, Int.toNat_natCast, Int.cast_ofNat_Int, h0, if_true, if_false]
        simp only [List.length_append, List.length_cons, List.length_nil, List.length_replicate, List.length_set, List.length_map, List.length_range, Int.natCast_add, Int.cast_ofNat_Int, Int.toNat_natCast, Int.add_assoc, Nat.zero_add, Int.zero_add, List.append_assoc, List.cons_append, List.nil_append, one_add, List.append_nil] at this ⊢
        exact this
      · rw [if_neg h0] at this ⊢
        simp (disch := omega) only [lt_eq, chk_dec, chk_tt, chk_and, chk_inb, chk_fits, chk_make, chkn_dec, cond_dt, cond_df, cond_bt, cond_bf, cond_nt, cond_nf, cond_not, cond_and, cond_or, cond_tt, cond_ff, wrap_id, min_if', max_if', rowD_mid, gx, set_mid, List.length_append, List.length_cons, Int.natCast_add, Int.toNat_natCast, Int.cast_ofNat_Int, h0, if_true, if_false]
        simp only [List.length_append, List.length_cons, List.length_nil, List.length_replicate, List.length_set, List.length_map, List.length_range, Int.natCast_add, Int.cast_ofNat_Int, Int.toNat_natCast, Int.add_assoc, Nat.zero_add, Int.zero_add, List.append_assoc, List.cons_append, List.nil_append, one_add, List.append_nil] at this ⊢
        exact this
    · simp only [if_neg hk] at this ⊢
      by_cases h0 : 0 < v
      · rw [if_pos h0] at this ⊢
        simp (disch := omega) only [lt_eq, chk_dec, chk_tt, chk_and, chk_inb, chk_fits, chk_make, chkn_dec, cond_dt, cond_df, cond_bt, cond_bf, cond_nt, cond_nf, cond_not, cond_and, cond_or, cond_tt, cond_ff, wrap_id, min_if', max_if', rowD_mid, gx, set_mid, List.length_append, List.length_cons, Int.natCast_add, Int.toNat_natCast, Int.cast_ofNat_Int, h0, if_true, if_false]
        simp only [List.length_append, List.length_cons, List.length_nil, List.length_replicate, List.length_set, List.length_map, List.length_range, Int.natCast_add, Int.cast_ofNat_Int, Int.toNat_natCast, Int.add_assoc, Nat.zero_add, Int.zero_add, List.append_assoc, List.cons_append, List.nil_append, one_add, List.append_nil] at this ⊢
        exact this
      · rw [if_neg h0] at this ⊢
        simp (disch := omega) only [lt_eq, chk_dec, chk_tt, chk_and, chk_inb, chk_fits, chk_make, chkn_dec, cond_dt, cond_df, cond_bt, cond_bf, cond_nt, cond_nf, cond_not, cond_and, cond_or, cond_tt, cond_ff, wrap_id, min_if', max_if', rowD_mid, gx, set_mid, List.length_append, List.length_cons, Int.natCast_add, Int.toNat_natCast, Int.cast_ofNat_Int, h0, if_true, if_false]
        simp only [List.length_append, List.length_cons, List.length_nil, List.length_replicate, List.length_set, List.length_map, List.length_range, Int.natCast_add, Int.cast_ofNat_Int, Int.toNat_natCast, Int.add_assoc, Nat.zero_add, Int.zero_add, List.append_assoc, List.cons_append, List.nil_append, one_add, List.append_nil] at this ⊢
        exact this
theorem rfL1 (k0 : A18_0 → Option (List Un)) (cash at_ left r fee rc pri room kd rk : Int) (ob out : List Dat) : ∀ (rest pre : List Dat) (n : Nat) (what : List Int), rest.length < n → (pre ++ rest).length ≤ 1000 → what.length = pre.length →
    L18_1 m k0 n (cash, at_, (ob.length : Int), st, ns, at_, ((pre ++ rest).length : Int), (pre.length : Int), fee, rc, pri, room, z1, z2, z3, z4, out, kd, rk, what, pre ++ rest, zl) = (chk (decide (cash ≤ 9223372036854775807 ∧ (what ++ rest.map fun d => bif rankS rk d then d.i 2 else 0).length < 1099511627776)) (L18_2 m k0 m (cash, at_, (ob.length : Int), st, ns, at_, ((proV cash (what ++ rest.map fun d => bif rankS rk d then d.i 2 else 0)).length : Int), 0, fee, rc, pri, room, z1, z2, z3, z4, out, kd, rk, (proV cash (what ++ rest.map fun d => bif rankS rk d then d.i 2 else 0)), (pre ++ rest), zl))) := by
  intro rest
  induction rest with
  | nil =>
    intro pre n what hn hl hw
    obtain ⟨n, rfl⟩ := one_more n (by simp at hn; omega)
    rw [L18_1_succ]; unfold L18_1s; dsimp only
    simp only [List.append_nil, List.map_nil, lt_eq, min_if'] at hl ⊢
    rw [cond_df (by omega)]
  | cons x rest ih =>
    intro pre n what hn hl hw
    obtain ⟨n, rfl⟩ := one_more n (by simp at hn; omega)
    simp only [List.length_append, List.length_cons] at hl hn
    have := ih (pre ++ [x]) n (what ++ [bif (rankS rk) x then x.i 2 else 0]) (by omega) (by simp; omega) (by simp [hw])
    simp only [List.map_cons]
    rw [L18_1_succ]; unfold L18_1s; dsimp only
    by_cases hs : x.i 0 = rk
    · simp only [rankS, beq_t hs, cond_true] at this ⊢
      simp (disch := omega) only [lt_eq, chk_dec, chk_tt, chk_and, chk_inb, chk_fits, chk_make, chkn_dec, cond_dt, cond_df, cond_bt, cond_bf, cond_nt, cond_nf, cond_not, cond_and, cond_or, cond_tt, cond_ff, wrap_id, min_if', max_if', List.length_append, List.length_cons, List.length_nil, List.length_replicate, List.length_set, List.length_map, List.length_range, Int.natCast_add, Int.cast_ofNat_Int, Int.toNat_natCast, Int.add_assoc, Nat.zero_add, Int.zero_add, List.append_assoc, List.cons_append, List.nil_append, rowD_mid]
      simp only [List.length_append, List.length_cons, List.length_nil, List.length_replicate, List.length_set, List.length_map, List.length_range, Int.natCast_add, Int.cast_ofNat_Int, Int.toNat_natCast, Int.add_assoc, Nat.zero_add, Int.zero_add, List.append_assoc, List.cons_append, List.nil_append] at this ⊢
      exact this
    · simp only [rankS, beq_f hs, cond_false] at this ⊢
      simp (disch := omega) only [lt_eq, chk_dec, chk_tt, chk_and, chk_inb, chk_fits, chk_make, chkn_dec, cond_dt, cond_df, cond_bt, cond_bf, cond_nt, cond_nf, cond_not, cond_and, cond_or, cond_tt, cond_ff, wrap_id, min_if', max_if', List.length_append, List.length_cons, List.length_nil, List.length_replicate, List.length_set, List.length_map, List.length_range, Int.natCast_add, Int.cast_ofNat_Int, Int.toNat_natCast, Int.add_assoc, Nat.zero_add, Int.zero_add, List.append_assoc, List.cons_append, List.nil_append, rowD_mid]
      simp only [List.length_append, List.length_cons, List.length_nil, List.length_replicate, List.length_set, List.length_map, List.length_range, Int.natCast_add, Int.cast_ofNat_Int, Int.toNat_natCast, Int.add_assoc, Nat.zero_add, Int.zero_add, List.append_assoc, List.cons_append, List.nil_append] at this ⊢
      exact this
theorem rfL3 (k0 : A18_0 → Option (List Un)) (cash at_ left r fee rc pri room kd rk : Int) (ob out : List Dat) : ∀ (rest pre : List Dat) (n : Nat) (what : List Int), rest.length < n → (pre ++ rest).length ≤ 1000 → what.length = pre.length →
    L18_3 m k0 n (cash, at_, (ob.length : Int), st, ns, at_, ((pre ++ rest).length : Int), (pre.length : Int), fee, rc, pri, room, z1, z2, z3, z4, out, kd, rk, what, pre ++ rest, zl) = (chk (decide ((min cash pri) ≤ 9223372036854775807 ∧ (what ++ rest.map fun d => bif (fun _ : Dat => true) d then d.i 1 else 0).length < 1099511627776)) (L18_4 m k0 m (cash, at_, (ob.length : Int), st, ns, at_, ((proV (min cash pri) (what ++ rest.map fun d => bif (fun _ : Dat => true) d then d.i 1 else 0)).length : Int), 0, fee, rc, pri, room, z1, z2, z3, z4, out, kd, rk, (proV (min cash pri) (what ++ rest.map fun d => bif (fun _ : Dat => true) d then d.i 1 else 0)), (pre ++ rest), zl))) := by
  intro rest
  induction rest with
  | nil =>
    intro pre n what hn hl hw
    obtain ⟨n, rfl⟩ := one_more n (by simp at hn; omega)
    rw [L18_3_succ]; unfold L18_3s; dsimp only
    simp only [List.append_nil, List.map_nil, lt_eq, min_if'] at hl ⊢
    rw [cond_df (by omega)]
  | cons x rest ih =>
    intro pre n what hn hl hw
    obtain ⟨n, rfl⟩ := one_more n (by simp at hn; omega)
    simp only [List.length_append, List.length_cons] at hl hn
    have := ih (pre ++ [x]) n (what ++ [bif (fun _ : Dat => true) x then x.i 1 else 0]) (by omega) (by simp; omega) (by simp [hw])
    simp only [List.map_cons]
    rw [L18_3_succ]; unfold L18_3s; dsimp only
    simp only [cond_true] at this ⊢
    simp (disch := omega) only [lt_eq, chk_dec, chk_tt, chk_and, chk_inb, chk_fits, chk_make, chkn_dec, cond_dt, cond_df, cond_bt, cond_bf, cond_nt, cond_nf, cond_not, cond_and, cond_or, cond_tt, cond_ff, wrap_id, min_if', max_if', List.length_append, List.length_cons, List.length_nil, List.length_replicate, List.length_set, List.length_map, List.length_range, Int.natCast_add, Int.cast_ofNat_Int, Int.toNat_natCast, Int.add_assoc, Nat.zero_add, Int.zero_add, List.append_assoc, List.cons_append, List.nil_append, rowD_mid]
    simp only [List.length_append, List.length_cons, List.length_nil, List.length_replicate, List.length_set, List.length_map, List.length_range, Int.natCast_add, Int.cast_ofNat_Int, Int.toNat_natCast, Int.add_assoc, Nat.zero_add, Int.zero_add, List.append_assoc, List.cons_append, List.nil_append] at this ⊢
    exact this
theorem rfL6 (k0 : A18_0 → Option (List Un)) (k5 : A18_5 → Option (List Un)) (cash at_ left r fee rc pri room kd rk : Int) (ob out : List Dat) : ∀ (rest pre : List Dat) (n : Nat) (what : List Int), rest.length < n → (pre ++ rest).length ≤ 1000 → what.length = pre.length →
    L18_6 m k0 k5 n (cash, at_, (ob.length : Int), left, r, st, ns, at_, r, ((pre ++ rest).length : Int), (pre.length : Int), fee, rc, pri, room, z1, z2, z3, z4, out, kd, rk, what, pre ++ rest, zl) = (chk (decide (left ≤ 9223372036854775807 ∧ (what ++ rest.map fun d => bif rankS r d then d.i 1 else 0).length < 1099511627776)) (L18_7 m k0 k5 m (cash, at_, (ob.length : Int), left, st, ns, at_, r, ((proV left (what ++ rest.map fun d => bif rankS r d then d.i 1 else 0)).length : Int), 0, fee, rc, pri, room, z1, z2, z3, z4, out, kd, rk, (proV left (what ++ rest.map fun d => bif rankS r d then d.i 1 else 0)), (pre ++ rest), zl))) := by
  intro rest
  induction rest with
  | nil =>
    intro pre n what hn hl hw
    obtain ⟨n, rfl⟩ := one_more n (by simp at hn; omega)
    rw [L18_6_succ]; unfold L18_6s; dsimp only
    simp only [List.append_nil, List.map_nil, lt_eq, min_if'] at hl ⊢
    rw [cond_df (by omega)]
  | cons x rest ih =>
    intro pre n what hn hl hw
    obtain ⟨n, rfl⟩ := one_more n (by simp at hn; omega)
    simp only [List.length_append, List.length_cons] at hl hn
    have := ih (pre ++ [x]) n (what ++ [bif (rankS r) x then x.i 1 else 0]) (by omega) (by simp; omega) (by simp [hw])
    simp only [List.map_cons]
    rw [L18_6_succ]; unfold L18_6s; dsimp only
    by_cases hs : x.i 0 = r
    · simp only [rankS, beq_t hs, cond_true] at this ⊢
      simp (disch := omega) only [lt_eq, chk_dec, chk_tt, chk_and, chk_inb, chk_fits, chk_make, chkn_dec, cond_dt, cond_df, cond_bt, cond_bf, cond_nt, cond_nf, cond_not, cond_and, cond_or, cond_tt, cond_ff, wrap_id, min_if', max_if', List.length_append, List.length_cons, List.length_nil, List.length_replicate, List.length_set, List.length_map, List.length_range, Int.natCast_add, Int.cast_ofNat_Int, Int.toNat_natCast, Int.add_assoc, Nat.zero_add, Int.zero_add, List.append_assoc, List.cons_append, List.nil_append, rowD_mid]
      simp only [List.length_append, List.length_cons, List.length_nil, List.length_replicate, List.length_set, List.length_map, List.length_range, Int.natCast_add, Int.cast_ofNat_Int, Int.toNat_natCast, Int.add_assoc, Nat.zero_add, Int.zero_add, List.append_assoc, List.cons_append, List.nil_append] at this ⊢
      exact this
    · simp only [rankS, beq_f hs, cond_false] at this ⊢
      simp (disch := omega) only [lt_eq, chk_dec, chk_tt, chk_and, chk_inb, chk_fits, chk_make, chkn_dec, cond_dt, cond_df, cond_bt, cond_bf, cond_nt, cond_nf, cond_not, cond_and, cond_or, cond_tt, cond_ff, wrap_id, min_if', max_if', List.length_append, List.length_cons, List.length_nil, List.length_replicate, List.length_set, List.length_map, List.length_range, Int.natCast_add, Int.cast_ofNat_Int, Int.toNat_natCast, Int.add_assoc, Nat.zero_add, Int.zero_add, List.append_assoc, List.cons_append, List.nil_append, rowD_mid]
      simp only [List.length_append, List.length_cons, List.length_nil, List.length_replicate, List.length_set, List.length_map, List.length_range, Int.natCast_add, Int.cast_ofNat_Int, Int.toNat_natCast, Int.add_assoc, Nat.zero_add, Int.zero_add, List.append_assoc, List.cons_append, List.nil_append] at this ⊢
      exact this
theorem rfL5 (hm : 1000 < m) (k0 : A18_0 → Option (List Un)) (cash at_ fee rc room kd rk : Int) (ob : List Dat) : ∀ (k n : Nat) (r left pri : Int) (c pays : List Dat), k < n → r + k = 8 → 0 ≤ r → claimsG c = true → 0 ≤ left → left ≤ 1152921504606846976 → (kd = 4 → left ≤ pri ∧ pri ≤ 1152921504606846976) → (ob ++ pays).length + 1000 * k ≤ 68719476736 →
    L18_5 m k0 n (cash, at_, (ob.length : Int), left, st, ns, at_, r, fee, rc, pri, room, z1, z2, z3, z4, ob ++ pays, kd, rk, c, zl) = L18_8 m k0 m (cash, st, ns, at_, (ob.length : Int), ((pays ++ (rankV at_ kd k r left c).2.1).length : Int), ((pays ++ (rankV at_ kd k r left c).2.1).length : Int), 0, fee, rc, (if kd = 4 then pri - (rankV at_ kd k r left c).2.2 else pri), room, z1, z2, z3, z4, ob ++ (pays ++ (rankV at_ kd k r left c).2.1), (rankV at_ kd k r left c).1, zl) := by
  intro k
  induction k with
  | zero =>
    intro n r left pri c pays hn hr h0 hc l0 l1 hp ho
    obtain ⟨n, rfl⟩ := one_more n (by omega)
    rw [L18_5_succ]; unfold L18_5s; dsimp only
    simp only [rankV, Int.sub_zero, List.append_nil, Int.toNat_natCast, List.length_append]
    rw [cond_df (by omega), chk_t (by simp) rfl, ite_self]
    rw [show ob.length + pays.length - ob.length = pays.length by omega]
  | succ k ih =>
    intro n r left pri c pays hn hr h0 hc l0 l1 hp ho
    obtain ⟨n, rfl⟩ := one_more n (by omega)
    rw [L18_5_succ]; unfold L18_5s; dsimp only
    rw [cond_dt (by omega)]
    obtain ⟨q1, q2, q3⟩ := sharesV_ok (rankS r) (j := 1) (.inl rfl) left hc
    obtain ⟨_, _, w0, w1⟩ := wantV_ok (rankS r) (j := 1) (.inl rfl) hc
    obtain ⟨g1, g2⟩ := give_ok (rankS r) (j := 1) (.inl rfl) left hc
    have hcl := (claimsG_at hc).1
    have hpl := payAll_len at_ kd (sharesV (rankS r) 1 left c) 0
    have hmem := shares_mem (rankS r) (j := 1) (.inl rfl) left hc
    have e6 := rfL6 m st zl ns z1 z2 z3 z4 k0 (L18_5 m k0 n) cash at_ left r fee rc pri room kd rk ob (ob ++ pays) c [] m [] (by omega) (by simpa using hcl) rfl
    simp only [List.nil_append, List.length_nil, Int.cast_ofNat_Int] at e6
    refine e6.trans ?_
    rw [chk_dec ⟨by omega, by simp; omega⟩]
    have e7 := rfL7 m st zl ns z1 z2 z3 z4 k0 (L18_5 m k0 n) cash at_ r fee rc room kd rk ⟨by omega, by omega⟩ ob (sharesV (rankS r) 1 left c) c [] [] m left pri (ob ++ pays) (by omega) (fitG_shares (rankS r) (.inl rfl) left hc) rfl (by simpa using hcl) q1 (by omega) hmem (by omega) l1 (fun h => by have := hp h; omega)
    simp only [List.nil_append, List.length_nil, Int.cast_ofNat_Int] at e7
    refine e7.trans ?_
    have := ih n (r + 1) (left - (sharesV (rankS r) 1 left c).sum) (if kd = 4 then pri - (sharesV (rankS r) 1 left c).sum else pri) _ (pays ++ payAll at_ kd 0 (sharesV (rankS r) 1 left c)) (by omega) (by omega) (by omega) g1 (by omega) (by omega) (fun h => by rw [if_pos h]; have := hp h; omega) (by simp at ho ⊢; omega)
    simp only [rankV]
    rw [← List.append_assoc, List.append_assoc ob] at this
    rw [List.append_assoc ob]
    refine this.trans ?_
    by_cases h : kd = 4
    · simp only [if_pos h, List.append_assoc, Int.sub_sub]
    · simp only [if_neg h, List.append_assoc]
theorem rfStep (hm : 10000 < m) (k : A18_0 → Option (List Un)) (at_ : Int) (x : RunN) (c out : List Dat) (d : Dat) (hx : runG x = true) (hc : claimsG c = true) (ha : 0 ≤ at_ ∧ at_ < 1000000) (ho : out.length ≤ 17179869184) (hlt : at_ < ns) (hst : at_.toNat < st.length) (hns : ns = (st.length : Int)) (hd : rowD st at_.toNat = d) :
    L18_0s m k (x.cash, st, ns, at_, x.fee, x.recoup, x.principal, x.room, z1, z2, z3, z4, out, c, zl) = k ((stepV at_ (d.i 0) (d.i 1) x c).1.cash, st, ns, at_ + 1, (stepV at_ (d.i 0) (d.i 1) x c).1.fee, (stepV at_ (d.i 0) (d.i 1) x c).1.recoup, (stepV at_ (d.i 0) (d.i 1) x c).1.principal, (stepV at_ (d.i 0) (d.i 1) x c).1.room, z1, z2, z3, z4, out ++ (stepV at_ (d.i 0) (d.i 1) x c).2.2, (stepV at_ (d.i 0) (d.i 1) x c).2.1, zl) := by
  have hx' := runG_at hx
  have hcl := (claimsG_at hc).1
  have w2 := fun sel j hj => (wantV_ok (c := c) sel (j := j) hj hc).2.2
  have s2 := fun sel j hj n => (sharesV_ok (c := c) sel (j := j) hj n hc).2.1
  have s1 := fun sel j hj n => (sharesV_ok (c := c) sel (j := j) hj n hc).1
  have one : ∀ (z fee rc pri room : Int), 0 ≤ z → z ≤ x.cash → (chk (decide (out.length ≤ 68719476736)) (lt (if 0 < z then out ++ [.r [.n at_, .n (d.i 0), .n (-1), .n z]] else out : List Dat) fun l3 => chk (true && (decide (0 ≤ (out.length : Int)) && decide (out.length ≤ l3.length ∧ l3.length ≤ l3.length))) (L18_8 m k m (x.cash, st, ns, at_, (out.length : Int), ((l3.length - out.length : Nat) : Int), ((l3.length - out.length : Nat) : Int), 0, fee, rc, pri, room, z1, z2, z3, z4, l3, c, zl)))) = k (x.cash - z, st, ns, at_ + 1, fee, rc, pri, room, z1, z2, z3, z4, out ++ payOne at_ (d.i 0) z, c, zl) := by
    intro z fee rc pri room h0 h1
    have e : (if 0 < z then out ++ [.r [.n at_, .n (d.i 0), .n (-1), .n z]] else out : List Dat) = out ++ payOne at_ (d.i 0) z := by unfold payOne; split <;> simp
    have hl := payOne_len at_ (d.i 0) z
    rw [chk_dec (by omega), lt_eq, e, chk_t (by simp) rfl]
    obtain ⟨p1, p2⟩ := payOne_sum at_ (d.i 0) z h0
    have := rfL8 m st zl ns z1 z2 z3 z4 k at_ fee rc pri room ⟨by omega, by omega⟩ out c (payOne at_ (d.i 0) z) [] m x.cash (by omega) (by simp; omega) p2 (by omega) (by omega)
    simp only [List.nil_append, List.length_nil, Int.cast_ofNat_Int, p1] at this
    rw [show (out ++ payOne at_ (d.i 0) z).length - out.length = (payOne at_ (d.i 0) z).length by simp]
    exact this
  have all : ∀ (xs : List Int) (fee rc pri room : Int) (c' : List Dat), (∀ v ∈ xs, 0 ≤ v) → xs.length ≤ 1000 → xs.sum ≤ x.cash → L18_8 m k m (x.cash, st, ns, at_, (out.length : Int), ((payAll at_ (d.i 0) 0 xs).length : Int), ((payAll at_ (d.i 0) 0 xs).length : Int), 0, fee, rc, pri, room, z1, z2, z3, z4, out ++ payAll at_ (d.i 0) 0 xs, c', zl) = k (x.cash - xs.sum, st, ns, at_ + 1, fee, rc, pri, room, z1, z2, z3, z4, out ++ payAll at_ (d.i 0) 0 xs, c', zl) := by
    intro xs fee rc pri room c' h0 hl h1
    have hpl := payAll_len at_ (d.i 0) xs 0
    have hps := payAll_sum at_ (d.i 0) xs 0 h0
    have := rfL8 m st zl ns z1 z2 z3 z4 k at_ fee rc pri room ⟨by omega, by omega⟩ out c' (payAll at_ (d.i 0) 0 xs) [] m x.cash (by omega) (by simp; omega) (payAll_mem at_ (d.i 0) xs 0) (by omega) (by omega)
    simp only [List.nil_append, List.length_nil, Int.cast_ofNat_Int, hps] at this
    exact this
  unfold L18_0s stepV
  dsimp only
  rw [cond_dt hlt, chk_inb (by omega) (by omega), chk_dec hst, lt_eq, hd]
  simp only [lt_eq, min_if']
  by_cases k1 : d.i 0 = 1
  · rw [cond_bt k1, if_pos k1, Int.min_comm x.cash]
    refine (one (min x.fee x.cash) _ _ _ _ (by omega) (by omega)).trans ?_
    rw [wrap_id (by omega) (by omega)]
  rw [cond_bf k1, if_neg k1]
  by_cases k2 : d.i 0 = 2
  · rw [cond_bt k2, if_pos k2, Int.min_comm x.cash]
    refine (one (min x.recoup x.cash) _ _ _ _ (by omega) (by omega)).trans ?_
    rw [wrap_id (by omega) (by omega)]
  rw [cond_bf k2, if_neg k2]
  by_cases k6 : d.i 0 = 6
  · rw [cond_bt k6, if_pos k6, Int.min_comm x.cash]
    refine (one (min x.room x.cash) _ _ _ _ (by omega) (by omega)).trans ?_
    rw [wrap_id (by omega) (by omega)]
  rw [cond_bf k6, if_neg k6]
  by_cases k3 : d.i 0 = 3
  · rw [cond_bt k3, if_pos k3]
    have e1 := rfL1 m st zl ns z1 z2 z3 z4 k x.cash at_ 0 0 x.fee x.recoup x.principal x.room (d.i 0) (d.i 1) out out c [] m [] (by omega) (by simpa using hcl) rfl
    simp only [List.nil_append, List.length_nil, Int.cast_ofNat_Int] at e1
    refine e1.trans ?_
    rw [chk_dec ⟨by omega, by simp; omega⟩]
    have q1 := s1 (rankS (d.i 1)) 2 (.inr rfl) x.cash
    have q2 := s2 (rankS (d.i 1)) 2 (.inr rfl) x.cash
    have q3 := w2 (rankS (d.i 1)) 2 (.inr rfl)
    have e2 := rfL2 m st zl ns z1 z2 z3 z4 k x.cash at_ x.fee x.recoup x.room (d.i 0) (d.i 1) out (sharesV (rankS (d.i 1)) 2 x.cash c) c [] [] m x.principal [] (by omega) (fitG_shares (rankS (d.i 1)) (.inr rfl) x.cash hc) rfl (by simpa using hcl) q1 (by simp; omega)
    simp only [List.nil_append, List.length_nil, Int.cast_ofNat_Int, List.append_nil] at e2
    refine e2.trans (all _ _ _ _ _ _ (shares_mem _ (.inr rfl) _ hc) (by omega) (by omega))
  rw [cond_bf k3, if_neg k3]
  have rk : ∀ left : Int, 0 ≤ left → left ≤ x.cash → (d.i 0 = 4 → left ≤ x.principal) → L18_5 m k m (x.cash, at_, (out.length : Int), left, st, ns, at_, 0, x.fee, x.recoup, x.principal, x.room, z1, z2, z3, z4, out, d.i 0, d.i 1, c, zl) = k (x.cash - (rankV at_ (d.i 0) 8 0 left c).2.2, st, ns, at_ + 1, x.fee, x.recoup, (if d.i 0 = 4 then x.principal - (rankV at_ (d.i 0) 8 0 left c).2.2 else x.principal), x.room, z1, z2, z3, z4, out ++ (rankV at_ (d.i 0) 8 0 left c).2.1, (rankV at_ (d.i 0) 8 0 left c).1, zl) := by
    intro left h0 h1 h2
    have e5 := rfL5 m st zl ns z1 z2 z3 z4 (by omega) k x.cash at_ x.fee x.recoup x.room (d.i 0) (d.i 1) out 8 m 0 left x.principal c [] (by omega) (by omega) (by omega) hc h0 (by omega) (fun h => ⟨h2 h, by omega⟩) (by simp; omega)
    simp only [List.nil_append, List.append_nil] at e5
    refine e5.trans ?_
    obtain ⟨r1, r2, r3, r4, r5⟩ := rankV_ok at_ (d.i 0) 8 0 left c hc
    obtain ⟨r6, r7⟩ := rankV_sum at_ (d.i 0) 8 0 left c hc
    generalize rankV at_ (d.i 0) 8 0 left c = y at *
    have := rfL8 m st zl ns z1 z2 z3 z4 k at_ x.fee x.recoup (if d.i 0 = 4 then x.principal - y.2.2 else x.principal) x.room ⟨by omega, by omega⟩ out y.1 y.2.1 [] m x.cash (by omega) (by simp; omega) r7 (by omega) (by omega)
    simp only [List.nil_append, List.length_nil, Int.cast_ofNat_Int, r6] at this
    exact this
  by_cases k5 : d.i 0 = 5
  · rw [cond_bt k5, if_neg (show ¬ d.i 0 = 4 by omega), if_pos k5]
    have e1 := rfL3 m st zl ns z1 z2 z3 z4 k x.cash at_ 0 0 x.fee x.recoup x.principal x.room (d.i 0) (d.i 1) out out c [] m [] (by omega) (by simpa using hcl) rfl
    simp only [List.nil_append, List.length_nil, Int.cast_ofNat_Int] at e1
    refine e1.trans ?_
    rw [chk_dec ⟨by omega, by simp; omega⟩, Int.min_comm x.cash]
    have q1 := s1 (fun _ => true) 1 (.inl rfl) (min x.principal x.cash)
    have q2 := s2 (fun _ => true) 1 (.inl rfl) (min x.principal x.cash)
    have q3 := w2 (fun _ => true) 1 (.inl rfl)
    have e2 := rfL4 m st zl ns z1 z2 z3 z4 k x.cash at_ x.fee x.recoup x.room (d.i 0) (d.i 1) out (sharesV (fun _ => true) 1 (min x.principal x.cash) c) c [] [] m x.principal [] (by omega) (fitG_shares (fun _ => true) (.inl rfl) _ hc) rfl (by simpa using hcl) q1 (by simp; omega) (shares_mem _ (.inl rfl) _ hc) (by omega) (by omega)
    simp only [List.nil_append, List.length_nil, Int.cast_ofNat_Int, List.append_nil] at e2
    exact e2.trans (all _ _ _ _ _ _ (shares_mem _ (.inl rfl) _ hc) (by omega) (by omega))
  rw [cond_bf k5]
  by_cases k4 : d.i 0 = 4
  · rw [cond_bt k4, cond_bt k4, cond_bt k4, if_pos k4, Int.min_comm x.cash]
    refine (rk _ (by omega) (by omega) (fun _ => by omega)).trans ?_
    simp only [if_pos k4]
  rw [cond_bf k4, if_neg k4, if_neg k5]
  by_cases k7 : d.i 0 = 7
  · rw [cond_bt k7, cond_bf k4, if_pos k7]
    refine (rk _ (by omega) (by omega) (fun h => absurd h k4)).trans ?_
    simp only [if_neg k4]
  rw [cond_bf k7, if_neg k7]
  rw [chk_t (by simp) rfl, Nat.sub_self]
  have := rfL8 m st zl ns z1 z2 z3 z4 k at_ x.fee x.recoup x.principal x.room ⟨by omega, by omega⟩ out c [] [] m x.cash (by simp; omega) (by simp) (by simp) (by simp [sumI]; omega) (by omega)
  simp only [List.append_nil, List.length_nil, Int.cast_ofNat_Int, sumI, Int.sub_zero] at this
  simp only [List.append_nil]
  exact this
theorem rfL0 (hm : 10000 < m) : ∀ (rest pre : List Dat) (n : Nat) (y : RunN) (c out : List Dat), rest.length < n → st = pre ++ rest → ns = (st.length : Int) → st.length ≤ 1000000 → runG y = true → claimsG c = true → out.length ≤ 8000 * pre.length →
    L18_0 m n (y.cash, st, ns, (pre.length : Int), y.fee, y.recoup, y.principal, y.room, z1, z2, z3, z4, out, c, zl) = some [.i (runV pre.length rest y c).1.cash, .i (runV pre.length rest y c).1.fee, .i (runV pre.length rest y c).1.recoup, .i (runV pre.length rest y c).1.principal, .i (runV pre.length rest y c).1.room, .d (out ++ (runV pre.length rest y c).2.2), .d (runV pre.length rest y c).2.1] := by
  intro rest
  induction rest with
  | nil =>
    intro pre n y c out hn hs hns hl hy hc ho
    obtain ⟨n, rfl⟩ := one_more n (by simp at hn; omega)
    simp only [List.append_nil] at hs
    rw [L18_0_succ]
    unfold L18_0s
    dsimp only
    rw [cond_df (by rw [hns, hs]; omega)]
    simp [runV]
  | cons x rest ih =>
    intro pre n y c out hn hs hns hl hy hc ho
    obtain ⟨n, rfl⟩ := one_more n (by simp at hn; omega)
    have hsl : st.length = pre.length + (rest.length + 1) := by rw [hs]; simp
    obtain ⟨s1, s2, s3, s4⟩ := stepV_ok pre.length (x.i 0) (x.i 1) hy hc
    rw [L18_0_succ]
    rw [rfStep m st zl ns z1 z2 z3 z4 hm (L18_0 m n) pre.length y c out x hy hc ⟨by omega, by omega⟩ (by omega) (by omega) (by omega) hns (by rw [hs, Int.toNat_natCast]; exact rowD_mid _ _ _)]
    have := ih (pre ++ [x]) n _ _ (out ++ (stepV pre.length (x.i 0) (x.i 1) y c).2.2) (by simp at hn; omega) (by simp [hs]) hns hl s1 s2 (by simp; omega)
    simp only [runV]
    simp only [List.length_append, List.length_cons, List.length_nil, Nat.zero_add, Int.natCast_add, Int.cast_ofNat_Int, List.append_assoc] at this
    exact this
end
noncomputable def f18 : Int × List Dat × Int × Int × Int × Int × List Dat → Bool × List Un := fun (a0, a1, a2, a3, a4, a5, a6) => (decide (a1.length ≤ 1000000) && (runG ⟨a0, a2, a3, a4, a5⟩ && claimsG a6), [.i ((runV 0 a1 ⟨a0, a2, a3, a4, a5⟩ a6).1.cash), .i ((runV 0 a1 ⟨a0, a2, a3, a4, a5⟩ a6).1.fee), .i ((runV 0 a1 ⟨a0, a2, a3, a4, a5⟩ a6).1.recoup), .i ((runV 0 a1 ⟨a0, a2, a3, a4, a5⟩ a6).1.principal), .i ((runV 0 a1 ⟨a0, a2, a3, a4, a5⟩ a6).1.room), .d ((runV 0 a1 ⟨a0, a2, a3, a4, a5⟩ a6).2.2), .d ((runV 0 a1 ⟨a0, a2, a3, a4, a5⟩ a6).2.1)])
theorem spec18 (a0 : Int) (a1 : List Dat) (a2 : Int) (a3 : Int) (a4 : Int) (a5 : Int) (a6 : List Dat) (hc : (decide (a1.length ≤ 1000000) && (runG ⟨a0, a2, a3, a4, a5⟩ && claimsG a6)) = true) : ∃ m, t18 m (a0, a1, a2, a3, a4, a5, a6) = some ([.i ((runV 0 a1 ⟨a0, a2, a3, a4, a5⟩ a6).1.cash), .i ((runV 0 a1 ⟨a0, a2, a3, a4, a5⟩ a6).1.fee), .i ((runV 0 a1 ⟨a0, a2, a3, a4, a5⟩ a6).1.recoup), .i ((runV 0 a1 ⟨a0, a2, a3, a4, a5⟩ a6).1.principal), .i ((runV 0 a1 ⟨a0, a2, a3, a4, a5⟩ a6).1.room), .d ((runV 0 a1 ⟨a0, a2, a3, a4, a5⟩ a6).2.2), .d ((runV 0 a1 ⟨a0, a2, a3, a4, a5⟩ a6).2.1)]) := by
  simp only [Bool.and_eq_true, decide_eq_true_eq] at hc
  obtain ⟨h1, h2, h3⟩ := hc
  have hl := (claimsG_at h3).1
  refine ⟨a1.length + 10001, ?_⟩
  generalize hM : a1.length + 10001 = M
  unfold t18
  dsimp only
  rw [chk_fits (by omega) (by omega)]
  have := rfL0 M a1 [] a1.length 0 0 0 0 (by omega) a1 [] M ⟨a0, a2, a3, a4, a5⟩ a6 [] (by omega) rfl rfl h1 h2 h3 (by simp)
  simp only [List.length_nil, Int.cast_ofNat_Int, List.nil_append] at this
  exact this
theorem right18 : ER 18 (mkE N18.en N18.ex f18) := right_of KN_none T26.right (fun m => [S18_0 (L18_0 m m)]) (t := t18) (by kernel_rfl) (fun m => (all1 (H18_0 m m) all0)) (fun m a => by kernel_rfl) fun (a0, a1, a2, a3, a4, a5, a6) hc => spec18 a0 a1 a2 a3 a4 a5 a6 hc
noncomputable def T18 : Tb Try.prog LQ TE := T26.add 18 _ right18

end Go.Proofs.Ytncgbpajngakpaa
