/- What is left; claims; laws of shares. Conditions: none. -/
import Derived.Test.YtibenahgbdhegaaShareRef
namespace Go.Proofs.Ytibenahgbdhegaa
open Go Go.Proofs.Ytibenahgbdhegaa.Ev
set_option linter.unusedVariables false
set_option linter.unusedSimpArgs false
set_option linter.unnecessarySimpa false
theorem and_mask2 {x : Int} (h1 : -9223372036854775808 ≤ x) (h2 : x < 9223372036854775808) : ((BitVec.ofInt 64 x &&& BitVec.ofInt 64 4294967295).toNat : Int) = x % 4294967296 := by
  have e : (BitVec.ofInt 64 x &&& BitVec.ofInt 64 4294967295).toNat = (x % 18446744073709551616).toNat % 4294967296 := by
    rw [BitVec.toNat_and]
    have a : (BitVec.ofInt 64 x).toNat = (x % 18446744073709551616).toNat := by
      rw [BitVec.toNat_ofInt]; rfl
    have b : (BitVec.ofInt 64 4294967295).toNat = 2 ^ 32 - 1 := by decide
    rw [a, b, Nat.and_two_pow_sub_one_eq_mod]
  rw [e]; omega
/-- What is left of an amount. -/
def leftV (n : Int) (l : List Int) : Int := max (n - l.sum) 0
/-- Claims of numbers: from 0 on. -/
def claimsV (l : List Int) : List Int := (l.take 12).map fun x => within x 0 1099511627776
theorem claimsV_len (l : List Int) : (claimsV l).length = min 12 l.length := by simp [claimsV]
theorem claimsV_mem {l : List Int} : ∀ x ∈ claimsV l, 0 ≤ x ∧ x ≤ 1099511627776 := by
  intro x hx
  obtain ⟨y, _, rfl⟩ := List.mem_map.1 hx
  exact within_le (by omega)


/-! cascade/share.Left -/
def N12 : Pn := ⟨[.int .i64, .ints .i64], []⟩
def X12 : Pn := ⟨[.int .i64], []⟩
def L12_0s (m : Nat) (k : List Un → Option (List Un)) : List Un → Option (List Un)
  | [.i a0, .i a1, .l a2, .i a3, .i a4] =>
    bif decide (a4 < a3) then
     bif decide ((0 : Int) ≤ a4 ∧ a4 < (a2.length : Int)) then
      bif decide (a4.toNat < a2.length) then
       k [.i (IntKind.i64.wrap (a0 - ((a2.getD a4.toNat 0).fdiv (2 ^ (min (32 : Int).toNat 64))))), .i (IntKind.i64.wrap (a1 - (IntKind.i64.wrap ((BitVec.ofInt 64 (a2.getD a4.toNat 0) &&& BitVec.ofInt 64 4294967295).toNat)))), .l a2, .i a3, .i (IntKind.i64.wrap (a4 + 1))]
      else
       none
     else
      none
    else
     lt ((IntKind.i64.wrap (a0 + (a1.fdiv (2 ^ (min (32 : Int).toNat 64))))) : Int) fun x9 =>
     bif decide (x9 < 0) then
      some [.i 0]
     else
      bif (decide (x9 ≥ 2147483648)) then
       some [.i 0]
      else
       some [.i (IntKind.i64.wrap ((BitVec.ofInt 64 (IntKind.i64.wrap (x9 * 2 ^ (min (32 : Int).toNat 64))) ||| BitVec.ofInt 64 (IntKind.i64.wrap ((BitVec.ofInt 64 a1 &&& BitVec.ofInt 64 4294967295).toNat))).toNat))]
  | _ => none
def L12_0 (m : Nat) : Nat → List Un → Option (List Un) := iterS (L12_0s m)
theorem L12_0_succ (m : Nat) (n : Nat) : L12_0 m (n + 1) = L12_0s m (L12_0 m n) := rfl
def P12_0 : Pn := ⟨[.any, .any, .any, .any, .any, .int .i64, .int .i64, .any, .any, .any, .any, .any, .any, .ints .i64, .int .i64, .int .i64, .any, .any, .any, .any, .any, .any, .any, .any, .any, .any, .any, .any, .any, .any, .any, .any, .any, .any, .any, .any, .any, .any, .any, .any, .any, .any, .any, .any], []⟩
def S12_0 (F : List Un → Option (List Un)) : StopS := ⟨[.lp [0, 1, 0, 1, 1], .blk 0, .code [1, 1, 1]], P12_0, F⟩
def t12 (m : Nat) (a0 : Int) (a1 : List Int) : Option (List Un) :=
  L12_0 m m [.i (a0.fdiv (2 ^ (min (32 : Int).toNat 64))), .i (IntKind.i64.wrap ((BitVec.ofInt 64 a0 &&& BitVec.ofInt 64 4294967295).toNat)), .l a1, .i (a1.length : Int), .i 0]
def T12 : TabS := tabS TE []
theorem T12_right : TabRight Try.prog [] (ofTab TE) T12 := tabS_right all0
theorem G12_0 (m : Nat) (k : List Un → Option (List Un)) (a0 : Int) (a1 : Int) (a2 : List Int) (a3 : Int) (a4 : Int) : roadFromS Try.prog [] T12 KN (bodyOf (fnOf Try.prog 12)) [0, 1, 0, 1, 1] [.blk 0, .code [1, 1, 1]] P12_0 [.i a0, .i a1, .l a2, .i a3, .i a4] (kksS Try.prog (fnOf Try.prog 12).results.toList X12 0 [S12_0 k]) = L12_0s m k [.i a0, .i a1, .l a2, .i a3, .i a4] := by kernel_rfl
theorem Y12_0 {m : Nat} {k : List Un → Option (List Un)} {xs : List Un} {v : List Un} (h : L12_0s m k xs = some v) : ∃ a0 a1 a2 a3 a4, xs = [.i a0, .i a1, .l a2, .i a3, .i a4] := by
  unfold L12_0s at h
  split at h
  · exact ⟨_, _, _, _, _, rfl⟩
  · cases h
theorem H12_0 (m : Nat) : ∀ n, HoldsS Try.prog [] (ofTab TE) (fnOf Try.prog 12).results.toList X12 0 (bodyOf (fnOf Try.prog 12)) (S12_0 (L12_0 m n)) :=
  StopS.iter KN_none T12_right (mk := S12_0) (Fs := L12_0s m) (W := fun k => [S12_0 k]) (p := [0, 1, 0, 1, 1]) (rest := [.blk 0, .code [1, 1, 1]]) (pat := P12_0)
    (fun _ => rfl) (fun _ => rfl) (fun _ => rfl) (by kernel_rfl) (by kernel_rfl)
    (fun k h => (all1 h all0))
    (fun k xs v h => by
      obtain ⟨a0, a1, a2, a3, a4, rfl⟩ := Y12_0 h
      exact (G12_0 m k a0 a1 a2 a3 a4).trans h)
theorem G12 (m : Nat) (a0 : Int) (a1 : List Int) : roadInS Try.prog [] T12 KN (fnOf Try.prog 12) N12 [.i a0, .l a1] (kksS Try.prog (fnOf Try.prog 12).results.toList X12 0 [S12_0 (L12_0 m m)]) = t12 m a0 a1 := by kernel_rfl
theorem tells12 (m : Nat) (a0 : Int) (a1 : List Int) {ys : List Un} (h : t12 m a0 a1 = some ys) : TellsS Try.prog [] (ofTab TE) 12 N12 X12 [.i a0, .l a1] ys :=
  tells_road KN_none T12_right (W := [S12_0 (L12_0 m m)]) (by kernel_rfl) (by kernel_rfl) (by kernel_rfl)
    (all1 (H12_0 m m) all0) ((G12 m a0 a1).trans h)

theorem leftL12 (m : Nat) (a : Int) (h1 : 0 ≤ a) (h2 : a ≤ 9223372036854775807) : ∀ (rest pre : List Int) (hi lo : Int) (n : Nat), rest.length < n → (pre ++ rest).length < 1000000 → (∀ x ∈ rest, 0 ≤ x ∧ x ≤ 1152921504606846976) → (∀ x ∈ pre, 0 ≤ x) →
    hi * 4294967296 + lo = a - pre.sum → lo ≤ 4294967295 → -(4294967296 * (pre.length : Int)) ≤ lo → hi ≤ 2147483647 → -(268435457 * (pre.length : Int)) ≤ hi →
    L12_0 m n [.i hi, .i lo, .l (pre ++ rest), .i ((pre ++ rest).length : Int), .i (pre.length : Int)] = some [.i (leftV a (pre ++ rest))] := by
  intro rest
  induction rest with
  | nil =>
    intro pre hi lo n hn h3 hb hp e l1 l2 l3 l4
    obtain ⟨n, rfl⟩ := one_more n (by simp at hn; omega)
    rw [L12_0_succ]; unfold L12_0s; dsimp only
    simp only [List.append_nil] at h3 ⊢
    have hs := sum_nonneg pre hp
    rw [show decide ((pre.length : Int) < (pre.length : Int)) = false from decide_eq_false (by omega), cond_false]
    rw [fd32, and_mask2 (by omega) (by omega), wr (n := lo % 4294967296) (by omega) (by omega)]
    unfold leftV
    generalize pre.sum = S at *
    have hd : hi + lo / 4294967296 = (a - S) / 4294967296 := by omega
    have hm : lo % 4294967296 = (a - S) % 4294967296 := by omega
    rw [hm, wr (n := hi + lo / 4294967296) (by omega) (by omega), hd]
    repeat' (first
      | with_reducible rfl
      | (with_reducible refine lt_i ?_; intro x hx; (try simp (disch := omega) only [wr, if_pos, if_neg, Int.sub_zero, Int.zero_add, getD_mid, List.length_append, List.length_cons, List.length_nil, List.length_replicate, List.length_take, List.length_drop, Int.natCast_add, Int.toNat_natCast] at hx); (try simp only [min_if', max_if'] at hx); subst hx)
      | (with_reducible refine bif_t ?_ ?_; · ((try simp (disch := omega) only [wr, if_pos, if_neg, getD_mid, List.length_append, List.length_cons, List.length_nil, List.length_replicate, List.length_take, List.length_drop, Int.natCast_add, Int.toNat_natCast]); (first | done | ((try simp only [min_if', max_if']); (first | done | ((try simp only [Bool.true_and, Bool.and_true, Bool.and_eq_true, Bool.and_eq_false_iff, Bool.or_eq_true, Bool.or_eq_false_iff, true_and, and_true, decide_eq_true_eq, decide_eq_false_iff_not, beq_iff_eq, beq_eq_false_iff_ne, bne_iff_ne, bne_eq_false_iff_eq, ne_eq, Bool.not_eq_true', Bool.not_eq_false', Decidable.not_not]) <;> omega))))))
      | (with_reducible refine bif_f ?_ ?_; · ((try simp (disch := omega) only [wr, if_pos, if_neg, getD_mid, List.length_append, List.length_cons, List.length_nil, List.length_replicate, List.length_take, List.length_drop, Int.natCast_add, Int.toNat_natCast]); (first | done | ((try simp only [min_if', max_if']); (first | done | ((try simp only [Bool.true_and, Bool.and_true, Bool.and_eq_true, Bool.and_eq_false_iff, Bool.or_eq_true, Bool.or_eq_false_iff, true_and, and_true, decide_eq_true_eq, decide_eq_false_iff_not, beq_iff_eq, beq_eq_false_iff_ne, bne_iff_ne, bne_eq_false_iff_eq, ne_eq, Bool.not_eq_true', Bool.not_eq_false', Decidable.not_not]) <;> omega))))))
      | (with_reducible refine bif_s ?_ ?_ <;> (intro hc; (try simp (disch := omega) only [wr, if_pos, if_neg, getD_mid, List.length_append, List.length_cons, List.length_nil, List.length_replicate, List.length_take, List.length_drop, Int.natCast_add, Int.toNat_natCast] at hc); (try simp only [min_if', max_if'] at hc); (try simp only [Bool.true_and, Bool.and_true, Bool.and_eq_true, Bool.and_eq_false_iff, Bool.or_eq_true, Bool.or_eq_false_iff, true_and, and_true, decide_eq_true_eq, decide_eq_false_iff_not, beq_iff_eq, beq_eq_false_iff_ne, bne_iff_ne, bne_eq_false_iff_eq, ne_eq, Bool.not_eq_true', Bool.not_eq_false', Decidable.not_not] at hc)))
      | fail "stuck")
    · rw [show max (a - S) 0 = 0 by omega]
    · rw [show (2 : Int) ^ (min (32 : Int).toNat 64) = 2 ^ 32 by decide, wr (n := (a - S) / 4294967296 * 2 ^ 32) (by omega) (by omega), or_shift (by omega) (by omega) (by omega) (by omega), wr (by omega) (by omega)]
      rw [show (a - S) / 4294967296 * 2 ^ 32 + (a - S) % 4294967296 = max (a - S) 0 by omega]
  | cons x rest ih =>
    intro pre hi lo n hn h3 hb hp e l1 l2 l3 l4
    obtain ⟨n, rfl⟩ := one_more n (by simp at hn; omega)
    simp only [List.length_append, List.length_cons] at h3 hn
    have hx := hb x (by simp)
    rw [L12_0_succ]; unfold L12_0s; dsimp only
    have := ih (pre ++ [x]) (hi - x / 4294967296) (lo - x % 4294967296) n (by omega) (by simp; omega) (fun y hy => hb y (by simp [hy])) (by
      intro y hy
      rcases List.mem_append.1 hy with h | h
      · exact hp y h
      · simp at h; omega) (by rw [List.sum_append, List.sum_cons, List.sum_nil]; omega) (by omega) (by simp only [List.length_append, List.length_cons, List.length_nil, Int.natCast_add]; omega) (by omega) (by simp only [List.length_append, List.length_cons, List.length_nil, Int.natCast_add]; omega)
    simp only [List.append_assoc, List.cons_append, List.nil_append, List.length_append, List.length_cons, List.length_nil, Int.natCast_add] at this
    simp only [Int.toNat_natCast, getD_mid]
    rw [fd32, and_mask2 (by omega) (by omega), wr (n := x % 4294967296) (by omega) (by omega)]
    repeat' (first
      | with_reducible rfl
      | (with_reducible refine lt_i ?_; intro x hx; (try simp (disch := omega) only [wr, if_pos, if_neg, Int.sub_zero, Int.zero_add, getD_mid, List.length_append, List.length_cons, List.length_nil, List.length_replicate, List.length_take, List.length_drop, Int.natCast_add, Int.toNat_natCast] at hx); (try simp only [min_if', max_if'] at hx); subst hx)
      | (with_reducible refine bif_t ?_ ?_; · ((try simp (disch := omega) only [wr, if_pos, if_neg, getD_mid, List.length_append, List.length_cons, List.length_nil, List.length_replicate, List.length_take, List.length_drop, Int.natCast_add, Int.toNat_natCast]); (first | done | ((try simp only [min_if', max_if']); (first | done | ((try simp only [Bool.true_and, Bool.and_true, Bool.and_eq_true, Bool.and_eq_false_iff, Bool.or_eq_true, Bool.or_eq_false_iff, true_and, and_true, decide_eq_true_eq, decide_eq_false_iff_not, beq_iff_eq, beq_eq_false_iff_ne, bne_iff_ne, bne_eq_false_iff_eq, ne_eq, Bool.not_eq_true', Bool.not_eq_false', Decidable.not_not]) <;> omega))))))
      | (with_reducible refine bif_f ?_ ?_; · ((try simp (disch := omega) only [wr, if_pos, if_neg, getD_mid, List.length_append, List.length_cons, List.length_nil, List.length_replicate, List.length_take, List.length_drop, Int.natCast_add, Int.toNat_natCast]); (first | done | ((try simp only [min_if', max_if']); (first | done | ((try simp only [Bool.true_and, Bool.and_true, Bool.and_eq_true, Bool.and_eq_false_iff, Bool.or_eq_true, Bool.or_eq_false_iff, true_and, and_true, decide_eq_true_eq, decide_eq_false_iff_not, beq_iff_eq, beq_eq_false_iff_ne, bne_iff_ne, bne_eq_false_iff_eq, ne_eq, Bool.not_eq_true', Bool.not_eq_false', Decidable.not_not]) <;> omega))))))
      | (with_reducible refine bif_s ?_ ?_ <;> (intro hc; (try simp (disch := omega) only [wr, if_pos, if_neg, getD_mid, List.length_append, List.length_cons, List.length_nil, List.length_replicate, List.length_take, List.length_drop, Int.natCast_add, Int.toNat_natCast] at hc); (try simp only [min_if', max_if'] at hc); (try simp only [Bool.true_and, Bool.and_true, Bool.and_eq_true, Bool.and_eq_false_iff, Bool.or_eq_true, Bool.or_eq_false_iff, true_and, and_true, decide_eq_true_eq, decide_eq_false_iff_not, beq_iff_eq, beq_eq_false_iff_ne, bne_iff_ne, bne_eq_false_iff_eq, ne_eq, Bool.not_eq_true', Bool.not_eq_false', Decidable.not_not] at hc)))
      | fail "stuck")
    simp (disch := omega) only [wr, getD_mid, Int.toNat_natCast, List.length_append, List.length_cons, List.length_nil, Int.natCast_add] at this ⊢
    exact this

def q12 : List Un → Option (Bool × List Un)
  | [.i a0, .l a1] => some (decide (0 ≤ a0 ∧ a0 ≤ 9223372036854775807 ∧ a1.length < 1000000) && rightV a1, [.i (leftV a0 a1)])
  | _ => none
def e12 : EntS := ⟨N12, X12, q12⟩

theorem spec12 (a0 : Int) (a1 : List Int) (hc : (decide (0 ≤ a0 ∧ a0 ≤ 9223372036854775807 ∧ a1.length < 1000000) && rightV a1) = true) : ∃ m, t12 m a0 a1 = some [.i (leftV a0 a1)] := by
  simp only [Bool.and_eq_true, decide_eq_true_eq, rightV_mem] at hc
  obtain ⟨⟨h1, h2, h3⟩, hb⟩ := hc
  refine ⟨a1.length + 1, ?_⟩
  unfold t12
  rw [fd32, and_mask2 (by omega) (by omega), wr (n := a0 % 4294967296) (by omega) (by omega)]
  exact leftL12 _ a0 h1 h2 a1 [] _ _ _ (by omega) (by simpa using h3) hb (by simp) (by simp; omega) (by omega) (by simp; omega) (by omega) (by simp; omega)

theorem right12 : EntSRight Try.prog [] (ofTab TE) 12 e12 := by
  intro us ys h
  replace h : q12 us = some (true, ys) := h
  unfold q12 at h
  split at h
  · rename_i a0 a1
    simp only [Option.some.injEq, Prod.mk.injEq] at h
    obtain ⟨hc, rfl⟩ := h
    obtain ⟨m, hm⟩ := spec12 a0 a1 hc
    exact tells12 m a0 a1 hm
  · cases h


/-! cascade/cascadelaw4.claims -/
def N17 : Pn := ⟨[.ints .i64], []⟩
def X17 : Pn := ⟨[.buf 0 1], [.ints .i64]⟩
def L17_0s (m : Nat) (k : List Un → Option (List Un)) : List Un → Option (List Un)
  | [.l a0, .i a1, .l a2] =>
    bif (decide (a1 < (a0.length : Int))) then
     bif decide (a1 < 12) then
      bif decide ((0 : Int) ≤ a1 ∧ a1 < (a0.length : Int)) then
       bif decide (a1.toNat < a0.length) then
        bif decide ((a2.length + 1) < 1099511627776 ∧ (a2.length + 1) * 8 < 35184372088832) then
         k [.l a0, .i (IntKind.i64.wrap (a1 + 1)), .l (a2 ++ ([(within (a0.getD a1.toNat 0) 0 1099511627776)]))]
        else
         none
       else
        none
      else
       none
     else
      some [.l a2]
    else
     some [.l a2]
  | _ => none
def L17_0 (m : Nat) : Nat → List Un → Option (List Un) := iterS (L17_0s m)
theorem L17_0_succ (m : Nat) (n : Nat) : L17_0 m (n + 1) = L17_0s m (L17_0 m n) := rfl
def P17_0 : Pn := ⟨[.ints .i64, .any, .any, .buf 0 1, .int .i64, .any, .any, .any, .any, .any, .any, .any, .any, .any, .any, .any, .any, .any, .any, .any, .any, .any, .any, .any], [.ints .i64]⟩
def S17_0 (F : List Un → Option (List Un)) : StopS := ⟨[.lp [0, 1, 0, 1, 1], .blk 0, .code [1, 1, 1]], P17_0, F⟩
def t17 (m : Nat) (a0 : List Int) : Option (List Un) :=
  L17_0 m m [.l a0, .i 0, .l []]
def T17 : TabS := tabS TE []
theorem T17_right : TabRight Try.prog [] (ofTab TE) T17 := tabS_right all0
theorem G17_0 (m : Nat) (k : List Un → Option (List Un)) (a0 : List Int) (a1 : Int) (a2 : List Int) : roadFromS Try.prog [] T17 KN (bodyOf (fnOf Try.prog 17)) [0, 1, 0, 1, 1] [.blk 0, .code [1, 1, 1]] P17_0 [.l a0, .i a1, .l a2] (kksS Try.prog (fnOf Try.prog 17).results.toList X17 0 [S17_0 k]) = L17_0s m k [.l a0, .i a1, .l a2] := by kernel_rfl
theorem Y17_0 {m : Nat} {k : List Un → Option (List Un)} {xs : List Un} {v : List Un} (h : L17_0s m k xs = some v) : ∃ a0 a1 a2, xs = [.l a0, .i a1, .l a2] := by
  unfold L17_0s at h
  split at h
  · exact ⟨_, _, _, rfl⟩
  · cases h
theorem H17_0 (m : Nat) : ∀ n, HoldsS Try.prog [] (ofTab TE) (fnOf Try.prog 17).results.toList X17 0 (bodyOf (fnOf Try.prog 17)) (S17_0 (L17_0 m n)) :=
  StopS.iter KN_none T17_right (mk := S17_0) (Fs := L17_0s m) (W := fun k => [S17_0 k]) (p := [0, 1, 0, 1, 1]) (rest := [.blk 0, .code [1, 1, 1]]) (pat := P17_0)
    (fun _ => rfl) (fun _ => rfl) (fun _ => rfl) (by kernel_rfl) (by kernel_rfl)
    (fun k h => (all1 h all0))
    (fun k xs v h => by
      obtain ⟨a0, a1, a2, rfl⟩ := Y17_0 h
      exact (G17_0 m k a0 a1 a2).trans h)
theorem G17 (m : Nat) (a0 : List Int) : roadInS Try.prog [] T17 KN (fnOf Try.prog 17) N17 [.l a0] (kksS Try.prog (fnOf Try.prog 17).results.toList X17 0 [S17_0 (L17_0 m m)]) = t17 m a0 := by kernel_rfl
theorem tells17 (m : Nat) (a0 : List Int) {ys : List Un} (h : t17 m a0 = some ys) : TellsS Try.prog [] (ofTab TE) 17 N17 X17 [.l a0] ys :=
  tells_road KN_none T17_right (W := [S17_0 (L17_0 m m)]) (by kernel_rfl) (by kernel_rfl) (by kernel_rfl)
    (all1 (H17_0 m m) all0) ((G17 m a0).trans h)

theorem claimsL17 (m : Nat) (l : List Int) : ∀ (r i : Nat) (n : Nat), r < n → i + r = min 12 l.length →
    L17_0 m n [.l l, .i (i : Int), .l ((l.take i).map fun x => within x 0 1099511627776)] = some [.l (claimsV l)] := by
  intro r
  induction r with
  | zero =>
    intro i n hn hr
    obtain ⟨n, rfl⟩ := one_more n (by omega)
    have e : claimsV l = (l.take i).map fun x => within x 0 1099511627776 := by
      unfold claimsV
      congr 1
      by_cases h : l.length ≤ 12
      · rw [List.take_of_length_le h, List.take_of_length_le (by omega)]
      · rw [show i = 12 by omega]
    rw [e, L17_0_succ]; unfold L17_0s; dsimp only
    repeat' (first
      | with_reducible rfl
      | (with_reducible refine lt_i ?_; intro x hx; (try simp (disch := omega) only [wr, if_pos, if_neg, Int.sub_zero, Int.zero_add, List.length_append, List.length_cons, List.length_nil, List.length_replicate, List.length_take, List.length_drop, Int.natCast_add, Int.toNat_natCast] at hx); (try simp only [min_if', max_if'] at hx); subst hx)
      | (with_reducible refine bif_t ?_ ?_; · ((try simp (disch := omega) only [wr, if_pos, if_neg, List.length_append, List.length_cons, List.length_nil, List.length_replicate, List.length_take, List.length_drop, Int.natCast_add, Int.toNat_natCast]); (first | done | ((try simp only [min_if', max_if']); (first | done | ((try simp only [Bool.true_and, Bool.and_true, Bool.and_eq_true, Bool.and_eq_false_iff, Bool.or_eq_true, Bool.or_eq_false_iff, true_and, and_true, decide_eq_true_eq, decide_eq_false_iff_not, beq_iff_eq, beq_eq_false_iff_ne, bne_iff_ne, bne_eq_false_iff_eq, ne_eq, Bool.not_eq_true', Bool.not_eq_false', Decidable.not_not]) <;> omega))))))
      | (with_reducible refine bif_f ?_ ?_; · ((try simp (disch := omega) only [wr, if_pos, if_neg, List.length_append, List.length_cons, List.length_nil, List.length_replicate, List.length_take, List.length_drop, Int.natCast_add, Int.toNat_natCast]); (first | done | ((try simp only [min_if', max_if']); (first | done | ((try simp only [Bool.true_and, Bool.and_true, Bool.and_eq_true, Bool.and_eq_false_iff, Bool.or_eq_true, Bool.or_eq_false_iff, true_and, and_true, decide_eq_true_eq, decide_eq_false_iff_not, beq_iff_eq, beq_eq_false_iff_ne, bne_iff_ne, bne_eq_false_iff_eq, ne_eq, Bool.not_eq_true', Bool.not_eq_false', Decidable.not_not]) <;> omega))))))
      | (with_reducible refine bif_s ?_ ?_ <;> (intro hc; (try simp (disch := omega) only [wr, if_pos, if_neg, List.length_append, List.length_cons, List.length_nil, List.length_replicate, List.length_take, List.length_drop, Int.natCast_add, Int.toNat_natCast] at hc); (try simp only [min_if', max_if'] at hc); (try simp only [Bool.true_and, Bool.and_true, Bool.and_eq_true, Bool.and_eq_false_iff, Bool.or_eq_true, Bool.or_eq_false_iff, true_and, and_true, decide_eq_true_eq, decide_eq_false_iff_not, beq_iff_eq, beq_eq_false_iff_ne, bne_iff_ne, bne_eq_false_iff_eq, ne_eq, Bool.not_eq_true', Bool.not_eq_false', Decidable.not_not] at hc)))
      | fail "stuck")
  | succ r ih =>
    intro i n hn hr
    obtain ⟨n, rfl⟩ := one_more n (by omega)
    have := ih (i + 1) n (by omega) (by omega)
    rw [List.take_succ_eq_append_getElem (by omega), List.map_append] at this
    rw [L17_0_succ]; unfold L17_0s; dsimp only
    have hg : l.getD i 0 = l[i]'(by omega) := by rw [List.getD_eq_getElem?_getD, List.getElem?_eq_getElem (by omega)]; rfl
    rw [Int.toNat_natCast, hg]
    simp only [Int.natCast_add] at this
    repeat' (first
      | with_reducible rfl
      | (with_reducible refine lt_i ?_; intro x hx; (try simp (disch := omega) only [wr, if_pos, if_neg, Int.sub_zero, Int.zero_add, List.length_map, List.length_append, List.length_cons, List.length_nil, List.length_replicate, List.length_take, List.length_drop, Int.natCast_add, Int.toNat_natCast] at hx); (try simp only [min_if', max_if'] at hx); subst hx)
      | (with_reducible refine bif_t ?_ ?_; · ((try simp (disch := omega) only [wr, if_pos, if_neg, List.length_map, List.length_append, List.length_cons, List.length_nil, List.length_replicate, List.length_take, List.length_drop, Int.natCast_add, Int.toNat_natCast]); (first | done | ((try simp only [min_if', max_if']); (first | done | ((try simp only [Bool.true_and, Bool.and_true, Bool.and_eq_true, Bool.and_eq_false_iff, Bool.or_eq_true, Bool.or_eq_false_iff, true_and, and_true, decide_eq_true_eq, decide_eq_false_iff_not, beq_iff_eq, beq_eq_false_iff_ne, bne_iff_ne, bne_eq_false_iff_eq, ne_eq, Bool.not_eq_true', Bool.not_eq_false', Decidable.not_not]) <;> omega))))))
      | (with_reducible refine bif_f ?_ ?_; · ((try simp (disch := omega) only [wr, if_pos, if_neg, List.length_map, List.length_append, List.length_cons, List.length_nil, List.length_replicate, List.length_take, List.length_drop, Int.natCast_add, Int.toNat_natCast]); (first | done | ((try simp only [min_if', max_if']); (first | done | ((try simp only [Bool.true_and, Bool.and_true, Bool.and_eq_true, Bool.and_eq_false_iff, Bool.or_eq_true, Bool.or_eq_false_iff, true_and, and_true, decide_eq_true_eq, decide_eq_false_iff_not, beq_iff_eq, beq_eq_false_iff_ne, bne_iff_ne, bne_eq_false_iff_eq, ne_eq, Bool.not_eq_true', Bool.not_eq_false', Decidable.not_not]) <;> omega))))))
      | (with_reducible refine bif_s ?_ ?_ <;> (intro hc; (try simp (disch := omega) only [wr, if_pos, if_neg, List.length_map, List.length_append, List.length_cons, List.length_nil, List.length_replicate, List.length_take, List.length_drop, Int.natCast_add, Int.toNat_natCast] at hc); (try simp only [min_if', max_if'] at hc); (try simp only [Bool.true_and, Bool.and_true, Bool.and_eq_true, Bool.and_eq_false_iff, Bool.or_eq_true, Bool.or_eq_false_iff, true_and, and_true, decide_eq_true_eq, decide_eq_false_iff_not, beq_iff_eq, beq_eq_false_iff_ne, bne_iff_ne, bne_eq_false_iff_eq, ne_eq, Bool.not_eq_true', Bool.not_eq_false', Decidable.not_not] at hc)))
      | fail "stuck")
    simp (disch := omega) only [wr]
    exact this

def q17 : List Un → Option (Bool × List Un)
  | [.l a0] => some (true, [.l (claimsV a0)])
  | _ => none
def e17 : EntS := ⟨N17, X17, q17⟩

theorem spec17 (a0 : List Int) : ∃ m, t17 m a0 = some [.l (claimsV a0)] := by
  exact ⟨13, claimsL17 13 a0 (min 12 a0.length) 0 13 (by omega) (by omega)⟩

theorem right17 : EntSRight Try.prog [] (ofTab TE) 17 e17 := by
  intro us ys h
  replace h : q17 us = some (true, ys) := h
  unfold q17 at h
  split at h
  · rename_i a0
    simp only [Option.some.injEq, Prod.mk.injEq, true_and] at h
    obtain rfl := h
    obtain ⟨m, hm⟩ := spec17 a0
    exact tells17 m a0 hm
  · cases h

theorem sum_set : ∀ (l : List Int) (b : Nat) (v : Int), b < l.length → (l.set b v).sum = l.sum - l.getD b 0 + v
  | [], b, v, h => by simp at h
  | x :: l, 0, v, _ => by simp; omega
  | x :: l, b + 1, v, h => by
    have := sum_set l b v (by simpa using h)
    simp only [List.set_cons_succ, List.sum_cons, List.getD_cons_succ]
    omega
theorem getD_set (l : List Int) (b i : Nat) (v : Int) (h : b < l.length) : (l.set b v).getD i 0 = if i = b then v else l.getD i 0 := by
  simp only [List.getD_eq_getElem?_getD, List.getElem?_set]
  by_cases e : b = i
  · subst e; simp [h]
  · rw [if_neg e, if_neg (Ne.symm e)]
theorem bestF_inv (l : List Int) : ∀ (r pre : List Int) (b : Nat), l = pre ++ r → b < l.length → (∀ j, j < pre.length → l.getD j 0 ≤ l.getD b 0) → (∀ j, j < b → l.getD j 0 < l.getD b 0) → b ≤ pre.length →
    (∀ j, j < l.length → l.getD j 0 ≤ l.getD (bestF l r pre.length b) 0) ∧ ∀ j, j < bestF l r pre.length b → l.getD j 0 < l.getD (bestF l r pre.length b) 0
  | [], pre, b, he, hb, h1, h2, _ => by
    have : pre.length = l.length := by rw [he]; simp
    exact ⟨fun j hj => h1 j (by omega), h2⟩
  | x :: r, pre, b, he, hb, h1, h2, h3 => by
    have hg : l.getD pre.length 0 = x := by rw [he]; simp
    have hl : l.length = pre.length + (r.length + 1) := by rw [he]; simp
    have hp : (pre ++ [x]).length = pre.length + 1 := by simp
    simp only [bestF]
    rw [← hp]
    by_cases hx : x > l.getD b 0
    · rw [show decide (x > l.getD b 0) = true from decide_eq_true hx, cond_true]
      refine bestF_inv l r (pre ++ [x]) pre.length (by rw [he]; simp) (by omega) (fun j hj => ?_) (fun j hj => ?_) (by omega)
      · rw [hp] at hj
        by_cases e : j = pre.length
        · subst e; omega
        · have := h1 j (by omega); omega
      · have := h1 j hj; omega
    · rw [show decide (x > l.getD b 0) = false from decide_eq_false hx, cond_false]
      refine bestF_inv l r (pre ++ [x]) b (by rw [he]; simp) hb (fun j hj => ?_) h2 (by omega)
      rw [hp] at hj
      by_cases e : j = pre.length
      · subst e; omega
      · exact h1 j (by omega)
theorem bestOf_max {l : List Int} (h : l ≠ []) : (∀ j, j < l.length → l.getD j 0 ≤ l.getD (bestOf l) 0) ∧ ∀ j, j < bestOf l → l.getD j 0 < l.getD (bestOf l) 0 :=
  bestF_inv l l [] 0 rfl (List.length_pos_iff.2 h) (fun j hj => by simp at hj) (fun j hj => by omega) (by simp)
theorem sum_le_zero : ∀ (l : List Int), (∀ x ∈ l, x ≤ 0) → l.sum ≤ 0
  | [], _ => by simp
  | x :: l, h => by
    have := h x (by simp)
    have := sum_le_zero l (fun y hy => h y (by simp [hy]))
    rw [List.sum_cons]; omega
theorem mem_getD {l : List Int} {x : Int} (h : x ∈ l) : ∃ j, j < l.length ∧ l.getD j 0 = x := by
  obtain ⟨j, hj, rfl⟩ := List.getElem_of_mem h
  exact ⟨j, hj, by rw [List.getD_eq_getElem?_getD, List.getElem?_eq_getElem hj]; rfl⟩
theorem deal_spec {s : Int} (hs : 0 < s) : ∀ (k : Nat) (o l : List Int), o.length = l.length → (∀ x ∈ l, 0 ≤ x ∧ x < s) → s * (k : Int) ≤ l.sum →
    (dealZ 0 k o l).sum = o.sum + k ∧ (∀ i, i < l.length → (dealZ 0 k o l).getD i 0 = o.getD i 0 ∨ ((dealZ 0 k o l).getD i 0 = o.getD i 0 + 1 ∧ 0 < l.getD i 0)) ∧
    ∀ i j, i < j → j < l.length → l.getD j 0 ≤ l.getD i 0 → (dealZ 0 k o l).getD j 0 - o.getD j 0 ≤ (dealZ 0 k o l).getD i 0 - o.getD i 0
  | 0, o, l, hl, hb, hk => by simp [dealZ]
  | k + 1, o, l, hl, hb, hk => by
    have e1 : s * ((k + 1 : Nat) : Int) = s * k + s := by rw [Int.natCast_add, Int.mul_add]; simp
    rw [e1] at hk
    have hk0 : 0 ≤ s * (k : Int) := Int.mul_nonneg (by omega) (by omega)
    have hne : l ≠ [] := by rintro rfl; simp at hk; omega
    have hB := bestOf_lt hne
    obtain ⟨hm, hf⟩ := bestOf_max hne
    have hpos : 0 < l.getD (bestOf l) 0 := by
      rcases Int.lt_or_le 0 (l.getD (bestOf l) 0) with h | h
      · exact h
      · have := sum_le_zero l (fun x hx => by
          obtain ⟨j, hj, rfl⟩ := mem_getD hx
          have := hm j hj; omega)
        omega
    have hmem := hb _ (getD_mem hB)
    simp only [dealZ]
    generalize hbb : bestOf l = b at *
    have hs' := sum_set l b 0 hB
    have ho' := sum_set o b (o.getD b 0 + 1) (by omega)
    obtain ⟨g1, g2, g3⟩ := deal_spec hs k (o.set b (o.getD b 0 + 1)) (l.set b 0) (by simp [hl]) (fun x hx => by
      rcases List.mem_or_eq_of_mem_set hx with h | h
      · exact hb x h
      · omega) (by omega)
    generalize dealZ 0 k (o.set b (o.getD b 0 + 1)) (l.set b 0) = y at *
    simp only [List.length_set] at g2 g3
    refine ⟨by rw [g1, ho']; simp only [Int.natCast_add]; omega, fun i hi => ?_, fun i j hij hj hle => ?_⟩
    · have := g2 i hi
      rw [getD_set _ _ _ _ (by omega), getD_set _ _ _ _ hB] at this
      by_cases e : i = b
      · subst e; simp only [↓reduceIte] at this; right; omega
      · simpa [e] using this
    · have a1 := g2 i (by omega)
      have a2 := g2 j hj
      have a3 := g3 i j hij hj
      rw [getD_set _ _ _ _ (by omega), getD_set _ _ _ _ hB] at a1 a2
      rw [getD_set _ _ _ _ hB, getD_set _ _ _ _ hB, getD_set _ _ _ _ (by omega), getD_set _ _ _ _ (by omega)] at a3
      by_cases ei : i = b
      · subst ei
        have ne : ¬ j = i := by omega
        simp only [↓reduceIte, ne] at a1 a2 a3
        omega
      · by_cases ej : j = b
        · subst ej
          have := hf i hij
          omega
        · simp only [ei, ej, if_false] at a1 a2 a3
          exact a3 hle
theorem rems_sum (a s : Int) : ∀ l : List Int, s * (floors a s l).sum + (rems a s l).sum = a * l.sum
  | [] => by simp [floors, rems]
  | x :: l => by
    have := rems_sum a s l
    have e := Int.mul_ediv_add_emod (a * x) s
    show s * (a * x / s + (floors a s l).sum) + (a * x % s + (rems a s l).sum) = a * (x + l.sum)
    rw [Int.mul_add, Int.mul_add]
    omega
theorem map_getD' (f : Int → Int) {l : List Int} {b : Nat} (h : b < l.length) : (l.map f).getD b 0 = f (l.getD b 0) := by
  simp [List.getD_eq_getElem?_getD, List.getElem?_eq_getElem h]
/-- Shares by weight: each is its exact part, or the next number above; the greater remainders first, the first ones ahead. -/
theorem proV_part {a : Int} {l : List Int} (ha : 0 ≤ a) (hok : sumOk l = true) (hlt : a < l.sum) : (proV a l).sum = a ∧
    (∀ i, i < l.length → (proV a l).getD i 0 = a * l.getD i 0 / l.sum ∨ ((proV a l).getD i 0 = a * l.getD i 0 / l.sum + 1 ∧ 0 < a * l.getD i 0 % l.sum)) ∧
    ∀ i j, i < j → j < l.length → a * l.getD j 0 % l.sum ≤ a * l.getD i 0 % l.sum → (proV a l).getD j 0 - a * l.getD j 0 / l.sum ≤ (proV a l).getD i 0 - a * l.getD i 0 / l.sum := by
  obtain ⟨hb, hs, hs2⟩ := sumOk_inv hok
  have hr : ∀ x ∈ rems a l.sum l, 0 ≤ x ∧ x < l.sum := by
    intro y hy
    obtain ⟨x, hx, rfl⟩ := List.mem_map.1 hy
    exact ⟨Int.emod_nonneg _ (by omega), Int.emod_lt_of_pos _ (by omega)⟩
  have hsum := rems_sum a l.sum l
  have hr0 := sum_nonneg _ (fun x hx => (hr x hx).1)
  have hk : 0 ≤ a - (floors a l.sum l).sum := by
    have : l.sum * (floors a l.sum l).sum ≤ l.sum * a := by rw [Int.mul_comm l.sum a]; omega
    have := Int.le_of_mul_le_mul_left this (by omega)
    omega
  have he : proV a l = dealZ 0 (a - (floors a l.sum l).sum).toNat (floors a l.sum l) (rems a l.sum l) := by
    unfold proV
    rw [hok, hs, show max a 0 = a by omega, show decide (a ≥ l.sum) = false from decide_eq_false (by omega)]
    rfl
  have hl1 : (floors a l.sum l).length = l.length := by simp [floors]
  have hl2 : (rems a l.sum l).length = l.length := by simp [rems]
  have d := deal_spec (s := l.sum) (by omega) (a - (floors a l.sum l).sum).toNat (floors a l.sum l) (rems a l.sum l) (by omega) hr (by
    rw [Int.toNat_of_nonneg hk, Int.mul_sub, Int.mul_comm l.sum a]; omega)
  rw [← he, hl2] at d
  obtain ⟨d1, d2, d3⟩ := d
  have ef : ∀ i, i < l.length → (floors a l.sum l).getD i 0 = a * l.getD i 0 / l.sum := fun i hi => map_getD' _ hi
  have er : ∀ i, i < l.length → (rems a l.sum l).getD i 0 = a * l.getD i 0 % l.sum := fun i hi => map_getD' _ hi
  refine ⟨by rw [d1, Int.toNat_of_nonneg hk]; omega, fun i hi => ?_, fun i j hij hj hle => ?_⟩
  · have := d2 i hi
    rwa [ef i hi, er i hi] at this
  · have := d3 i j hij hj (by rw [er i (by omega), er j hj]; exact hle)
    rwa [ef i (by omega), ef j hj] at this
theorem proV_full {a : Int} {l : List Int} (hok : sumOk l = true) (hge : l.sum ≤ max a 0) : proV a l = l := by
  obtain ⟨hb, hs, hs2⟩ := sumOk_inv hok
  unfold proV
  rw [hok, hs, show decide (max a 0 ≥ l.sum) = true from decide_eq_true hge]
  rfl
theorem part_le {a x s : Int} (ha : 0 ≤ a) (hlt : a < s) (hx : 0 ≤ x) : 0 ≤ a * x / s ∧ a * x / s ≤ x ∧ (0 < a * x % s → a * x / s + 1 ≤ x) := by
  have e := Int.mul_ediv_add_emod (a * x) s
  have hm : a * x ≤ (s - 1) * x := Int.mul_le_mul_of_nonneg_right (by omega) hx
  have hsx : (s - 1) * x = s * x - x := by rw [Int.sub_mul, Int.one_mul]
  refine ⟨Int.ediv_nonneg (Int.mul_nonneg ha hx) (by omega), Int.ediv_le_of_le_mul (by omega) (by rw [Int.mul_comm x s]; omega), fun h => ?_⟩
  have : s * (a * x / s) < s * x := by omega
  have := Int.lt_of_mul_lt_mul_left this (by omega)
  omega
theorem proV_sum {a : Int} {l : List Int} (ha : 0 ≤ a) (hok : sumOk l = true) : (proV a l).sum = min a l.sum ∧ ∀ i, i < l.length → 0 ≤ (proV a l).getD i 0 ∧ (proV a l).getD i 0 ≤ l.getD i 0 := by
  obtain ⟨hb, hs, hs2⟩ := sumOk_inv hok
  by_cases h : l.sum ≤ a
  · rw [proV_full hok (by omega)]
    exact ⟨by omega, fun i hi => ⟨(hb _ (getD_mem hi)).1, Int.le_refl _⟩⟩
  · obtain ⟨h1, h2, _⟩ := proV_part ha hok (by omega)
    refine ⟨by omega, fun i hi => ?_⟩
    have hx := hb _ (getD_mem hi)
    have := part_le (a := a) (s := l.sum) ha (by omega) hx.1
    rcases h2 i hi with h | ⟨h, h'⟩ <;> omega
theorem inOrd_sum : ∀ (l : List Int) (n : Int), 0 ≤ n → (∀ x ∈ l, 0 ≤ x) → (inOrd n l).sum = min n l.sum
  | [], n, h, _ => by simp [inOrd]; omega
  | c :: l, n, h, hb => by
    have hc := hb c (by simp)
    have hl := sum_nonneg l (fun y hy => hb y (by simp [hy]))
    simp only [inOrd, List.sum_cons]
    rw [inOrd_sum l _ (by omega) (fun y hy => hb y (by simp [hy]))]
    omega

end Go.Proofs.Ytibenahgbdhegaa
