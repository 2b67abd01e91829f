/- Products and quotients of 128 bits, as the program takes them from the library math/bits. Conditions: none. -/
import Derived.Test.YtncgbpajngakpaaBase
namespace Go.Proofs.Ytncgbpajngakpaa
open Go Go.Proofs.Ytncgbpajngakpaa.Ev
set_option linter.unusedVariables false
set_option linter.unusedSimpArgs false
set_option linter.unnecessarySimpa false
theorem wu_mod (n : Int) : IntKind.u64.wrap n = n % 18446744073709551616 := by
  unfold IntKind.wrap
  simp [IntKind.bits, IntKind.signed]
theorem wu8_mod (n : Int) : IntKind.u8.wrap n = n % 256 := by
  unfold IntKind.wrap
  simp [IntKind.bits, IntKind.signed]
theorem wu {n : Int} (h1 : 0 ≤ n) (h2 : n < 18446744073709551616) : IntKind.u64.wrap n = n := by rw [wu_mod]; omega
theorem and_mask {x : Int} (h1 : 0 ≤ x) (h2 : x < 18446744073709551616) : ((BitVec.ofInt 64 x &&& BitVec.ofInt 64 4294967295).toNat : Int) = x % 4294967296 := by
  obtain ⟨n, rfl⟩ := Int.eq_ofNat_of_zero_le h1
  have e : (BitVec.ofInt 64 (n : Int) &&& BitVec.ofInt 64 4294967295).toNat = n % 4294967296 := by
    rw [BitVec.toNat_and]
    have a : (BitVec.ofInt 64 (n : Int)).toNat = n := by
      rw [BitVec.toNat_ofInt]; omega
    have b : (BitVec.ofInt 64 4294967295).toNat = 2 ^ 32 - 1 := by decide
    rw [a, b, Nat.and_two_pow_sub_one_eq_mod]
  rw [e]; omega
theorem and_one {x : Int} (h1 : -9223372036854775808 ≤ x) (h2 : x < 18446744073709551616) : ((BitVec.ofInt 64 x &&& BitVec.ofInt 64 1).toNat : Int) = x % 2 := by
  have e : (BitVec.ofInt 64 x &&& BitVec.ofInt 64 1).toNat = (x % 18446744073709551616).toNat % 2 := by
    rw [BitVec.toNat_and]
    have a : (BitVec.ofInt 64 x).toNat = (x % 18446744073709551616).toNat := by
      rw [BitVec.toNat_ofInt]; rfl
    have b : (BitVec.ofInt 64 1).toNat = 2 ^ 1 - 1 := by decide
    rw [a, b, Nat.and_two_pow_sub_one_eq_mod]
  rw [e]; omega
theorem fd {a b : Int} (h : 0 ≤ b) : a.fdiv b = a / b := Int.fdiv_eq_ediv_of_nonneg a h
theorem fd32 {a : Int} : a.fdiv (2 ^ (min (32 : Int).toNat 64)) = a / 4294967296 := fd (by decide)
theorem fd16 {a : Int} : a.fdiv (2 ^ (min (16 : Int).toNat 64)) = a / 65536 := fd (by decide)
theorem fd8 {a : Int} : a.fdiv (2 ^ (min (8 : Int).toNat 64)) = a / 256 := fd (by decide)
/-- How many bits a number has. -/
def len64 (x : Int) : Int := if x ≤ 0 then 0 else Nat.log2 x.toNat + 1
theorem len_div {x : Int} (k : Nat) (h : 2 ^ k ≤ x) : len64 x = k + len64 (x / 2 ^ k) := by
  obtain ⟨n, rfl⟩ := Int.eq_ofNat_of_zero_le (show 0 ≤ x by have : (0:Int) < 2 ^ k := Int.pow_pos (by decide); omega)
  have hk : 2 ^ k ≤ n := by exact_mod_cast h
  have hp : 0 < 2 ^ k := Nat.two_pow_pos k
  have hq : 0 < n / 2 ^ k := Nat.div_pos hk hp
  have e : ((n : Int) / 2 ^ k) = ((n / 2 ^ k : Nat) : Int) := by simp
  unfold len64
  rw [e, if_neg (by omega), if_neg (by omega)]
  simp only [Int.toNat_natCast]
  have hl : Nat.log2 n = k + Nat.log2 (n / 2 ^ k) := by
    rw [Nat.log2_eq_iff (by omega)]
    have a := Nat.log2_self_le (n := n / 2 ^ k) (by omega)
    have b := Nat.lt_log2_self (n := n / 2 ^ k)
    have c := Nat.mul_div_le n (2 ^ k)
    have d := Nat.lt_mul_div_succ n hp
    refine ⟨?_, ?_⟩
    · rw [Nat.pow_add]; exact Nat.le_trans (Nat.mul_le_mul_left _ a) c
    · rw [Nat.add_assoc, Nat.pow_add]; exact Nat.lt_of_lt_of_le d (Nat.mul_le_mul_left _ b)
  omega
theorem or_shift {k : Nat} {a b : Int} (h0 : 0 ≤ a) (h1 : 0 ≤ b) (h2 : b < 2 ^ k) (h3 : a * 2 ^ k + b < 18446744073709551616) : ((BitVec.ofInt 64 (a * 2 ^ k) ||| BitVec.ofInt 64 b).toNat : Int) = a * 2 ^ k + b := by
  obtain ⟨n, rfl⟩ := Int.eq_ofNat_of_zero_le h0
  obtain ⟨m, rfl⟩ := Int.eq_ofNat_of_zero_le h1
  have e0 : ((n : Int) * 2 ^ k) = ((n * 2 ^ k : Nat) : Int) := by simp
  have hm : m < 2 ^ k := by exact_mod_cast h2
  rw [e0] at h3 ⊢
  have hb : n * 2 ^ k + m < 18446744073709551616 := by omega
  have a1 : (BitVec.ofInt 64 ((n * 2 ^ k : Nat) : Int)).toNat = n * 2 ^ k := by rw [BitVec.toNat_ofInt]; omega
  have a2 : (BitVec.ofInt 64 (m : Int)).toNat = m := by rw [BitVec.toNat_ofInt]; omega
  rw [BitVec.toNat_or, a1, a2, Nat.mul_comm, ← Nat.two_pow_add_eq_or_of_lt hm]
  rfl
theorem len_norm {x : Int} (h1 : 0 < x) (h2 : x < 18446744073709551616) : ∃ k : Nat, len64 x = 64 - k ∧ k < 64 ∧ 9223372036854775808 ≤ x * 2 ^ k ∧ x * 2 ^ k < 18446744073709551616 := by
  obtain ⟨n, rfl⟩ := Int.eq_ofNat_of_zero_le (show 0 ≤ x by omega)
  have hn : n ≠ 0 := by omega
  have hl : Nat.log2 n < 64 := (Nat.log2_lt hn).2 (by omega)
  have ha := Nat.log2_self_le hn
  have hb := Nat.lt_log2_self (n := n)
  refine ⟨63 - Nat.log2 n, ?_, by omega, ?_, ?_⟩
  · unfold len64; rw [if_neg (by omega)]; simp only [Int.toNat_natCast]; omega
  · have : 2 ^ 63 ≤ n * 2 ^ (63 - Nat.log2 n) := by
      calc 2 ^ 63 = 2 ^ (Nat.log2 n) * 2 ^ (63 - Nat.log2 n) := by rw [← Nat.pow_add]; congr 1; omega
        _ ≤ _ := Nat.mul_le_mul_right _ ha
    have e : ((n : Int) * 2 ^ (63 - Nat.log2 n)) = ((n * 2 ^ (63 - Nat.log2 n) : Nat) : Int) := by simp
    rw [e]; omega
  · have : n * 2 ^ (63 - Nat.log2 n) < 2 ^ 64 := by
      calc n * 2 ^ (63 - Nat.log2 n) < 2 ^ (Nat.log2 n + 1) * 2 ^ (63 - Nat.log2 n) := Nat.mul_lt_mul_of_pos_right hb (Nat.two_pow_pos _)
        _ = 2 ^ 64 := by rw [← Nat.pow_add]; congr 1; omega
    have e : ((n : Int) * 2 ^ (63 - Nat.log2 n)) = ((n * 2 ^ (63 - Nat.log2 n) : Nat) : Int) := by simp
    rw [e]; omega
def tab0 : ByteArray := ⟨#[0, 1, 2, 2, 3, 3, 3, 3, 4, 4, 4, 4, 4, 4, 4, 4, 5, 5, 5, 5, 5, 5, 5, 5, 5, 5, 5, 5, 5, 5, 5, 5, 6, 6, 6, 6, 6, 6, 6, 6, 6, 6, 6, 6, 6, 6, 6, 6, 6, 6, 6, 6, 6, 6, 6, 6, 6, 6, 6, 6, 6, 6, 6, 6, 7, 7, 7, 7, 7, 7, 7, 7, 7, 7, 7, 7, 7, 7, 7, 7, 7, 7, 7, 7, 7, 7, 7, 7, 7, 7, 7, 7, 7, 7, 7, 7, 7, 7, 7, 7, 7, 7, 7, 7, 7, 7, 7, 7, 7, 7, 7, 7, 7, 7, 7, 7, 7, 7, 7, 7, 7, 7, 7, 7, 7, 7, 7, 7, 8, 8, 8, 8, 8, 8, 8, 8, 8, 8, 8, 8, 8, 8, 8, 8, 8, 8, 8, 8, 8, 8, 8, 8, 8, 8, 8, 8, 8, 8, 8, 8, 8, 8, 8, 8, 8, 8, 8, 8, 8, 8, 8, 8, 8, 8, 8, 8, 8, 8, 8, 8, 8, 8, 8, 8, 8, 8, 8, 8, 8, 8, 8, 8, 8, 8, 8, 8, 8, 8, 8, 8, 8, 8, 8, 8, 8, 8, 8, 8, 8, 8, 8, 8, 8, 8, 8, 8, 8, 8, 8, 8, 8, 8, 8, 8, 8, 8, 8, 8, 8, 8, 8, 8, 8, 8, 8, 8, 8, 8, 8, 8, 8, 8, 8, 8, 8, 8, 8, 8, 8, 8, 8, 8, 8, 8, 8, 8]⟩
theorem tab_len : ∀ n : Fin 256, ((tab0.data.getD n.val 0).toNat : Int) = len64 n.val := by decide +kernel
theorem len_le {x : Int} {k : Nat} (h : x < 2 ^ k) : 0 ≤ len64 x ∧ len64 x ≤ k := by
  unfold len64
  split
  · omega
  · rename_i hx
    obtain ⟨n, rfl⟩ := Int.eq_ofNat_of_zero_le (show 0 ≤ x by omega)
    have hn : n ≠ 0 := by omega
    have : n < 2 ^ k := by exact_mod_cast h
    have := (Nat.log2_lt hn).2 this
    simp only [Int.toNat_natCast]
    omega
theorem len_leaf {x c : Int} (h1 : 0 ≤ x) (h2 : x < 256) (h3 : 0 ≤ c) (h4 : c ≤ 56) : (bif decide (0 ≤ (IntKind.u8.wrap x) ∧ ((IntKind.u8.wrap x)).toNat < tab0.data.size) then
      some (Value.int .i64 (IntKind.i64.wrap (c + (IntKind.i64.wrap (((tab0.data.getD ((IntKind.u8.wrap x)).toNat 0).toNat : Nat) : Int))))) else none) = some (.int .i64 (c + len64 x)) := by
  have e : IntKind.u8.wrap x = x := by rw [wu8_mod]; omega
  have hs : tab0.data.size = 256 := by kernel_rfl
  have hl := len_le (x := x) (k := 8) (by omega)
  obtain ⟨n, rfl⟩ := Int.eq_ofNat_of_zero_le h1
  have ht := tab_len ⟨n, by omega⟩
  rw [e, hs]
  simp only [Int.toNat_natCast] at ht ⊢
  rw [ht, wr (n := len64 n) (by omega) (by omega), wr (n := c + len64 n) (by omega) (by omega)]
  simp [show n < 256 by omega]
def q49 : List Sc → Option (Bool × Value)
  | [.i a0] => some (decide (0 ≤ a0 ∧ a0 < 18446744073709551616), .int .i64 (len64 a0))
  | _ => none
def e49 : List Value → Option (Bool × Value) := entOf [.int .u64] q49
/-! math/bits.Len64 -/
def t49 (m : Nat) (a0 : Int) : Option Value :=
  bif (decide (a0 ≥ 4294967296)) then
   let x2 : Int := (a0.fdiv (2 ^ (min (32 : Int).toNat 64)))
   bif decide (x2 ≥ 65536) then
    let x3 : Int := (x2.fdiv (2 ^ (min (16 : Int).toNat 64)))
    bif decide (x3 ≥ 256) then
     let x4 : Int := (x3.fdiv (2 ^ (min (8 : Int).toNat 64)))
     bif decide (0 ≤ (IntKind.u8.wrap x4) ∧ ((IntKind.u8.wrap x4)).toNat < tab0.data.size) then
      some (.int .i64 (IntKind.i64.wrap (56 + (IntKind.i64.wrap (((tab0.data.getD ((IntKind.u8.wrap x4)).toNat 0).toNat : Nat) : Int)))))
     else
      none
    else
     bif decide (0 ≤ (IntKind.u8.wrap x3) ∧ ((IntKind.u8.wrap x3)).toNat < tab0.data.size) then
      some (.int .i64 (IntKind.i64.wrap (48 + (IntKind.i64.wrap (((tab0.data.getD ((IntKind.u8.wrap x3)).toNat 0).toNat : Nat) : Int)))))
     else
      none
   else
    bif decide (x2 ≥ 256) then
     let x9 : Int := (x2.fdiv (2 ^ (min (8 : Int).toNat 64)))
     bif decide (0 ≤ (IntKind.u8.wrap x9) ∧ ((IntKind.u8.wrap x9)).toNat < tab0.data.size) then
      some (.int .i64 (IntKind.i64.wrap (40 + (IntKind.i64.wrap (((tab0.data.getD ((IntKind.u8.wrap x9)).toNat 0).toNat : Nat) : Int)))))
     else
      none
    else
     bif decide (0 ≤ (IntKind.u8.wrap x2) ∧ ((IntKind.u8.wrap x2)).toNat < tab0.data.size) then
      some (.int .i64 (IntKind.i64.wrap (32 + (IntKind.i64.wrap (((tab0.data.getD ((IntKind.u8.wrap x2)).toNat 0).toNat : Nat) : Int)))))
     else
      none
  else
   bif decide (a0 ≥ 65536) then
    let x14 : Int := (a0.fdiv (2 ^ (min (16 : Int).toNat 64)))
    bif decide (x14 ≥ 256) then
     let x15 : Int := (x14.fdiv (2 ^ (min (8 : Int).toNat 64)))
     bif decide (0 ≤ (IntKind.u8.wrap x15) ∧ ((IntKind.u8.wrap x15)).toNat < tab0.data.size) then
      some (.int .i64 (IntKind.i64.wrap (24 + (IntKind.i64.wrap (((tab0.data.getD ((IntKind.u8.wrap x15)).toNat 0).toNat : Nat) : Int)))))
     else
      none
    else
     bif decide (0 ≤ (IntKind.u8.wrap x14) ∧ ((IntKind.u8.wrap x14)).toNat < tab0.data.size) then
      some (.int .i64 (IntKind.i64.wrap (16 + (IntKind.i64.wrap (((tab0.data.getD ((IntKind.u8.wrap x14)).toNat 0).toNat : Nat) : Int)))))
     else
      none
   else
    bif decide (a0 ≥ 256) then
     let x20 : Int := (a0.fdiv (2 ^ (min (8 : Int).toNat 64)))
     bif decide (0 ≤ (IntKind.u8.wrap x20) ∧ ((IntKind.u8.wrap x20)).toNat < tab0.data.size) then
      some (.int .i64 (IntKind.i64.wrap (8 + (IntKind.i64.wrap (((tab0.data.getD ((IntKind.u8.wrap x20)).toNat 0).toNat : Nat) : Int)))))
     else
      none
    else
     bif decide (0 ≤ (IntKind.u8.wrap a0) ∧ ((IntKind.u8.wrap a0)).toNat < tab0.data.size) then
      some (.int .i64 (IntKind.i64.wrap (0 + (IntKind.i64.wrap (((tab0.data.getD ((IntKind.u8.wrap a0)).toNat 0).toNat : Nat) : Int)))))
     else
      none
def T49 : Tab := tabOf []
theorem T49_right : Known.right Try.prog T49 := tab_right all0
theorem G49 (m : Nat) (a0 : Int) : roadIn Try.prog T49 (fun _ => true) (fnOf Try.prog 49) [.int .u64 a0] (kks (fnOf Try.prog 49).results.toList Try.prog []) = t49 m a0 := by kernel_rfl
theorem told49 (m : Nat) (a0 : Int) {v : Value} (h : t49 m a0 = some v) (hv : plainT v = true) : ToldOk Try.prog 49 [.int .u64 a0] v :=
  told_road' (S := []) Seat.mix Seat.names T49_right (by kernel_rfl) (by kernel_rfl) (by kernel_rfl)
    all0 ((G49 m a0).trans h) rfl hv
theorem spec49 (a0 : Int) (hc : (decide (0 ≤ a0 ∧ a0 < 18446744073709551616)) = true) : ∃ m, t49 m a0 = some (.int .i64 (len64 a0)) := by
  obtain ⟨h0, h1⟩ := of_decide_eq_true hc
  refine ⟨0, ?_⟩
  unfold t49
  simp only [fd32, fd16, fd8]
  by_cases c1 : a0 ≥ 4294967296
  · have e1 := len_div (x := a0) 32 (by omega)
    simp only [c1, decide_true, cond_true]
    by_cases c2 : a0 / 4294967296 ≥ 65536
    · have e2 := len_div (x := a0 / 4294967296) 16 (by omega)
      simp only [c2, decide_true, cond_true]
      by_cases c3 : a0 / 4294967296 / 65536 ≥ 256
      · have e3 := len_div (x := a0 / 4294967296 / 65536) 8 (by omega)
        simp only [c3, decide_true, cond_true]
        rw [len_leaf (by omega) (by omega) (by omega) (by omega), e1]
        simp only [show ((2 : Int) ^ 32) = 4294967296 by rfl, show ((2 : Int) ^ 16) = 65536 by rfl, show ((2 : Int) ^ 8) = 256 by rfl] at *
        rw [e2, e3]; congr 2; omega
      · simp only [c3, decide_false, cond_false]
        rw [len_leaf (by omega) (by omega) (by omega) (by omega), e1]
        simp only [show ((2 : Int) ^ 32) = 4294967296 by rfl, show ((2 : Int) ^ 16) = 65536 by rfl] at *
        rw [e2]; congr 2; omega
    · simp only [c2, decide_false, cond_false]
      by_cases c3 : a0 / 4294967296 ≥ 256
      · have e3 := len_div (x := a0 / 4294967296) 8 (by omega)
        simp only [c3, decide_true, cond_true]
        rw [len_leaf (by omega) (by omega) (by omega) (by omega), e1]
        simp only [show ((2 : Int) ^ 32) = 4294967296 by rfl, show ((2 : Int) ^ 8) = 256 by rfl] at *
        rw [e3]; congr 2; omega
      · simp only [c3, decide_false, cond_false]
        rw [len_leaf (by omega) (by omega) (by omega) (by omega), e1]
        simp only [show ((2 : Int) ^ 32) = 4294967296 by rfl] at *
        congr 2
  · simp only [c1, decide_false, cond_false]
    by_cases c2 : a0 ≥ 65536
    · have e2 := len_div (x := a0) 16 (by omega)
      simp only [c2, decide_true, cond_true]
      by_cases c3 : a0 / 65536 ≥ 256
      · have e3 := len_div (x := a0 / 65536) 8 (by omega)
        simp only [c3, decide_true, cond_true]
        rw [len_leaf (by omega) (by omega) (by omega) (by omega), e2]
        simp only [show ((2 : Int) ^ 16) = 65536 by rfl, show ((2 : Int) ^ 8) = 256 by rfl] at *
        rw [e3]; congr 2; omega
      · simp only [c3, decide_false, cond_false]
        rw [len_leaf (by omega) (by omega) (by omega) (by omega), e2]
        simp only [show ((2 : Int) ^ 16) = 65536 by rfl] at *
        congr 2
    · simp only [c2, decide_false, cond_false]
      by_cases c3 : a0 ≥ 256
      · have e3 := len_div (x := a0) 8 (by omega)
        simp only [c3, decide_true, cond_true]
        rw [len_leaf (by omega) (by omega) (by omega) (by omega), e3]
        simp only [show ((2 : Int) ^ 8) = 256 by rfl] at *
        congr 2
      · simp only [c3, decide_false, cond_false]
        rw [len_leaf (by omega) (by omega) (by omega) (by omega)]
        congr 2; omega
theorem right49 : EntRight Try.prog 49 e49 := ent_right (by
  intro xs v h
  unfold q49 at h
  split at h
  · rename_i a0
    simp only [Option.some.injEq, Prod.mk.injEq] at h
    obtain ⟨hc, rfl⟩ := h
    obtain ⟨m, hm⟩ := spec49 a0 hc
    exact told49 m a0 hm rfl
  · cases h)
def q48 : List Sc → Option (Bool × Value)
  | [.i a0] => some (decide (0 ≤ a0 ∧ a0 < 18446744073709551616), .int .i64 (64 - len64 a0))
  | _ => none
def e48 : List Value → Option (Bool × Value) := entOf [.int .u64] q48
/-! math/bits.LeadingZeros64 -/
def t48 (m : Nat) (a0 : Int) : Option Value :=
  bif decide (0 ≤ a0 ∧ a0 < 18446744073709551616) then
   some (.int .i64 (IntKind.i64.wrap (64 - (len64 a0))))
  else
   none
def T48 : Tab := tabOf [(49, e49)]
theorem T48_right : Known.right Try.prog T48 := tab_right (all1 right49 all0)
theorem G48 (m : Nat) (a0 : Int) : roadIn Try.prog T48 (fun _ => true) (fnOf Try.prog 48) [.int .u64 a0] (kks (fnOf Try.prog 48).results.toList Try.prog []) = t48 m a0 := by kernel_rfl
theorem told48 (m : Nat) (a0 : Int) {v : Value} (h : t48 m a0 = some v) (hv : plainT v = true) : ToldOk Try.prog 48 [.int .u64 a0] v :=
  told_road' (S := []) Seat.mix Seat.names T48_right (by kernel_rfl) (by kernel_rfl) (by kernel_rfl)
    all0 ((G48 m a0).trans h) rfl hv
theorem spec48 (a0 : Int) (hc : (decide (0 ≤ a0 ∧ a0 < 18446744073709551616)) = true) : ∃ m, t48 m a0 = some (.int .i64 (64 - len64 a0)) := by
  obtain ⟨h0, h1⟩ := of_decide_eq_true hc
  refine ⟨0, ?_⟩
  unfold t48
  have := len_le (x := a0) (k := 64) (by omega)
  simp only [h0, h1, and_self, decide_true, cond_true]
  rw [wr (by omega) (by omega)]
theorem right48 : EntRight Try.prog 48 e48 := ent_right (by
  intro xs v h
  unfold q48 at h
  split at h
  · rename_i a0
    simp only [Option.some.injEq, Prod.mk.injEq] at h
    obtain ⟨hc, rfl⟩ := h
    obtain ⟨m, hm⟩ := spec48 a0 hc
    exact told48 m a0 hm rfl
  · cases h)
theorem mul_le {a b : Int} {m n : Int} (h1 : 0 ≤ a) (h2 : a ≤ m) (h3 : 0 ≤ b) (h4 : b ≤ n) : 0 ≤ a * b ∧ a * b ≤ m * n :=
  ⟨Int.mul_nonneg h1 h3, Int.mul_le_mul h2 h4 h3 (by omega)⟩
def q46 : List Sc → Option (Bool × Value)
  | [.i a0, .i a1] => some (decide (0 ≤ a0 ∧ a0 < 18446744073709551616 ∧ 0 ≤ a1 ∧ a1 < 18446744073709551616), .tuple #[.int .u64 (a0 * a1 / 18446744073709551616), .int .u64 (a0 * a1 % 18446744073709551616)])
  | _ => none
def e46 : List Value → Option (Bool × Value) := entOf [.int .u64, .int .u64] q46
/-! math/bits.Mul64 -/
def t46 (m : Nat) (a0 : Int) (a1 : Int) : Option Value :=
  let x1 : Int := (IntKind.u64.wrap ((BitVec.ofInt 64 a0 &&& BitVec.ofInt 64 4294967295).toNat))
  let x2 : Int := (a0.fdiv (2 ^ (min (32 : Int).toNat 64)))
  let x3 : Int := (IntKind.u64.wrap ((BitVec.ofInt 64 a1 &&& BitVec.ofInt 64 4294967295).toNat))
  let x4 : Int := (a1.fdiv (2 ^ (min (32 : Int).toNat 64)))
  let x8 : Int := (IntKind.u64.wrap ((IntKind.u64.wrap (x2 * x3)) + ((IntKind.u64.wrap (x1 * x3)).fdiv (2 ^ (min (32 : Int).toNat 64)))))
  some (.tuple #[.int .u64 (IntKind.u64.wrap ((IntKind.u64.wrap ((IntKind.u64.wrap (x2 * x4)) + (x8.fdiv (2 ^ (min (32 : Int).toNat 64))))) + ((IntKind.u64.wrap ((IntKind.u64.wrap ((BitVec.ofInt 64 x8 &&& BitVec.ofInt 64 4294967295).toNat)) + (IntKind.u64.wrap (x1 * x4)))).fdiv (2 ^ (min (32 : Int).toNat 64))))), .int .u64 (IntKind.u64.wrap (a0 * a1))])
def T46 : Tab := tabOf []
theorem T46_right : Known.right Try.prog T46 := tab_right all0
theorem G46 (m : Nat) (a0 : Int) (a1 : Int) : roadIn Try.prog T46 (fun _ => true) (fnOf Try.prog 46) [.int .u64 a0, .int .u64 a1] (kks (fnOf Try.prog 46).results.toList Try.prog []) = t46 m a0 a1 := by kernel_rfl
theorem told46 (m : Nat) (a0 : Int) (a1 : Int) {v : Value} (h : t46 m a0 a1 = some v) (hv : plainT v = true) : ToldOk Try.prog 46 [.int .u64 a0, .int .u64 a1] v :=
  told_road' (S := []) Seat.mix Seat.names T46_right (by kernel_rfl) (by kernel_rfl) (by kernel_rfl)
    all0 ((G46 m a0 a1).trans h) rfl hv
theorem spec46 (a0 : Int) (a1 : Int) (hc : (decide (0 ≤ a0 ∧ a0 < 18446744073709551616 ∧ 0 ≤ a1 ∧ a1 < 18446744073709551616)) = true) : ∃ m, t46 m a0 a1 = some (.tuple #[.int .u64 (a0 * a1 / 18446744073709551616), .int .u64 (a0 * a1 % 18446744073709551616)]) := by
  obtain ⟨h0, h1, h2, h3⟩ := of_decide_eq_true hc
  refine ⟨0, ?_⟩
  unfold t46
  simp only [fd32]
  rw [and_mask h0 h1, and_mask h2 h3]
  have e1 : a0 = a0 / 4294967296 * 4294967296 + a0 % 4294967296 := by omega
  have e2 : a1 = a1 / 4294967296 * 4294967296 + a1 % 4294967296 := by omega
  have b1 : 0 ≤ a0 % 4294967296 ∧ a0 % 4294967296 ≤ 4294967295 := by omega
  have b2 : 0 ≤ a0 / 4294967296 ∧ a0 / 4294967296 ≤ 4294967295 := by omega
  have b3 : 0 ≤ a1 % 4294967296 ∧ a1 % 4294967296 ≤ 4294967295 := by omega
  have b4 : 0 ≤ a1 / 4294967296 ∧ a1 / 4294967296 ≤ 4294967295 := by omega
  rw [wu (n := a0 % 4294967296) (by omega) (by omega), wu (n := a1 % 4294967296) (by omega) (by omega)]
  have lo : IntKind.u64.wrap (a0 * a1) = a0 * a1 % 18446744073709551616 := wu_mod _
  rw [lo]
  clear lo
  have hp : a0 * a1 = a0 / 4294967296 * (a1 / 4294967296) * 18446744073709551616 + (a0 / 4294967296 * (a1 % 4294967296) + a0 % 4294967296 * (a1 / 4294967296)) * 4294967296 + a0 % 4294967296 * (a1 % 4294967296) := by
    conv => lhs; rw [e1, e2]
    generalize a0 / 4294967296 = p, a0 % 4294967296 = q, a1 / 4294967296 = r, a1 % 4294967296 = s
    rw [Int.add_mul, Int.mul_add, Int.mul_add]
    have u1 : p * 4294967296 * (r * 4294967296) = p * r * 18446744073709551616 := by rw [Int.mul_assoc, Int.mul_left_comm 4294967296 r, ← Int.mul_assoc p r]; rfl
    have u2 : p * 4294967296 * s = p * s * 4294967296 := by rw [Int.mul_assoc, Int.mul_comm 4294967296 s, ← Int.mul_assoc]
    have u3 : q * (r * 4294967296) = q * r * 4294967296 := by rw [← Int.mul_assoc]
    omega
  generalize a0 * a1 = z at *
  have m1 := mul_le b1.1 b1.2 b3.1 b3.2
  have m2 := mul_le b2.1 b2.2 b3.1 b3.2
  have m3 := mul_le b1.1 b1.2 b4.1 b4.2
  have m4 := mul_le b2.1 b2.2 b4.1 b4.2
  generalize a0 % 4294967296 * (a1 % 4294967296) = x at *
  generalize a0 / 4294967296 * (a1 % 4294967296) = y at *
  generalize a0 % 4294967296 * (a1 / 4294967296) = u at *
  generalize a0 / 4294967296 * (a1 / 4294967296) = v at *
  rw [wu (n := x) (by omega) (by omega), wu (n := y) (by omega) (by omega), wu (n := y + x / 4294967296) (by omega) (by omega), and_mask (x := y + x / 4294967296) (by omega) (by omega),
    wu (n := (y + x / 4294967296) % 4294967296) (by omega) (by omega), wu (n := u) (by omega) (by omega), wu (n := v) (by omega) (by omega), wu (n := v + (y + x / 4294967296) / 4294967296) (by omega) (by omega),
    wu (n := (y + x / 4294967296) % 4294967296 + u) (by omega) (by omega), wu (by omega) (by omega)]
  have : v + (y + x / 4294967296) / 4294967296 + ((y + x / 4294967296) % 4294967296 + u) / 4294967296 = z / 18446744073709551616 := by omega
  rw [this]
theorem right46 : EntRight Try.prog 46 e46 := ent_right (by
  intro xs v h
  unfold q46 at h
  split at h
  · rename_i a0 a1
    simp only [Option.some.injEq, Prod.mk.injEq] at h
    obtain ⟨hc, rfl⟩ := h
    obtain ⟨m, hm⟩ := spec46 a0 a1 hc
    exact told46 m a0 a1 hm rfl
  · cases h)
theorem knuth_test {v v1 v0 U d q r : Int} (hv : v = v1 * 4294967296 + v0) (hvp : 0 < v) (hU : U = q * v1 + r) : (U * 4294967296 + d) / v < q ↔ r * 4294967296 + d < q * v0 := by
  rw [Int.ediv_lt_iff_lt_mul hvp, hv, hU, Int.mul_add, Int.add_mul, ← Int.mul_assoc]
  omega
theorem knuth_lt {v U d : Int} (hvp : 0 < v) (hU0 : 0 ≤ U) (hU : U < v) (hd0 : 0 ≤ d) (hd : d < 4294967296) : 0 ≤ (U * 4294967296 + d) / v ∧ (U * 4294967296 + d) / v < 4294967296 := by
  refine ⟨Int.ediv_nonneg (by omega) (by omega), ?_⟩
  rw [Int.ediv_lt_iff_lt_mul hvp, Int.mul_comm 4294967296 v]
  omega
theorem knuth_start {v v1 v0 U : Int} (hv : v = v1 * 4294967296 + v0) (h1 : 2147483648 ≤ v1) (h0 : v0 < 4294967296) (hU0 : 0 ≤ U) (hU : U < v) : 0 ≤ U / v1 ∧ U / v1 ≤ 4294967297 := by
  refine ⟨Int.ediv_nonneg hU0 (by omega), ?_⟩
  have : U / v1 < 4294967298 := by
    rw [Int.ediv_lt_iff_lt_mul (by omega)]
    omega
  omega
theorem knuth_ge {v v1 v0 U d : Int} (hv : v = v1 * 4294967296 + v0) (h1 : 0 < v1) (hvp : 0 < v) (h00 : 0 ≤ v0) (hU0 : 0 ≤ U) (hd0 : 0 ≤ d) (hd : d < 4294967296) : (U * 4294967296 + d) / v ≤ U / v1 := by
  have e : U = U / v1 * v1 + U % v1 := by have := Int.mul_ediv_add_emod U v1; rw [Int.mul_comm] at this; omega
  have hm := Int.emod_lt_of_pos U h1
  have hq : 0 ≤ U / v1 := Int.ediv_nonneg hU0 (by omega)
  have : (U * 4294967296 + d) / v < U / v1 + 1 := by
    rw [Int.ediv_lt_iff_lt_mul hvp, hv, Int.mul_add, Int.add_mul (U / v1), ← Int.mul_assoc, Int.add_mul]
    have : 0 ≤ U / v1 * v0 := Int.mul_nonneg hq h00
    have e2 : (U / v1) * v1 = U - U % v1 := by omega
    rw [e2]
    omega
  omega
theorem knuth_rest {v U d z : Int} (hz : z = (U * 4294967296 + d) / v * v) (hvp : 0 < v) (hv : v < 18446744073709551616) (hd0 : 0 ≤ d) (hd : d < 4294967296) :
    IntKind.u64.wrap (IntKind.u64.wrap (IntKind.u64.wrap (U * 4294967296) + d) - IntKind.u64.wrap z) = (U * 4294967296 + d) % v := by
  have h1 := Int.emod_nonneg (U * 4294967296 + d) (show v ≠ 0 by omega)
  have h2 := Int.emod_lt_of_pos (U * 4294967296 + d) hvp
  have h3 := Int.mul_ediv_add_emod (U * 4294967296 + d) v
  rw [Int.mul_comm, ← hz] at h3
  simp only [wu_mod]
  omega
def q47 : List Sc → Option (Bool × Value)
  | [.i a0, .i a1, .i a2] => some (decide (0 ≤ a0 ∧ a0 < a2 ∧ a2 < 18446744073709551616 ∧ 0 ≤ a1 ∧ a1 < 18446744073709551616), .tuple #[.int .u64 ((a0 * 18446744073709551616 + a1) / a2), .int .u64 ((a0 * 18446744073709551616 + a1) % a2)])
  | _ => none
def e47 : List Value → Option (Bool × Value) := entOf [.int .u64, .int .u64, .int .u64] q47
/-! math/bits.Div64 -/
def L47_1s (m : Nat) (k : List Sc → Option Value) : List Sc → Option Value
  | [.i a0, .i a1, .i a2, .i a3, .i a4, .i a5, .i a6, .i a7, .i a8] =>
    bif (decide (a8 ≥ 4294967296)) then
     let x48 : Int := (IntKind.u64.wrap (a8 - 1))
     let x49 : Int := (IntKind.u64.wrap (a6 + a2))
     bif (decide (x49 ≥ 4294967296)) then
      bif decide (a1 < 0) then
       none
      else
       some (.tuple #[.int .u64 (IntKind.u64.wrap ((IntKind.u64.wrap (a5 * 4294967296)) + x48)), .int .u64 ((IntKind.u64.wrap ((IntKind.u64.wrap ((IntKind.u64.wrap (a7 * 4294967296)) + a4)) - (IntKind.u64.wrap (x48 * a0)))).fdiv (2 ^ (min a1.toNat 64)))])
     else
      k [.i a0, .i a1, .i a2, .i a3, .i a4, .i a5, .i x49, .i a7, .i x48]
    else
     bif decide ((IntKind.u64.wrap (a8 * a3)) > (IntKind.u64.wrap ((IntKind.u64.wrap (4294967296 * a6)) + a4))) then
      let x61 : Int := (IntKind.u64.wrap (a8 - 1))
      let x62 : Int := (IntKind.u64.wrap (a6 + a2))
      bif (decide (x62 ≥ 4294967296)) then
       bif decide (a1 < 0) then
        none
       else
        some (.tuple #[.int .u64 (IntKind.u64.wrap ((IntKind.u64.wrap (a5 * 4294967296)) + x61)), .int .u64 ((IntKind.u64.wrap ((IntKind.u64.wrap ((IntKind.u64.wrap (a7 * 4294967296)) + a4)) - (IntKind.u64.wrap (x61 * a0)))).fdiv (2 ^ (min a1.toNat 64)))])
      else
       k [.i a0, .i a1, .i a2, .i a3, .i a4, .i a5, .i x62, .i a7, .i x61]
     else
      bif decide (a1 < 0) then
       none
      else
       some (.tuple #[.int .u64 (IntKind.u64.wrap ((IntKind.u64.wrap (a5 * 4294967296)) + a8)), .int .u64 ((IntKind.u64.wrap ((IntKind.u64.wrap ((IntKind.u64.wrap (a7 * 4294967296)) + a4)) - (IntKind.u64.wrap (a8 * a0)))).fdiv (2 ^ (min a1.toNat 64)))])
  | _ => none
def L47_1 (m : Nat) : Nat → List Sc → Option Value := iter (L47_1s m)
theorem L47_1_succ (m : Nat) (n : Nat) : L47_1 m (n + 1) = L47_1s m (L47_1 m n) := rfl
def S47_1 (F : List Sc → Option Value) : Stop := ⟨[.lp [0, 0, 1, 1, 1, 1, 1, 1, 1, 1, 1, 1, 1, 1, 1, 1, 1, 1, 1, 1], .blk 2, .code [1, 1, 1, 1, 1, 1, 1, 1, 1, 1, 1, 1, 1, 1, 1, 1, 1, 1, 1]], ⟨135, [(2, .int .u64), (8, .int .u64), (9, .int .u64), (10, .int .u64), (14, .int .u64), (15, .int .u64), (16, .int .u64), (17, .int .u64), (18, .int .u64)], 0, .e⟩, F⟩
def L47_0s (m : Nat) (k : List Sc → Option Value) : List Sc → Option Value
  | [.i a0, .i a1, .i a2, .i a3, .i a4, .i a5, .i a6, .i a7, .i a8] =>
    bif (decide (a7 ≥ 4294967296)) then
     let x17 : Int := (IntKind.u64.wrap (a7 - 1))
     let x18 : Int := (IntKind.u64.wrap (a8 + a2))
     bif (decide (x18 ≥ 4294967296)) then
      let x23 : Int := (IntKind.u64.wrap ((IntKind.u64.wrap ((IntKind.u64.wrap (a4 * 4294967296)) + a5)) - (IntKind.u64.wrap (x17 * a0))))
      bif decide (a2 = 0) then
       none
      else
       let x24 : Int := (IntKind.u64.wrap (x23.tdiv a2))
       L47_1 m m [.i a0, .i a1, .i a2, .i a3, .i a6, .i x17, .i (IntKind.u64.wrap (x23 - (IntKind.u64.wrap (x24 * a2)))), .i x23, .i x24]
     else
      k [.i a0, .i a1, .i a2, .i a3, .i a4, .i a5, .i a6, .i x17, .i x18]
    else
     bif decide ((IntKind.u64.wrap (a7 * a3)) > (IntKind.u64.wrap ((IntKind.u64.wrap (4294967296 * a8)) + a5))) then
      let x30 : Int := (IntKind.u64.wrap (a7 - 1))
      let x31 : Int := (IntKind.u64.wrap (a8 + a2))
      bif (decide (x31 ≥ 4294967296)) then
       let x36 : Int := (IntKind.u64.wrap ((IntKind.u64.wrap ((IntKind.u64.wrap (a4 * 4294967296)) + a5)) - (IntKind.u64.wrap (x30 * a0))))
       bif decide (a2 = 0) then
        none
       else
        let x37 : Int := (IntKind.u64.wrap (x36.tdiv a2))
        L47_1 m m [.i a0, .i a1, .i a2, .i a3, .i a6, .i x30, .i (IntKind.u64.wrap (x36 - (IntKind.u64.wrap (x37 * a2)))), .i x36, .i x37]
      else
       k [.i a0, .i a1, .i a2, .i a3, .i a4, .i a5, .i a6, .i x30, .i x31]
     else
      let x43 : Int := (IntKind.u64.wrap ((IntKind.u64.wrap ((IntKind.u64.wrap (a4 * 4294967296)) + a5)) - (IntKind.u64.wrap (a7 * a0))))
      bif decide (a2 = 0) then
       none
      else
       let x44 : Int := (IntKind.u64.wrap (x43.tdiv a2))
       L47_1 m m [.i a0, .i a1, .i a2, .i a3, .i a6, .i a7, .i (IntKind.u64.wrap (x43 - (IntKind.u64.wrap (x44 * a2)))), .i x43, .i x44]
  | _ => none
def L47_0 (m : Nat) : Nat → List Sc → Option Value := iter (L47_0s m)
theorem L47_0_succ (m : Nat) (n : Nat) : L47_0 m (n + 1) = L47_0s m (L47_0 m n) := rfl
def S47_0 (F : List Sc → Option Value) : Stop := ⟨[.lp [0, 0, 1, 1, 1, 1, 1, 1, 1, 1, 1, 1, 1, 1, 1, 1], .blk 0, .code [1, 1, 1, 1, 1, 1, 1, 1, 1, 1, 1, 1, 1, 1, 1]], ⟨135, [(2, .int .u64), (8, .int .u64), (9, .int .u64), (10, .int .u64), (11, .int .u64), (13, .int .u64), (14, .int .u64), (15, .int .u64), (16, .int .u64)], 0, .e⟩, F⟩
def t47 (m : Nat) (a0 : Int) (a1 : Int) (a2 : Int) : Option Value :=
  bif a2 == 0 then
   none
  else
   bif decide (a2 ≤ a0) then
    none
   else
    bif a0 == 0 then
     bif decide (a2 = 0) then
      none
     else
      bif decide (a2 = 0) then
       none
      else
       some (.tuple #[.int .u64 (IntKind.u64.wrap (a1.tdiv a2)), .int .u64 (a1.tmod a2)])
    else
     bif decide (0 ≤ a2 ∧ a2 < 18446744073709551616) then
      let x2 : Int := (IntKind.u64.wrap (64 - len64 a2))
      bif decide (x2 < 0) then
       none
      else
       let x3 : Int := (IntKind.u64.wrap (a2 * 2 ^ (min x2.toNat 64)))
       let x4 : Int := (x3.fdiv (2 ^ (min (32 : Int).toNat 64)))
       bif decide (x2 < 0) then
        none
       else
        let x7 : Int := (IntKind.u64.wrap (64 - x2))
        bif decide (x7 < 0) then
         none
        else
         let x9 : Int := (IntKind.u64.wrap ((BitVec.ofInt 64 (IntKind.u64.wrap (a0 * 2 ^ (min x2.toNat 64))) ||| BitVec.ofInt 64 (a1.fdiv (2 ^ (min x7.toNat 64)))).toNat))
         bif decide (x2 < 0) then
          none
         else
          let x10 : Int := (IntKind.u64.wrap (a1 * 2 ^ (min x2.toNat 64)))
          bif decide (x4 = 0) then
           none
          else
           let x13 : Int := (IntKind.u64.wrap (x9.tdiv x4))
           L47_0 m m [.i x3, .i x2, .i x4, .i (IntKind.u64.wrap ((BitVec.ofInt 64 x3 &&& BitVec.ofInt 64 4294967295).toNat)), .i x9, .i (x10.fdiv (2 ^ (min (32 : Int).toNat 64))), .i (IntKind.u64.wrap ((BitVec.ofInt 64 x10 &&& BitVec.ofInt 64 4294967295).toNat)), .i x13, .i (IntKind.u64.wrap (x9 - (IntKind.u64.wrap (x13 * x4))))]
     else
      none
def T47 : Tab := tabOf [(48, e48)]
theorem T47_right : Known.right Try.prog T47 := tab_right (all1 right48 all0)
theorem G47_1 (m : Nat) (k : List Sc → Option Value) (g : Nat → Value) (a0 : Int) (a1 : Int) (a2 : Int) (a3 : Int) (a4 : Int) (a5 : Int) (a6 : Int) (a7 : Int) (a8 : Int) : roadFrom Try.prog T47 (fun _ => true) (bodyOf (fnOf Try.prog 47)) [0, 0, 1, 1, 1, 1, 1, 1, 1, 1, 1, 1, 1, 1, 1, 1, 1, 1, 1, 1] [.blk 2, .code [1, 1, 1, 1, 1, 1, 1, 1, 1, 1, 1, 1, 1, 1, 1, 1, 1, 1, 1]] (S47_1 k).pat g [.i a0, .i a1, .i a2, .i a3, .i a4, .i a5, .i a6, .i a7, .i a8] (kks (fnOf Try.prog 47).results.toList Try.prog [S47_1 k]) = L47_1s m k [.i a0, .i a1, .i a2, .i a3, .i a4, .i a5, .i a6, .i a7, .i a8] := by kernel_rfl
theorem Y47_1 {m : Nat} {k : List Sc → Option Value} {xs : List Sc} {v : Value} (h : L47_1s m k xs = some v) : ∃ a0 a1 a2 a3 a4 a5 a6 a7 a8, xs = [.i a0, .i a1, .i a2, .i a3, .i a4, .i a5, .i a6, .i a7, .i a8] := by
  unfold L47_1s at h
  split at h
  · exact ⟨_, _, _, _, _, _, _, _, _, rfl⟩
  · cases h
theorem H47_1 (m : Nat) : ∀ n, (S47_1 (L47_1 m n)).Holds Try.prog [] (ofTab T47) (fnOf Try.prog 47).results.toList (bodyOf (fnOf Try.prog 47)) :=
  Stop.iter (mk := S47_1) (Fs := L47_1s m) (S := fun k => [S47_1 k]) (p := [0, 0, 1, 1, 1, 1, 1, 1, 1, 1, 1, 1, 1, 1, 1, 1, 1, 1, 1, 1]) (rest := [.blk 2, .code [1, 1, 1, 1, 1, 1, 1, 1, 1, 1, 1, 1, 1, 1, 1, 1, 1, 1, 1]]) (pat := (S47_1 (fun _ => none)).pat) (stop := fun _ => true)
    (fun _ => rfl) (fun _ => rfl) (fun _ => rfl) (by kernel_rfl) (by kernel_rfl)
    (fun k h => (all1 h all0))
    (fun k g xs v h => by
      obtain ⟨a0, a1, a2, a3, a4, a5, a6, a7, a8, rfl⟩ := Y47_1 h
      exact (G47_1 m k g a0 a1 a2 a3 a4 a5 a6 a7 a8).trans h)
theorem G47_0 (m : Nat) (k : List Sc → Option Value) (g : Nat → Value) (a0 : Int) (a1 : Int) (a2 : Int) (a3 : Int) (a4 : Int) (a5 : Int) (a6 : Int) (a7 : Int) (a8 : Int) : roadFrom Try.prog T47 (fun _ => true) (bodyOf (fnOf Try.prog 47)) [0, 0, 1, 1, 1, 1, 1, 1, 1, 1, 1, 1, 1, 1, 1, 1] [.blk 0, .code [1, 1, 1, 1, 1, 1, 1, 1, 1, 1, 1, 1, 1, 1, 1]] (S47_0 k).pat g [.i a0, .i a1, .i a2, .i a3, .i a4, .i a5, .i a6, .i a7, .i a8] (kks (fnOf Try.prog 47).results.toList Try.prog [S47_0 k, S47_1 (L47_1 m m)]) = L47_0s m k [.i a0, .i a1, .i a2, .i a3, .i a4, .i a5, .i a6, .i a7, .i a8] := by kernel_rfl
theorem Y47_0 {m : Nat} {k : List Sc → Option Value} {xs : List Sc} {v : Value} (h : L47_0s m k xs = some v) : ∃ a0 a1 a2 a3 a4 a5 a6 a7 a8, xs = [.i a0, .i a1, .i a2, .i a3, .i a4, .i a5, .i a6, .i a7, .i a8] := by
  unfold L47_0s at h
  split at h
  · exact ⟨_, _, _, _, _, _, _, _, _, rfl⟩
  · cases h
theorem H47_0 (m : Nat) : ∀ n, (S47_0 (L47_0 m n)).Holds Try.prog [] (ofTab T47) (fnOf Try.prog 47).results.toList (bodyOf (fnOf Try.prog 47)) :=
  Stop.iter (mk := S47_0) (Fs := L47_0s m) (S := fun k => [S47_0 k, S47_1 (L47_1 m m)]) (p := [0, 0, 1, 1, 1, 1, 1, 1, 1, 1, 1, 1, 1, 1, 1, 1]) (rest := [.blk 0, .code [1, 1, 1, 1, 1, 1, 1, 1, 1, 1, 1, 1, 1, 1, 1]]) (pat := (S47_0 (fun _ => none)).pat) (stop := fun _ => true)
    (fun _ => rfl) (fun _ => rfl) (fun _ => rfl) (by kernel_rfl) (by kernel_rfl)
    (fun k h => (all1 h (all1 (H47_1 m m) all0)))
    (fun k g xs v h => by
      obtain ⟨a0, a1, a2, a3, a4, a5, a6, a7, a8, rfl⟩ := Y47_0 h
      exact (G47_0 m k g a0 a1 a2 a3 a4 a5 a6 a7 a8).trans h)
theorem G47 (m : Nat) (a0 : Int) (a1 : Int) (a2 : Int) : roadIn Try.prog T47 (fun _ => true) (fnOf Try.prog 47) [.int .u64 a0, .int .u64 a1, .int .u64 a2] (kks (fnOf Try.prog 47).results.toList Try.prog [S47_0 (L47_0 m m)]) = t47 m a0 a1 a2 := by kernel_rfl
theorem told47 (m : Nat) (a0 : Int) (a1 : Int) (a2 : Int) {v : Value} (h : t47 m a0 a1 a2 = some v) (hv : plainT v = true) : ToldOk Try.prog 47 [.int .u64 a0, .int .u64 a1, .int .u64 a2] v :=
  told_road' (S := [S47_0 (L47_0 m m)]) Seat.mix Seat.names T47_right (by kernel_rfl) (by kernel_rfl) (by kernel_rfl)
    (all1 (H47_0 m m) all0) ((G47 m a0 a1 a2).trans h) rfl hv
theorem spec47 (a0 : Int) (a1 : Int) (a2 : Int) (hc : (decide (0 ≤ a0 ∧ a0 < a2 ∧ a2 < 18446744073709551616 ∧ 0 ≤ a1 ∧ a1 < 18446744073709551616)) = true) : ∃ m, t47 m a0 a1 a2 = some (.tuple #[.int .u64 ((a0 * 18446744073709551616 + a1) / a2), .int .u64 ((a0 * 18446744073709551616 + a1) % a2)]) := by
  obtain ⟨h0, h1, h2, h3, h4⟩ := of_decide_eq_true hc
  refine ⟨4294967310, ?_⟩
  -- the two loops
  have two : ∀ v s v1 v0 d0 Q1 R1 : Int, v = v1 * 4294967296 + v0 → 2147483648 ≤ v1 → v1 < 4294967296 → 0 ≤ v0 → v0 < 4294967296 → 0 ≤ s → 0 ≤ Q1 → Q1 < 4294967296 → 0 ≤ d0 → d0 < 4294967296 → 0 ≤ R1 → R1 < v →
      ∀ (n : Nat) (q r : Int), R1 = q * v1 + r → 0 ≤ r → r < 4294967296 → (R1 * 4294967296 + d0) / v ≤ q → q ≤ 4294967297 → q - (R1 * 4294967296 + d0) / v < n →
      L47_1 4294967310 n [.i v, .i s, .i v1, .i v0, .i d0, .i Q1, .i r, .i R1, .i q] = some (.tuple #[.int .u64 (Q1 * 4294967296 + (R1 * 4294967296 + d0) / v), .int .u64 (((R1 * 4294967296 + d0) % v) / 2 ^ (min s.toNat 64))]) := by
    intro v s v1 v0 d0 Q1 R1 hv hv1 hv2 hv3 hv4 hs hQ0 hQ hd0 hd hR0 hR n
    have hvp : 0 < v := by omega
    have hq := knuth_lt hvp hR0 hR hd0 hd
    induction n with
    | zero => intro q r _ _ _ _ _ h; omega
    | succ n ih =>
      intro q r hU hr0 hr hge hle hn
      have htest := knuth_test (U := R1) (d := d0) hv hvp hU
      have hm := mul_le (a := q) (b := v0) (m := 4294967297) (n := 4294967295) (by omega) (by omega) (by omega) (by omega)
      have down : (R1 * 4294967296 + d0) / v < q → r + v1 < 4294967296 → L47_1 4294967310 n [.i v, .i s, .i v1, .i v0, .i d0, .i Q1, .i (r + v1), .i R1, .i (q - 1)] = some (.tuple #[.int .u64 (Q1 * 4294967296 + (R1 * 4294967296 + d0) / v), .int .u64 (((R1 * 4294967296 + d0) % v) / 2 ^ (min s.toNat 64))]) := by
        intro h1 h2
        exact ih (q - 1) (r + v1) (by rw [Int.sub_mul]; omega) (by omega) h2 (by omega) (by omega) (by omega)
      have stop : ∀ q', q' = (R1 * 4294967296 + d0) / v → (some (Value.tuple #[.int .u64 (IntKind.u64.wrap ((IntKind.u64.wrap (Q1 * 4294967296)) + q')), .int .u64 ((IntKind.u64.wrap ((IntKind.u64.wrap ((IntKind.u64.wrap (R1 * 4294967296)) + d0)) - (IntKind.u64.wrap (q' * v)))).fdiv (2 ^ (min s.toNat 64)))])) = some (.tuple #[.int .u64 (Q1 * 4294967296 + (R1 * 4294967296 + d0) / v), .int .u64 (((R1 * 4294967296 + d0) % v) / 2 ^ (min s.toNat 64))]) := by
        intro q' e
        rw [knuth_rest (by rw [e]) hvp (by omega) hd0 hd, wu (n := Q1 * 4294967296) (by omega) (by omega), wu (by omega) (by omega), fd (Int.le_of_lt (Int.pow_pos (by decide))), e]
      have out : (R1 * 4294967296 + d0) / v < q → q ≤ 4294967297 → 4294967296 ≤ r + v1 → q - 1 = (R1 * 4294967296 + d0) / v := by
        intro h1 h2 h3
        have t2 := knuth_test (U := R1) (q := q - 1) (r := r + v1) (d := d0) hv hvp (by rw [Int.sub_mul]; omega)
        have m2 := mul_le (a := q - 1) (b := v0) (m := 4294967296) (n := 4294967295) (by omega) (by omega) (by omega) (by omega)
        omega
      rw [L47_1_succ]
      unfold L47_1s
      simp only []
      have hsn : ¬ s < 0 := by omega
      by_cases c1 : q ≥ 4294967296
      · rw [wu (n := q - 1) (by omega) (by omega), wu (n := r + v1) (by omega) (by omega)]
        by_cases c2 : r + v1 ≥ 4294967296
        · simp only [c1, c2, hsn, decide_true, decide_false, cond_true, cond_false]
          exact stop _ (out (by omega) hle c2)
        · simp only [c1, c2, decide_true, decide_false, cond_true, cond_false]
          exact down (by omega) (by omega)
      · have m3 := mul_le (a := q) (b := v0) (m := 4294967295) (n := 4294967295) (by omega) (by omega) (by omega) (by omega)
        rw [wu (n := q * v0) (by omega) (by omega), wu (n := 4294967296 * r) (by omega) (by omega), wu (n := 4294967296 * r + d0) (by omega) (by omega)]
        by_cases c3 : q * v0 > 4294967296 * r + d0
        · rw [wu (n := q - 1) (by omega) (by omega), wu (n := r + v1) (by omega) (by omega)]
          by_cases c2 : r + v1 ≥ 4294967296
          · simp only [c1, c2, c3, hsn, decide_true, decide_false, cond_true, cond_false]
            exact stop _ (out (by omega) hle c2)
          · simp only [c1, c2, c3, decide_true, decide_false, cond_true, cond_false]
            exact down (by omega) (by omega)
        · simp only [c1, c3, hsn, decide_false, cond_false]
          exact stop _ (by omega)
  have one : ∀ v s v1 v0 d1 d0 U : Int, v = v1 * 4294967296 + v0 → 2147483648 ≤ v1 → v1 < 4294967296 → 0 ≤ v0 → v0 < 4294967296 → 0 ≤ s → 0 ≤ d1 → d1 < 4294967296 → 0 ≤ d0 → d0 < 4294967296 → 0 ≤ U → U < v →
      ∀ (n : Nat) (q r : Int), U = q * v1 + r → 0 ≤ r → r < 4294967296 → (U * 4294967296 + d1) / v ≤ q → q ≤ 4294967297 → q - (U * 4294967296 + d1) / v < n →
      L47_0 4294967310 n [.i v, .i s, .i v1, .i v0, .i U, .i d1, .i d0, .i q, .i r] = some (.tuple #[.int .u64 ((U * 4294967296 + d1) / v * 4294967296 + ((U * 4294967296 + d1) % v * 4294967296 + d0) / v), .int .u64 ((((U * 4294967296 + d1) % v * 4294967296 + d0) % v) / 2 ^ (min s.toNat 64))]) := by
    intro v s v1 v0 d1 d0 U hv hv1 hv2 hv3 hv4 hs hd1 hd1' hd0 hd0' hU0 hU n
    have hvp : 0 < v := by omega
    have hq := knuth_lt hvp hU0 hU hd1 hd1'
    induction n with
    | zero => intro q r _ _ _ _ _ h; omega
    | succ n ih =>
      intro q r hUq hr0 hr hge hle hn
      have htest := knuth_test (U := U) (d := d1) hv hvp hUq
      have down : (U * 4294967296 + d1) / v < q → r + v1 < 4294967296 → L47_0 4294967310 n [.i v, .i s, .i v1, .i v0, .i U, .i d1, .i d0, .i (q - 1), .i (r + v1)] = some (.tuple #[.int .u64 ((U * 4294967296 + d1) / v * 4294967296 + ((U * 4294967296 + d1) % v * 4294967296 + d0) / v), .int .u64 ((((U * 4294967296 + d1) % v * 4294967296 + d0) % v) / 2 ^ (min s.toNat 64))]) := by
        intro h1 h2
        exact ih (q - 1) (r + v1) (by rw [Int.sub_mul]; omega) (by omega) h2 (by omega) (by omega) (by omega)
      have hv1n : ¬ v1 = 0 := by omega
      have stop : ∀ q' R1, q' = (U * 4294967296 + d1) / v → R1 = IntKind.u64.wrap (IntKind.u64.wrap (IntKind.u64.wrap (U * 4294967296) + d1) - IntKind.u64.wrap (q' * v)) →
          (L47_1 4294967310 4294967310 [.i v, .i s, .i v1, .i v0, .i d0, .i q', .i (IntKind.u64.wrap (R1 - (IntKind.u64.wrap ((IntKind.u64.wrap (R1.tdiv v1)) * v1)))), .i R1, .i (IntKind.u64.wrap (R1.tdiv v1))]) = some (.tuple #[.int .u64 ((U * 4294967296 + d1) / v * 4294967296 + ((U * 4294967296 + d1) % v * 4294967296 + d0) / v), .int .u64 ((((U * 4294967296 + d1) % v * 4294967296 + d0) % v) / 2 ^ (min s.toNat 64))]) := by
        intro q' R1 e eR
        rw [knuth_rest (by rw [e]) hvp (by omega) hd1 hd1'] at eR
        have b1 := Int.emod_nonneg (U * 4294967296 + d1) (show v ≠ 0 by omega)
        have b2 := Int.emod_lt_of_pos (U * 4294967296 + d1) hvp
        rw [← eR] at b1 b2
        have ks := knuth_start hv hv1 hv4 b1 b2
        have kg := knuth_ge (U := R1) (d := d0) hv (by omega) hvp hv3 b1 hd0 hd0'
        have km := Int.mul_ediv_add_emod R1 v1
        have kn := Int.emod_nonneg R1 (show v1 ≠ 0 by omega)
        have ko := Int.emod_lt_of_pos R1 (show 0 < v1 by omega)
        have kl := knuth_lt hvp b1 b2 hd0 hd0'
        rw [Int.mul_comm] at km
        have kz : 0 ≤ R1 / v1 * v1 := Int.mul_nonneg ks.1 (by omega)
        rw [td _ b1, wu (n := R1 / v1) (by omega) (by omega), wu (n := R1 / v1 * v1) (by omega) (by omega), wu (n := R1 - R1 / v1 * v1) (by omega) (by omega)]
        rw [two v s v1 v0 d0 q' R1 hv hv1 hv2 hv3 hv4 hs (by omega) (by omega) hd0 hd0' b1 b2 4294967310 (R1 / v1) (R1 - R1 / v1 * v1) (by omega) (by omega) (by omega) kg ks.2 (by omega), e, eR]
      have out : (U * 4294967296 + d1) / v < q → q ≤ 4294967297 → 4294967296 ≤ r + v1 → q - 1 = (U * 4294967296 + d1) / v := by
        intro h1 h2 h3
        have t2 := knuth_test (U := U) (q := q - 1) (r := r + v1) (d := d1) hv hvp (by rw [Int.sub_mul]; omega)
        have m2 := mul_le (a := q - 1) (b := v0) (m := 4294967296) (n := 4294967295) (by omega) (by omega) (by omega) (by omega)
        omega
      rw [L47_0_succ]
      unfold L47_0s
      simp only []
      by_cases c1 : q ≥ 4294967296
      · rw [wu (n := q - 1) (by omega) (by omega), wu (n := r + v1) (by omega) (by omega)]
        by_cases c2 : r + v1 ≥ 4294967296
        · simp only [c1, c2, hv1n, decide_true, decide_false, cond_true, cond_false]
          exact stop _ _ (out (by omega) hle c2) rfl
        · simp only [c1, c2, decide_true, decide_false, cond_true, cond_false]
          exact down (by omega) (by omega)
      · have m3 := mul_le (a := q) (b := v0) (m := 4294967295) (n := 4294967295) (by omega) (by omega) (by omega) (by omega)
        rw [wu (n := q * v0) (by omega) (by omega), wu (n := 4294967296 * r) (by omega) (by omega), wu (n := 4294967296 * r + d1) (by omega) (by omega)]
        by_cases c3 : q * v0 > 4294967296 * r + d1
        · rw [wu (n := q - 1) (by omega) (by omega), wu (n := r + v1) (by omega) (by omega)]
          by_cases c2 : r + v1 ≥ 4294967296
          · simp only [c1, c2, c3, hv1n, decide_true, decide_false, cond_true, cond_false]
            exact stop _ _ (out (by omega) hle c2) rfl
          · simp only [c1, c2, c3, decide_true, decide_false, cond_true, cond_false]
            exact down (by omega) (by omega)
        · simp only [c1, c3, hv1n, decide_false, cond_false]
          exact stop _ _ (by omega) rfl
  unfold t47
  have n1 : ¬ a2 ≤ a0 := by omega
  have n2 : ¬ a2 = 0 := by omega
  have n3 : (a2 == 0) = false := by simpa using n2
  simp only [n1, n2, n3, decide_false, cond_false]
  by_cases z0 : a0 = 0
  · subst z0
    simp only [BEq.rfl, cond_true]
    rw [td _ h3, tm _ h3]
    have q0 : 0 ≤ a1 / a2 := Int.ediv_nonneg h3 (by omega)
    have q1 : a1 / a2 ≤ a1 := Int.ediv_le_self _ h3
    rw [wu q0 (by omega)]
    simp
  have z0' : (a0 == 0) = false := by simpa using z0
  simp only [z0', cond_false, h2, show 0 ≤ a2 by omega, and_self, decide_true, cond_true]
  obtain ⟨p, p', s, hs0, hs1, hsx, hp, hp', hpp, hp0, hp1, hvl, hvh⟩ : ∃ (p p' s : Int), 0 ≤ s ∧ s < 64 ∧ IntKind.u64.wrap (64 - len64 a2) = s ∧ (2 : Int) ^ (min s.toNat 64) = p ∧ (2 : Int) ^ (min (64 - s).toNat 64) = p' ∧ p * p' = 18446744073709551616 ∧ 0 < p ∧ 0 < p' ∧ 9223372036854775808 ≤ a2 * p ∧ a2 * p < 18446744073709551616 := by
    obtain ⟨k, hk, hk64, hlo, hhi⟩ := len_norm (x := a2) (by omega) h2
    refine ⟨2 ^ k, 2 ^ (64 - k), k, by omega, by omega, ?_, ?_, ?_, ?_, ?_, ?_, ?_, ?_⟩
    · rw [hk, wu (by omega) (by omega)]; omega
    · congr 1; omega
    · congr 1; omega
    · rw [← Int.pow_add, show k + (64 - k) = 64 by omega]; rfl
    · exact Int.pow_pos (by decide)
    · exact Int.pow_pos (by decide)
    · exact hlo
    · exact hhi
  rw [hsx, wu (n := 64 - s) (by omega) (by omega)]
  have n4 : ¬ s < 0 := by omega
  have n5 : ¬ 64 - s < 0 := by omega
  simp only [n4, n5, decide_false, cond_false]
  rw [hp, hp', wu (n := a2 * p) (by omega) (by omega), fd (b := p') (by omega)]
  simp only [fd32]
  have hpm : ¬ a2 * p / 4294967296 = 0 := by omega
  simp only [hpm, decide_false, cond_false]
  rw [and_mask (by omega) hvh, and_mask (x := IntKind.u64.wrap (a1 * p)) (by rw [wu_mod]; omega) (by rw [wu_mod]; omega)]
  have ea : (a0 + 1) * p ≤ a2 * p := Int.mul_le_mul_of_nonneg_right (by omega) (by omega)
  rw [Int.add_mul] at ea
  have ea0 : 0 ≤ a0 * p := Int.mul_nonneg h0 (by omega)
  have ed := Int.mul_ediv_add_emod a1 p'
  rw [Int.mul_comm] at ed
  have ed0 := Int.emod_nonneg a1 (show p' ≠ 0 by omega)
  have ed1 := Int.emod_lt_of_pos a1 hp1
  have eq0 : 0 ≤ a1 / p' := Int.ediv_nonneg h3 (by omega)
  have eq1 : a1 / p' < p := by rw [Int.ediv_lt_iff_lt_mul hp1, hpp]; exact h4
  have el : IntKind.u64.wrap (a1 * p) = a1 % p' * p := by
    rw [wu_mod]
    have : a1 * p = a1 / p' * 18446744073709551616 + a1 % p' * p := by
      conv => lhs; rw [← ed]
      rw [Int.add_mul, Int.mul_assoc, Int.mul_comm p' p, hpp]
    have l0 : 0 ≤ a1 % p' * p := Int.mul_nonneg ed0 (by omega)
    have l1 : a1 % p' * p < 18446744073709551616 := by
      have : (a1 % p' + 1) * p ≤ p' * p := Int.mul_le_mul_of_nonneg_right (by omega) (by omega)
      rw [Int.add_mul, Int.mul_comm p' p, hpp] at this
      omega
    omega
  have l0 : 0 ≤ a1 % p' * p := Int.mul_nonneg ed0 (by omega)
  have l1 : a1 % p' * p < 18446744073709551616 := by
    have := el; rw [wu_mod] at this; omega
  have eo : IntKind.u64.wrap ((BitVec.ofInt 64 (IntKind.u64.wrap (a0 * p)) ||| BitVec.ofInt 64 (a1 / p')).toNat) = a0 * p + a1 / p' := by
    rw [wu (n := a0 * p) ea0 (by omega)]
    have := or_shift (k := min s.toNat 64) (a := a0) (b := a1 / p') h0 eq0 (by rw [hp]; exact eq1) (by rw [hp]; omega)
    rw [hp] at this
    rw [this, wu (by omega) (by omega)]
  rw [eo, el]
  -- the whole
  generalize hv : a2 * p = v at *
  generalize hU : a0 * p + a1 / p' = U at *
  generalize hl : a1 % p' * p = l at *
  rw [wu (n := v % 4294967296) (by omega) (by omega), wu (n := l % 4294967296) (by omega) (by omega)]
  have ks := knuth_start (v := v) (v1 := v / 4294967296) (v0 := v % 4294967296) (U := U) (by omega) (by omega) (by omega) (by omega) (by omega)
  have kg := knuth_ge (v := v) (v1 := v / 4294967296) (v0 := v % 4294967296) (U := U) (d := l / 4294967296) (by omega) (by omega) (by omega) (by omega) (by omega) (by omega) (by omega)
  have kl := knuth_lt (v := v) (U := U) (d := l / 4294967296) (by omega) (by omega) (by omega) (by omega) (by omega)
  have km := Int.mul_ediv_add_emod U (v / 4294967296)
  have kn := Int.emod_nonneg U (show v / 4294967296 ≠ 0 by omega)
  have ko := Int.emod_lt_of_pos U (show 0 < v / 4294967296 by omega)
  rw [Int.mul_comm] at km
  have kz : 0 ≤ U / (v / 4294967296) * (v / 4294967296) := Int.mul_nonneg ks.1 (by omega)
  rw [td _ (show 0 ≤ U by omega), wu (n := U / (v / 4294967296)) (by omega) (by omega), wu (n := U / (v / 4294967296) * (v / 4294967296)) (by omega) (by omega), wu (n := U - U / (v / 4294967296) * (v / 4294967296)) (by omega) (by omega)]
  rw [one v s (v / 4294967296) (v % 4294967296) (l / 4294967296) (l % 4294967296) U (by omega) (by omega) (by omega) (by omega) (by omega) hs0 (by omega) (by omega) (by omega) (by omega) (by omega) (by omega) 4294967310 _ _ (by omega) (by omega) (by omega) kg ks.2 (by omega), hp]
  have hN : (a0 * 18446744073709551616 + a1) * p = ((U * 4294967296 + l / 4294967296) / v * 4294967296) * v + ((U * 4294967296 + l / 4294967296) % v * 4294967296 + l % 4294967296) := by
    have e1 := Int.mul_ediv_add_emod (U * 4294967296 + l / 4294967296) v
    rw [Int.mul_comm] at e1
    have e2 : (U * 4294967296 + l / 4294967296) / v * 4294967296 * v = (U * 4294967296 + l / 4294967296) / v * v * 4294967296 := by
      rw [Int.mul_assoc, Int.mul_comm 4294967296 v, ← Int.mul_assoc]
    have e3 : (a0 * 18446744073709551616 + a1) * p = U * 18446744073709551616 + l := by
      rw [← hU, ← hl, Int.add_mul, Int.add_mul, Int.mul_assoc, Int.mul_comm 18446744073709551616 p, ← Int.mul_assoc]
      have : a1 * p = a1 / p' * 18446744073709551616 + a1 % p' * p := by
        conv => lhs; rw [← ed]
        rw [Int.add_mul, Int.mul_assoc, Int.mul_comm p' p, hpp]
      omega
    rw [e3, e2]
    omega
  have hvp : 0 < v := by omega
  have f1 : (a0 * 18446744073709551616 + a1) / a2 = (U * 4294967296 + l / 4294967296) / v * 4294967296 + ((U * 4294967296 + l / 4294967296) % v * 4294967296 + l % 4294967296) / v := by
    rw [← Int.mul_ediv_mul_of_pos_left _ a2 hp0, hN, hv, Int.add_comm (_ * v), Int.add_mul_ediv_right _ _ (by omega), Int.add_comm]
  have f2 : (a0 * 18446744073709551616 + a1) % a2 = ((U * 4294967296 + l / 4294967296) % v * 4294967296 + l % 4294967296) % v / p := by
    have e4 : (a0 * 18446744073709551616 + a1) * p % v = ((U * 4294967296 + l / 4294967296) % v * 4294967296 + l % 4294967296) % v := by
      rw [hN, Int.add_comm (_ * v), Int.add_mul_emod_self_right]
    rw [← e4, ← hv, Int.mul_comm _ p, Int.mul_comm a2 p, Int.mul_emod_mul_of_pos _ _ hp0, Int.mul_ediv_cancel_left _ (by omega)]
  rw [f1, f2]
theorem right47 : EntRight Try.prog 47 e47 := ent_right (by
  intro xs v h
  unfold q47 at h
  split at h
  · rename_i a0 a1 a2
    simp only [Option.some.injEq, Prod.mk.injEq] at h
    obtain ⟨hc, rfl⟩ := h
    obtain ⟨m, hm⟩ := spec47 a0 a1 a2 hc
    exact told47 m a0 a1 a2 hm rfl
  · cases h)

end Go.Proofs.Ytncgbpajngakpaa
