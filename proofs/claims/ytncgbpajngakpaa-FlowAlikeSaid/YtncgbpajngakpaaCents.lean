/- A product by a divisor, rounded: what the program and the document answer. Conditions: none. -/
import Derived.Test.YtncgbpajngakpaaBits
namespace Go.Proofs.Ytncgbpajngakpaa
open Go Go.Proofs.Ytncgbpajngakpaa.Ev
set_option linter.unusedVariables false
set_option linter.unusedSimpArgs false
set_option linter.unnecessarySimpa false
/-- Is a quotient rounded up? -/
def mdUp (q r p h : Int) : Bool := (h == 1 && decide (r > 0)) || (h == 2 && (decide (r > p - r) || (r == p - r && q % 2 == 1)))
/-- A product by a divisor, rounded. -/
def mdQ (n b p h : Int) : Int := n * b / p + (if mdUp (n * b / p) (n * b % p) p h then 1 else 0)
def mdOk (n b p h : Int) : Bool := decide (0 ≤ n ∧ n ≤ 1152921504606846976 ∧ 0 ≤ b ∧ b ≤ 1152921504606846976 ∧ 1 ≤ p ∧ p ≤ 1152921504606846976 ∧ 0 ≤ h ∧ h ≤ 2 ∧ mdQ n b p h ≤ 1152921504606846976)
def mdV (n b p h : Int) : Int := if mdOk n b p h then mdQ n b p h else 0
theorem md_no {n b p h : Int} (hn : ¬ (0 ≤ n ∧ n ≤ 1152921504606846976 ∧ 0 ≤ b ∧ b ≤ 1152921504606846976 ∧ 1 ≤ p ∧ p ≤ 1152921504606846976 ∧ 0 ≤ h ∧ h ≤ 2)) : mdOk n b p h = false ∧ mdV n b p h = 0 := by
  have : mdOk n b p h = false := by
    unfold mdOk; rw [decide_eq_false_iff_not]; rintro ⟨h1, h2, h3, h4, h5, h6, h7, h8, _⟩; exact hn ⟨h1, h2, h3, h4, h5, h6, h7, h8⟩
  simp [mdV, this]
theorem md_big {n b p h : Int} (hb : 1152921504606846976 < n * b / p) : mdOk n b p h = false ∧ mdV n b p h = 0 := by
  have : mdOk n b p h = false := by
    unfold mdOk mdQ; rw [decide_eq_false_iff_not]; rintro ⟨h1, h2, h3, h4, h5, h6, h7, h8, h9⟩; split at h9 <;> omega
  simp [mdV, this]
theorem md_ok {n b p h : Int} (h1 : 0 ≤ n) (h2 : n ≤ 1152921504606846976) (h3 : 0 ≤ b) (h4 : b ≤ 1152921504606846976) (h5 : 1 ≤ p) (h6 : p ≤ 1152921504606846976) (h7 : 0 ≤ h) (h8 : h ≤ 2) :
    mdOk n b p h = decide (mdQ n b p h ≤ 1152921504606846976) := by
  unfold mdOk; simp [h1, h2, h3, h4, h5, h6, h7, h8]
def q44 : List Sc → Option (Bool × Value)
  | [.i a0, .i a1, .i a2, .i a3] => some (true, .tuple #[.int .i64 (mdV a0 a1 a2 a3), .bool (mdOk a0 a1 a2 a3)])
  | _ => none
def e44 : List Value → Option (Bool × Value) := entOf [.int .i64, .int .i64, .int .i64, .int .i64] q44
/-! cascade/cents.MulDiv -/
def t44 (m : Nat) (a0 : Int) (a1 : Int) (a2 : Int) (a3 : Int) : Option Value :=
  bif decide (a0 < 0) then
   some (.tuple #[.int .i64 0, .bool false])
  else
   bif (decide (a0 > 1152921504606846976)) then
    some (.tuple #[.int .i64 0, .bool false])
   else
    bif decide (a1 < 0) then
     some (.tuple #[.int .i64 0, .bool false])
    else
     bif (decide (a1 > 1152921504606846976)) then
      some (.tuple #[.int .i64 0, .bool false])
     else
      bif decide (a2 < 0) then
       some (.tuple #[.int .i64 0, .bool false])
      else
       bif (decide (a2 > 1152921504606846976)) then
        some (.tuple #[.int .i64 0, .bool false])
       else
        bif a2 == 0 then
         some (.tuple #[.int .i64 0, .bool false])
        else
         bif decide (a3 < 0) then
          some (.tuple #[.int .i64 0, .bool false])
         else
          bif decide (a3 > 2) then
           some (.tuple #[.int .i64 0, .bool false])
          else
           bif decide (0 ≤ (IntKind.u64.wrap a0) ∧ (IntKind.u64.wrap a0) < 18446744073709551616 ∧ 0 ≤ (IntKind.u64.wrap a1) ∧ (IntKind.u64.wrap a1) < 18446744073709551616) then
            let x4 : Int := ((IntKind.u64.wrap a0) * (IntKind.u64.wrap a1) / 18446744073709551616)
            let x5 : Int := ((IntKind.u64.wrap a0) * (IntKind.u64.wrap a1) % 18446744073709551616)
            bif (decide (x4 ≥ (IntKind.u64.wrap a2))) then
             some (.tuple #[.int .i64 0, .bool false])
            else
             bif decide (0 ≤ x4 ∧ x4 < (IntKind.u64.wrap a2) ∧ (IntKind.u64.wrap a2) < 18446744073709551616 ∧ 0 ≤ x5 ∧ x5 < 18446744073709551616) then
              let x7 : Int := ((x4 * 18446744073709551616 + x5) / (IntKind.u64.wrap a2))
              let x8 : Int := ((x4 * 18446744073709551616 + x5) % (IntKind.u64.wrap a2))
              let x9 : Int := (IntKind.u64.wrap ((IntKind.u64.wrap a2) - x8))
              bif (decide (x7 > 1152921504606846976)) then
               some (.tuple #[.int .i64 0, .bool false])
              else
               bif a3 == 1 then
                bif decide (x8 > 0) then
                 bif decide (x8 > 0) then
                  let x11 : Int := (IntKind.u64.wrap (x7 + 1))
                  bif (decide (x11 > 1152921504606846976)) then
                   some (.tuple #[.int .i64 0, .bool false])
                  else
                   some (.tuple #[.int .i64 (IntKind.i64.wrap x11), .bool true])
                 else
                  bif (decide (x7 > 1152921504606846976)) then
                   some (.tuple #[.int .i64 0, .bool false])
                  else
                   some (.tuple #[.int .i64 (IntKind.i64.wrap x7), .bool true])
                else
                 bif a3 == 2 then
                  bif decide (x8 > x9) then
                   let x14 : Int := (IntKind.u64.wrap (x7 + 1))
                   bif (decide (x14 > 1152921504606846976)) then
                    some (.tuple #[.int .i64 0, .bool false])
                   else
                    some (.tuple #[.int .i64 (IntKind.i64.wrap x14), .bool true])
                  else
                   bif x8 == x9 then
                    bif (IntKind.u64.wrap ((BitVec.ofInt 64 x7 &&& BitVec.ofInt 64 1).toNat)) == 1 then
                     let x17 : Int := (IntKind.u64.wrap (x7 + 1))
                     bif (decide (x17 > 1152921504606846976)) then
                      some (.tuple #[.int .i64 0, .bool false])
                     else
                      some (.tuple #[.int .i64 (IntKind.i64.wrap x17), .bool true])
                    else
                     bif (decide (x7 > 1152921504606846976)) then
                      some (.tuple #[.int .i64 0, .bool false])
                     else
                      some (.tuple #[.int .i64 (IntKind.i64.wrap x7), .bool true])
                   else
                    bif (decide (x7 > 1152921504606846976)) then
                     some (.tuple #[.int .i64 0, .bool false])
                    else
                     some (.tuple #[.int .i64 (IntKind.i64.wrap x7), .bool true])
                 else
                  bif (decide (x7 > 1152921504606846976)) then
                   some (.tuple #[.int .i64 0, .bool false])
                  else
                   some (.tuple #[.int .i64 (IntKind.i64.wrap x7), .bool true])
               else
                bif a3 == 2 then
                 bif decide (x8 > x9) then
                  let x22 : Int := (IntKind.u64.wrap (x7 + 1))
                  bif (decide (x22 > 1152921504606846976)) then
                   some (.tuple #[.int .i64 0, .bool false])
                  else
                   some (.tuple #[.int .i64 (IntKind.i64.wrap x22), .bool true])
                 else
                  bif x8 == x9 then
                   bif (IntKind.u64.wrap ((BitVec.ofInt 64 x7 &&& BitVec.ofInt 64 1).toNat)) == 1 then
                    let x25 : Int := (IntKind.u64.wrap (x7 + 1))
                    bif (decide (x25 > 1152921504606846976)) then
                     some (.tuple #[.int .i64 0, .bool false])
                    else
                     some (.tuple #[.int .i64 (IntKind.i64.wrap x25), .bool true])
                   else
                    bif (decide (x7 > 1152921504606846976)) then
                     some (.tuple #[.int .i64 0, .bool false])
                    else
                     some (.tuple #[.int .i64 (IntKind.i64.wrap x7), .bool true])
                  else
                   bif (decide (x7 > 1152921504606846976)) then
                    some (.tuple #[.int .i64 0, .bool false])
                   else
                    some (.tuple #[.int .i64 (IntKind.i64.wrap x7), .bool true])
                else
                 bif (decide (x7 > 1152921504606846976)) then
                  some (.tuple #[.int .i64 0, .bool false])
                 else
                  some (.tuple #[.int .i64 (IntKind.i64.wrap x7), .bool true])
             else
              none
           else
            none
def T44 : Tab := tabOf [(46, e46), (47, e47)]
theorem T44_right : Known.right Try.prog T44 := tab_right (all1 right46 (all1 right47 all0))
theorem G44 (m : Nat) (a0 : Int) (a1 : Int) (a2 : Int) (a3 : Int) : roadIn Try.prog T44 (fun _ => true) (fnOf Try.prog 44) [.int .i64 a0, .int .i64 a1, .int .i64 a2, .int .i64 a3] (kks (fnOf Try.prog 44).results.toList Try.prog []) = t44 m a0 a1 a2 a3 := by kernel_rfl
theorem told44 (m : Nat) (a0 : Int) (a1 : Int) (a2 : Int) (a3 : Int) {v : Value} (h : t44 m a0 a1 a2 a3 = some v) (hv : plainT v = true) : ToldOk Try.prog 44 [.int .i64 a0, .int .i64 a1, .int .i64 a2, .int .i64 a3] v :=
  told_road' (S := []) Seat.mix Seat.names T44_right (by kernel_rfl) (by kernel_rfl) (by kernel_rfl)
    all0 ((G44 m a0 a1 a2 a3).trans h) rfl hv
theorem spec44 (a0 : Int) (a1 : Int) (a2 : Int) (a3 : Int) : ∃ m, t44 m a0 a1 a2 a3 = some (.tuple #[.int .i64 (mdV a0 a1 a2 a3), .bool (mdOk a0 a1 a2 a3)]) := by
  refine ⟨0, ?_⟩
  unfold t44
  by_cases g : 0 ≤ a0 ∧ a0 ≤ 1152921504606846976 ∧ 0 ≤ a1 ∧ a1 ≤ 1152921504606846976 ∧ 1 ≤ a2 ∧ a2 ≤ 1152921504606846976 ∧ 0 ≤ a3 ∧ a3 ≤ 2
  · obtain ⟨g1, g2, g3, g4, g5, g6, g7, g8⟩ := g
    have n1 : ¬ a0 < 0 := by omega
    have n2 : ¬ a0 > 1152921504606846976 := by omega
    have n3 : ¬ a1 < 0 := by omega
    have n4 : ¬ a1 > 1152921504606846976 := by omega
    have n5 : ¬ a2 < 0 := by omega
    have n6 : ¬ a2 > 1152921504606846976 := by omega
    have n7 : (a2 == 0) = false := by simp; omega
    have n8 : ¬ a3 < 0 := by omega
    have n9 : ¬ a3 > 2 := by omega
    rw [wu g1 (by omega), wu g3 (by omega), wu (n := a2) (by omega) (by omega)]
    simp only [n1, n2, n3, n4, n5, n6, n7, n8, n9, decide_false, cond_false, g1, g3, show a0 < 18446744073709551616 by omega, show a1 < 18446744073709551616 by omega, and_self, decide_true, cond_true]
    have hz := mul_le g1 g2 g3 g4
    rw [md_ok g1 g2 g3 g4 g5 g6 g7 g8]
    unfold mdV
    rw [md_ok g1 g2 g3 g4 g5 g6 g7 g8]
    unfold mdQ
    have hh : a3 = 0 ∨ a3 = 1 ∨ a3 = 2 := by omega
    have hq0 : 0 ≤ a0 * a1 / a2 := Int.ediv_nonneg (Int.mul_nonneg g1 g3) (by omega)
    have hr0 := Int.emod_nonneg (a0 * a1) (show a2 ≠ 0 by omega)
    have hr1 := Int.emod_lt_of_pos (a0 * a1) (show 0 < a2 by omega)
    generalize a0 * a1 = z at *
    have hq : z / 18446744073709551616 * 18446744073709551616 + z % 18446744073709551616 = z := by omega
    simp only [hq]
    by_cases hb : z / 18446744073709551616 ≥ a2
    · have : 1152921504606846976 < z / a2 := by
        have : 1152921504606846977 ≤ z / a2 := by
          rw [Int.le_ediv_iff_mul_le (by omega)]; omega
        omega
      have e : ¬ (z / a2 + (if mdUp (z / a2) (z % a2) a2 a3 = true then 1 else 0)) ≤ 1152921504606846976 := by split <;> omega
      simp [hb, e]
    · simp only [hb, decide_false, cond_false]
      have : 0 ≤ z / 18446744073709551616 ∧ z / 18446744073709551616 < a2 ∧ a2 < 18446744073709551616 ∧ 0 ≤ z % 18446744073709551616 ∧ z % 18446744073709551616 < 18446744073709551616 := by omega
      simp only [this, and_self, decide_true, cond_true]
      clear hq this hb
      generalize z / a2 = q at *
      generalize z % a2 = r at *
      generalize a2 = p at *
      by_cases c0 : q > 1152921504606846976
      · have e : ¬ (q + (if mdUp q r p a3 = true then 1 else 0)) ≤ 1152921504606846976 := by split <;> omega
        simp [c0, e]
      rw [wu (n := p - r) (by omega) (by omega), and_one (by omega) (by omega), wu (n := q % 2) (by omega) (by omega), wu (n := q + 1) (by omega) (by omega), wr (n := q + 1) (by omega) (by omega), wr (n := q) (by omega) (by omega)]
      rcases hh with rfl | rfl | rfl
      · simp [mdUp, c0, show ¬ 1152921504606846976 < q by omega, show q ≤ 1152921504606846976 by omega]
      · by_cases c1 : r > 0
        · by_cases c5 : q + 1 ≤ 1152921504606846976
          · simp [mdUp, c0, c1, c5, show ¬ 1152921504606846976 < q + 1 by omega]
          · simp [mdUp, c0, c1, c5, show 1152921504606846976 < q + 1 by omega]
        · simp [mdUp, c0, c1, show ¬ 1152921504606846976 < q by omega, show q ≤ 1152921504606846976 by omega]
      · by_cases c2 : r > p - r
        · by_cases c5 : q + 1 ≤ 1152921504606846976
          · simp [mdUp, c0, c2, c5, show ¬ 1152921504606846976 < q + 1 by omega]
          · simp [mdUp, c0, c2, c5, show 1152921504606846976 < q + 1 by omega]
        · by_cases c3 : r = p - r
          · by_cases c4 : q % 2 = 1
            · by_cases c5 : q + 1 ≤ 1152921504606846976
              · simp [mdUp, c0, c2, c4, c5, ← c3, show ¬ 1152921504606846976 < q + 1 by omega]
              · simp [mdUp, c0, c2, c4, c5, ← c3, show 1152921504606846976 < q + 1 by omega]
            · simp [mdUp, c0, c2, show (q % 2 == 1) = false by simpa using c4, c4, ← c3, show ¬ 1152921504606846976 < q by omega, show q ≤ 1152921504606846976 by omega]
          · simp [mdUp, c0, c2, show (r == p - r) = false by simpa using c3, c3, show ¬ 1152921504606846976 < q by omega, show q ≤ 1152921504606846976 by omega]
  · obtain ⟨e1, e2⟩ := md_no g
    rw [e1, e2]
    by_cases n1 : a0 < 0
    · simp [n1]
    by_cases n2 : a0 > 1152921504606846976
    · simp [n2]
    by_cases n3 : a1 < 0
    · simp [n3]
    by_cases n4 : a1 > 1152921504606846976
    · simp [n4]
    by_cases n5 : a2 < 0
    · simp [n5]
    by_cases n6 : a2 > 1152921504606846976
    · simp [n6]
    by_cases n7 : a2 = 0
    · simp [n7]
    by_cases n8 : a3 < 0
    · simp [n8]
    by_cases n9 : a3 > 2
    · simp [n9]
    omega
theorem right44 : EntRight Try.prog 44 e44 := ent_right (by
  intro xs v h
  unfold q44 at h
  split at h
  · rename_i a0 a1 a2 a3
    simp only [Option.some.injEq, Prod.mk.injEq, true_and] at h
    obtain rfl := h
    obtain ⟨m, hm⟩ := spec44 a0 a1 a2 a3
    exact told44 m a0 a1 a2 a3 hm rfl
  · cases h)
theorem pow_half (by_ : Int) (k : Nat) : by_ / 2 ^ k = 2 * (by_ / 2 ^ (k + 1)) + (by_ / 2 ^ k) % 2 := by
  have : by_ / 2 ^ (k + 1) = by_ / 2 ^ k / 2 := by rw [Int.pow_succ, Int.ediv_ediv_of_nonneg (Int.le_of_lt (Int.pow_pos (by decide)))]
  omega
/-- One bit more. -/
theorem md_step {n p u q r c : Int} (hp : 0 < p) (hc : c = 0 ∨ c = 1) (hq : q = n * u / p) (hr : r = n * u % p) :
    n * (2 * u + c) / p = 2 * q + c * (n / p) + (2 * r + c * (n % p)) / p ∧ n * (2 * u + c) % p = (2 * r + c * (n % p)) % p := by
  have e1 := Int.mul_ediv_add_emod (n * u) p
  have e2 := Int.mul_ediv_add_emod n p
  have e : n * (2 * u + c) = (2 * r + c * (n % p)) + (2 * q + c * (n / p)) * p := by
    rw [hq, hr, Int.mul_add, Int.mul_left_comm, Int.add_mul]
    rcases hc with rfl | rfl
    · simp only [Int.mul_zero, Int.zero_mul, Int.add_zero]
      have : 2 * (n * u / p) * p = 2 * (p * (n * u / p)) := by rw [Int.mul_assoc, Int.mul_comm p]
      omega
    · simp only [Int.mul_one, Int.one_mul]
      have h3 : 2 * (n * u / p) * p = 2 * (p * (n * u / p)) := by rw [Int.mul_assoc, Int.mul_comm p]
      have h4 : n / p * p = p * (n / p) := Int.mul_comm _ _
      omega
  rw [e, Int.add_mul_ediv_right _ _ (by omega), Int.add_mul_emod_self_right]
  exact ⟨by omega, rfl⟩
def q37 : List Sc → Option (Bool × Value)
  | [.i a0, .i a1, .i a2, .i a3] => some (true, .tuple #[.int .i64 (mdV a0 a1 a2 a3), .bool (mdOk a0 a1 a2 a3)])
  | _ => none
def e37 : List Value → Option (Bool × Value) := entOf [.int .i64, .int .i64, .int .i64, .int .i64] q37
/-! cascade/cascaderef1.MulDiv -/
def L37_0s (m : Nat) (k : List Sc → Option Value) : List Sc → Option Value
  | [.i a0, .i a1, .i a2, .i a3, .i a4, .i a5, .i a6] =>
    bif decide (a6 ≥ 0) then
     let x4 : Int := (IntKind.i64.wrap (2 * a4))
     let x5 : Int := (IntKind.i64.wrap (2 * a5))
     bif decide (a6 < 0) then
      none
     else
      bif (IntKind.i64.wrap ((BitVec.ofInt 64 (a1.fdiv (2 ^ (min a6.toNat 64))) &&& BitVec.ofInt 64 1).toNat)) == 1 then
       bif decide (a2 = 0) then
        none
       else
        bif decide (a2 = 0) then
         none
        else
         let x10 : Int := (IntKind.i64.wrap (x5 + (a0.tmod a2)))
         bif decide (a2 = 0) then
          none
         else
          let x12 : Int := (IntKind.i64.wrap ((IntKind.i64.wrap (x4 + (IntKind.i64.wrap (a0.tdiv a2)))) + (IntKind.i64.wrap (x10.tdiv a2))))
          bif decide (a2 = 0) then
           none
          else
           bif (decide (x12 > 1152921504606846976)) then
            some (.tuple #[.int .i64 0, .bool false])
           else
            k [.i a0, .i a1, .i a2, .i a3, .i x12, .i (x10.tmod a2), .i (IntKind.i64.wrap (a6 - 1))]
      else
       bif decide (a2 = 0) then
        none
       else
        let x16 : Int := (IntKind.i64.wrap (x4 + (IntKind.i64.wrap (x5.tdiv a2))))
        bif decide (a2 = 0) then
         none
        else
         bif (decide (x16 > 1152921504606846976)) then
          some (.tuple #[.int .i64 0, .bool false])
         else
          k [.i a0, .i a1, .i a2, .i a3, .i x16, .i (x5.tmod a2), .i (IntKind.i64.wrap (a6 - 1))]
    else
     let x19 : Int := (IntKind.i64.wrap (a2 - a5))
     bif a3 == 1 then
      bif decide (a5 > 0) then
       let x20 : Int := (IntKind.i64.wrap (a4 + 1))
       bif (decide (x20 > 1152921504606846976)) then
        some (.tuple #[.int .i64 0, .bool false])
       else
        some (.tuple #[.int .i64 x20, .bool true])
      else
       bif a3 == 2 then
        bif decide (a5 > x19) then
         let x22 : Int := (IntKind.i64.wrap (a4 + 1))
         bif (decide (x22 > 1152921504606846976)) then
          some (.tuple #[.int .i64 0, .bool false])
         else
          some (.tuple #[.int .i64 x22, .bool true])
        else
         bif a5 == x19 then
          bif (IntKind.i64.wrap ((BitVec.ofInt 64 a4 &&& BitVec.ofInt 64 1).toNat)) == 1 then
           let x25 : Int := (IntKind.i64.wrap (a4 + 1))
           bif (decide (x25 > 1152921504606846976)) then
            some (.tuple #[.int .i64 0, .bool false])
           else
            some (.tuple #[.int .i64 x25, .bool true])
          else
           bif (decide (a4 > 1152921504606846976)) then
            some (.tuple #[.int .i64 0, .bool false])
           else
            some (.tuple #[.int .i64 a4, .bool true])
         else
          bif (decide (a4 > 1152921504606846976)) then
           some (.tuple #[.int .i64 0, .bool false])
          else
           some (.tuple #[.int .i64 a4, .bool true])
       else
        bif (decide (a4 > 1152921504606846976)) then
         some (.tuple #[.int .i64 0, .bool false])
        else
         some (.tuple #[.int .i64 a4, .bool true])
     else
      bif a3 == 2 then
       bif decide (a5 > x19) then
        let x30 : Int := (IntKind.i64.wrap (a4 + 1))
        bif (decide (x30 > 1152921504606846976)) then
         some (.tuple #[.int .i64 0, .bool false])
        else
         some (.tuple #[.int .i64 x30, .bool true])
       else
        bif a5 == x19 then
         bif (IntKind.i64.wrap ((BitVec.ofInt 64 a4 &&& BitVec.ofInt 64 1).toNat)) == 1 then
          let x33 : Int := (IntKind.i64.wrap (a4 + 1))
          bif (decide (x33 > 1152921504606846976)) then
           some (.tuple #[.int .i64 0, .bool false])
          else
           some (.tuple #[.int .i64 x33, .bool true])
         else
          bif (decide (a4 > 1152921504606846976)) then
           some (.tuple #[.int .i64 0, .bool false])
          else
           some (.tuple #[.int .i64 a4, .bool true])
        else
         bif (decide (a4 > 1152921504606846976)) then
          some (.tuple #[.int .i64 0, .bool false])
         else
          some (.tuple #[.int .i64 a4, .bool true])
      else
       bif (decide (a4 > 1152921504606846976)) then
        some (.tuple #[.int .i64 0, .bool false])
       else
        some (.tuple #[.int .i64 a4, .bool true])
  | _ => none
def L37_0 (m : Nat) : Nat → List Sc → Option Value := iter (L37_0s m)
theorem L37_0_succ (m : Nat) (n : Nat) : L37_0 m (n + 1) = L37_0s m (L37_0 m n) := rfl
def S37_0 (F : List Sc → Option Value) : Stop := ⟨[.lp [0, 1, 0, 1, 1, 1], .blk 0, .code [1, 1, 1, 1]], ⟨110, [(0, .int .i64), (1, .int .i64), (2, .int .i64), (3, .int .i64), (10, .int .i64), (11, .int .i64), (12, .int .i64)], 0, .e⟩, F⟩
def t37 (m : Nat) (a0 : Int) (a1 : Int) (a2 : Int) (a3 : Int) : Option Value :=
  bif decide (a0 < 0) then
   some (.tuple #[.int .i64 0, .bool false])
  else
   bif decide (a1 < 0) then
    some (.tuple #[.int .i64 0, .bool false])
   else
    bif decide (a2 < 1) then
     some (.tuple #[.int .i64 0, .bool false])
    else
     bif decide (a3 < 0) then
      some (.tuple #[.int .i64 0, .bool false])
     else
      bif decide (a3 > 2) then
       some (.tuple #[.int .i64 0, .bool false])
      else
       bif (decide (a0 > 1152921504606846976)) then
        some (.tuple #[.int .i64 0, .bool false])
       else
        bif (decide (a1 > 1152921504606846976)) then
         some (.tuple #[.int .i64 0, .bool false])
        else
         bif (decide (a2 > 1152921504606846976)) then
          some (.tuple #[.int .i64 0, .bool false])
         else
          L37_0 m m [.i a0, .i a1, .i a2, .i a3, .i 0, .i 0, .i 60]
def T37 : Tab := tabOf []
theorem T37_right : Known.right Try.prog T37 := tab_right all0
theorem G37_0 (m : Nat) (k : List Sc → Option Value) (g : Nat → Value) (a0 : Int) (a1 : Int) (a2 : Int) (a3 : Int) (a4 : Int) (a5 : Int) (a6 : Int) : roadFrom Try.prog T37 (fun _ => true) (bodyOf (fnOf Try.prog 37)) [0, 1, 0, 1, 1, 1] [.blk 0, .code [1, 1, 1, 1]] (S37_0 k).pat g [.i a0, .i a1, .i a2, .i a3, .i a4, .i a5, .i a6] (kks (fnOf Try.prog 37).results.toList Try.prog [S37_0 k]) = L37_0s m k [.i a0, .i a1, .i a2, .i a3, .i a4, .i a5, .i a6] := by kernel_rfl
theorem Y37_0 {m : Nat} {k : List Sc → Option Value} {xs : List Sc} {v : Value} (h : L37_0s m k xs = some v) : ∃ a0 a1 a2 a3 a4 a5 a6, xs = [.i a0, .i a1, .i a2, .i a3, .i a4, .i a5, .i a6] := by
  unfold L37_0s at h
  split at h
  · exact ⟨_, _, _, _, _, _, _, rfl⟩
  · cases h
theorem H37_0 (m : Nat) : ∀ n, (S37_0 (L37_0 m n)).Holds Try.prog [] (ofTab T37) (fnOf Try.prog 37).results.toList (bodyOf (fnOf Try.prog 37)) :=
  Stop.iter (mk := S37_0) (Fs := L37_0s m) (S := fun k => [S37_0 k]) (p := [0, 1, 0, 1, 1, 1]) (rest := [.blk 0, .code [1, 1, 1, 1]]) (pat := (S37_0 (fun _ => none)).pat) (stop := fun _ => true)
    (fun _ => rfl) (fun _ => rfl) (fun _ => rfl) (by kernel_rfl) (by kernel_rfl)
    (fun k h => (all1 h all0))
    (fun k g xs v h => by
      obtain ⟨a0, a1, a2, a3, a4, a5, a6, rfl⟩ := Y37_0 h
      exact (G37_0 m k g a0 a1 a2 a3 a4 a5 a6).trans h)
theorem G37 (m : Nat) (a0 : Int) (a1 : Int) (a2 : Int) (a3 : Int) : roadIn Try.prog T37 (fun _ => true) (fnOf Try.prog 37) [.int .i64 a0, .int .i64 a1, .int .i64 a2, .int .i64 a3] (kks (fnOf Try.prog 37).results.toList Try.prog [S37_0 (L37_0 m m)]) = t37 m a0 a1 a2 a3 := by kernel_rfl
theorem told37 (m : Nat) (a0 : Int) (a1 : Int) (a2 : Int) (a3 : Int) {v : Value} (h : t37 m a0 a1 a2 a3 = some v) (hv : plainT v = true) : ToldOk Try.prog 37 [.int .i64 a0, .int .i64 a1, .int .i64 a2, .int .i64 a3] v :=
  told_road' (S := [S37_0 (L37_0 m m)]) Seat.mix Seat.names T37_right (by kernel_rfl) (by kernel_rfl) (by kernel_rfl)
    (all1 (H37_0 m m) all0) ((G37 m a0 a1 a2 a3).trans h) rfl hv
theorem spec37 (a0 : Int) (a1 : Int) (a2 : Int) (a3 : Int) : ∃ m, t37 m a0 a1 a2 a3 = some (.tuple #[.int .i64 (mdV a0 a1 a2 a3), .bool (mdOk a0 a1 a2 a3)]) := by
  refine ⟨62, ?_⟩
  unfold t37
  by_cases g : 0 ≤ a0 ∧ a0 ≤ 1152921504606846976 ∧ 0 ≤ a1 ∧ a1 ≤ 1152921504606846976 ∧ 1 ≤ a2 ∧ a2 ≤ 1152921504606846976 ∧ 0 ≤ a3 ∧ a3 ≤ 2
  · obtain ⟨g1, g2, g3, g4, g5, g6, g7, g8⟩ := g
    have n1 : ¬ a0 < 0 := by omega
    have n2 : ¬ a0 > 1152921504606846976 := by omega
    have n3 : ¬ a1 < 0 := by omega
    have n4 : ¬ a1 > 1152921504606846976 := by omega
    have n5 : ¬ a2 < 1 := by omega
    have n6 : ¬ a2 > 1152921504606846976 := by omega
    have n8 : ¬ a3 < 0 := by omega
    have n9 : ¬ a3 > 2 := by omega
    simp only [n1, n2, n3, n4, n5, n6, n8, n9, decide_false, cond_false]
    have key : ∀ (k : Nat) (q r i : Int), k ≤ 61 → i = (k : Int) - 1 → q = a0 * (a1 / 2 ^ k) / a2 → r = a0 * (a1 / 2 ^ k) % a2 → q ≤ 1152921504606846976 →
        L37_0 62 (k + 1) [.i a0, .i a1, .i a2, .i a3, .i q, .i r, .i i] = some (.tuple #[.int .i64 (mdV a0 a1 a2 a3), .bool (mdOk a0 a1 a2 a3)]) := by
      intro k
      induction k with
      | zero =>
        intro q r i _ hi hq hr hle
        rw [L37_0_succ]; unfold L37_0s
        have : ¬ i ≥ 0 := by omega
        simp only [this, decide_false, cond_false]
        unfold mdV
        rw [md_ok g1 g2 g3 g4 g5 g6 g7 g8]
        unfold mdQ
        simp only [Int.pow_zero, Int.ediv_one] at hq hr
        have hh : a3 = 0 ∨ a3 = 1 ∨ a3 = 2 := by omega
        have hq0 : 0 ≤ a0 * a1 / a2 := Int.ediv_nonneg (Int.mul_nonneg g1 g3) (by omega)
        have hr0 := Int.emod_nonneg (a0 * a1) (show a2 ≠ 0 by omega)
        have hr1 := Int.emod_lt_of_pos (a0 * a1) (show 0 < a2 by omega)
        rw [← hq] at *; rw [← hr] at *
        clear hi hq hr this
        generalize a2 = p at *
        have c0 : ¬ 1152921504606846976 < q := by omega
        rw [wr (n := p - r) (by omega) (by omega), and_one (by omega) (by omega), wr (n := q % 2) (by omega) (by omega), wr (n := q + 1) (by omega) (by omega)]
        rcases hh with rfl | rfl | rfl
        · simp [mdUp, c0, show ¬ 1152921504606846976 < q by omega, show q ≤ 1152921504606846976 by omega]
        · by_cases c1 : r > 0
          · by_cases c5 : q + 1 ≤ 1152921504606846976
            · simp [mdUp, c0, c1, c5, show ¬ 1152921504606846976 < q + 1 by omega]
            · simp [mdUp, c0, c1, c5, show 1152921504606846976 < q + 1 by omega]
          · simp [mdUp, c0, c1, show ¬ 1152921504606846976 < q by omega, show q ≤ 1152921504606846976 by omega]
        · by_cases c2 : r > p - r
          · by_cases c5 : q + 1 ≤ 1152921504606846976
            · simp [mdUp, c0, c2, c5, show ¬ 1152921504606846976 < q + 1 by omega]
            · simp [mdUp, c0, c2, c5, show 1152921504606846976 < q + 1 by omega]
          · by_cases c3 : r = p - r
            · by_cases c4 : q % 2 = 1
              · by_cases c5 : q + 1 ≤ 1152921504606846976
                · simp [mdUp, c0, c2, c4, c5, ← c3, show ¬ 1152921504606846976 < q + 1 by omega]
                · simp [mdUp, c0, c2, c4, c5, ← c3, show 1152921504606846976 < q + 1 by omega]
              · simp [mdUp, c0, c2, show (q % 2 == 1) = false by simpa using c4, c4, ← c3, show ¬ 1152921504606846976 < q by omega, show q ≤ 1152921504606846976 by omega]
            · simp [mdUp, c0, c2, show (r == p - r) = false by simpa using c3, c3, show ¬ 1152921504606846976 < q by omega, show q ≤ 1152921504606846976 by omega]
      | succ k ih =>
        intro q r i hk hi hq hr hle
        rw [L37_0_succ]; unfold L37_0s
        simp only []
        have i1 : i ≥ 0 := by omega
        have i2 : ¬ i < 0 := by omega
        have i3 : min i.toNat 64 = k := by omega
        have i4 : ¬ a2 = 0 := by omega
        have hP : (0 : Int) < 2 ^ (k + 1) := Int.pow_pos (by decide)
        have hP' : (0 : Int) < 2 ^ k := Int.pow_pos (by decide)
        have hd0 : 0 ≤ a1 / 2 ^ k := Int.ediv_nonneg g3 (by omega)
        have hd1 : a1 / 2 ^ k ≤ a1 := Int.ediv_le_self _ g3
        have hu0 : 0 ≤ a1 / 2 ^ (k + 1) := Int.ediv_nonneg g3 (by omega)
        have hr0 : 0 ≤ r := by rw [hr]; exact Int.emod_nonneg _ (by omega)
        have hr1 : r < a2 := by rw [hr]; exact Int.emod_lt_of_pos _ (by omega)
        have hq0 : 0 ≤ q := by rw [hq]; exact Int.ediv_nonneg (Int.mul_nonneg g1 hu0) (by omega)
        have hm0 := Int.emod_nonneg a0 i4
        have hm1 := Int.emod_lt_of_pos a0 (show 0 < a2 by omega)
        have hv0 : 0 ≤ a0 / a2 := Int.ediv_nonneg g1 (by omega)
        have hv1 : a0 / a2 ≤ a0 := Int.ediv_le_self _ g1
        have hph := pow_half a1 k
        have hc : (a1 / 2 ^ k) % 2 = 0 ∨ (a1 / 2 ^ k) % 2 = 1 := by omega
        obtain ⟨s1, s2⟩ := md_step (n := a0) (p := a2) (c := (a1 / 2 ^ k) % 2) (by omega) hc hq hr
        rw [← hph] at s1 s2
        have mono : a0 * (a1 / 2 ^ k) / a2 ≤ a0 * a1 / a2 := Int.ediv_le_ediv (by omega) (Int.mul_le_mul_of_nonneg_left hd1 g1)
        rw [fd (by rw [i3]; omega), i3, and_one (by omega) (by omega), wr (n := a1 / 2 ^ k % 2) (by omega) (by omega), wr (n := 2 * q) (by omega) (by omega), wr (n := 2 * r) (by omega) (by omega)]
        simp only [i1, i2, i4, decide_true, decide_false, cond_true, cond_false, td _ g1, tm _ g1, td _ (show 0 ≤ 2 * r by omega), tm _ (show 0 ≤ 2 * r by omega)]
        rcases hc with hc | hc
        · rw [hc] at s1 s2 ⊢
          simp only [Int.zero_mul, Int.add_zero] at s1 s2
          have z0 : 0 ≤ 2 * r / a2 := Int.ediv_nonneg (by omega) (by omega)
          have z1 : 2 * r / a2 ≤ 2 * r := Int.ediv_le_self _ (by omega)
          simp only [show ((0 : Int) == 1) = false by rfl, cond_false]
          rw [wr (n := 2 * r / a2) (by omega) (by omega), wr (n := 2 * q + 2 * r / a2) (by omega) (by omega), wr (n := i - 1) (by omega) (by omega)]
          by_cases hb : 2 * q + 2 * r / a2 > 1152921504606846976
          · obtain ⟨e1, e2⟩ := md_big (h := a3) (show 1152921504606846976 < a0 * a1 / a2 by omega)
            simp [hb, e1, e2]
          · simp only [hb, decide_false, cond_false]
            exact ih _ _ _ (by omega) (by omega) s1.symm s2.symm (by omega)
        · rw [hc] at s1 s2 ⊢
          simp only [Int.one_mul] at s1 s2
          rw [wr (n := 2 * r + a0 % a2) (by omega) (by omega)]
          simp only [td _ (show 0 ≤ 2 * r + a0 % a2 by omega), tm _ (show 0 ≤ 2 * r + a0 % a2 by omega)]
          have z0 : 0 ≤ (2 * r + a0 % a2) / a2 := Int.ediv_nonneg (by omega) (by omega)
          have z1 : (2 * r + a0 % a2) / a2 ≤ 2 * r + a0 % a2 := Int.ediv_le_self _ (by omega)
          simp only [BEq.rfl, cond_true]
          rw [wr (n := a0 / a2) (by omega) (by omega), wr (n := (2 * r + a0 % a2) / a2) (by omega) (by omega), wr (n := 2 * q + a0 / a2) (by omega) (by omega), wr (n := 2 * q + a0 / a2 + (2 * r + a0 % a2) / a2) (by omega) (by omega), wr (n := i - 1) (by omega) (by omega)]
          by_cases hb : 2 * q + a0 / a2 + (2 * r + a0 % a2) / a2 > 1152921504606846976
          · obtain ⟨e1, e2⟩ := md_big (h := a3) (show 1152921504606846976 < a0 * a1 / a2 by omega)
            simp [hb, e1, e2]
          · simp only [hb, decide_false, cond_false]
            exact ih _ _ _ (by omega) (by omega) s1.symm s2.symm (by omega)
    have z : a1 / 2 ^ 61 = 0 := by omega
    exact key 61 0 0 60 (by omega) (by omega) (by rw [z]; simp) (by rw [z]; simp) (by omega)
  · obtain ⟨e1, e2⟩ := md_no g
    rw [e1, e2]
    by_cases n1 : a0 < 0
    · simp [n1]
    by_cases n2 : a0 > 1152921504606846976
    · by_cases n3 : a1 < 0 <;> by_cases n5 : a2 < 1 <;> by_cases n8 : a3 < 0 <;> by_cases n9 : a3 > 2 <;> simp [*]
    by_cases n3 : a1 < 0
    · simp [n3]
    by_cases n4 : a1 > 1152921504606846976
    · by_cases n5 : a2 < 1 <;> by_cases n8 : a3 < 0 <;> by_cases n9 : a3 > 2 <;> simp [*]
    by_cases n5 : a2 < 1
    · simp [n5]
    by_cases n6 : a2 > 1152921504606846976
    · by_cases n8 : a3 < 0 <;> by_cases n9 : a3 > 2 <;> simp [*]
    by_cases n8 : a3 < 0
    · simp [n8]
    by_cases n9 : a3 > 2
    · simp [n9]
    omega
theorem right37 : EntRight Try.prog 37 e37 := ent_right (by
  intro xs v h
  unfold q37 at h
  split at h
  · rename_i a0 a1 a2 a3
    simp only [Option.some.injEq, Prod.mk.injEq, true_and] at h
    obtain rfl := h
    obtain ⟨m, hm⟩ := spec37 a0 a1 a2 a3
    exact told37 m a0 a1 a2 a3 hm rfl
  · cases h)
theorem md_in {n b p h : Int} (h1 : 0 ≤ n) (h2 : n ≤ 1152921504606846976) (h3 : 0 ≤ b) (h4 : b ≤ 1152921504606846976) (h5 : 1 ≤ p) (h6 : p ≤ 1152921504606846976) (h7 : 0 ≤ h) (h8 : h ≤ 2) (hz : n * b ≤ 1152921504606846976) :
    mdOk n b p h = true ∧ mdV n b p h = mdQ n b p h ∧ 0 ≤ mdQ n b p h ∧ mdQ n b p h ≤ n * b := by
  have hz0 := Int.mul_nonneg h1 h3
  have e := Int.mul_ediv_add_emod (n * b) p
  have r0 := Int.emod_nonneg (n * b) (show p ≠ 0 by omega)
  have r1 := Int.emod_lt_of_pos (n * b) (show 0 < p by omega)
  have q0 : 0 ≤ n * b / p := Int.ediv_nonneg hz0 (by omega)
  have hle : 0 ≤ mdQ n b p h ∧ mdQ n b p h ≤ n * b := by
    unfold mdQ mdUp
    generalize n * b = z at *
    generalize z / p = q at *
    generalize z % p = r at *
    split
    · rename_i hu
      simp only [Bool.or_eq_true, Bool.and_eq_true, beq_iff_eq, decide_eq_true_eq] at hu
      have hr : 1 ≤ r := by omega
      have hp : 2 ≤ p := by omega
      have : 2 * q ≤ p * q := Int.mul_le_mul_of_nonneg_right hp q0
      omega
    · have : 1 * q ≤ p * q := Int.mul_le_mul_of_nonneg_right h5 q0
      omega
  have hok : mdOk n b p h = true := by rw [md_ok h1 h2 h3 h4 h5 h6 h7 h8]; simp; omega
  exact ⟨hok, by simp [mdV, hok], hle⟩
theorem mdQ0 (n b p : Int) : mdQ n b p 0 = n * b / p := by simp [mdQ, mdUp]
theorem mdQ1 (n b p : Int) : mdQ n b p 1 = n * b / p + (if n * b % p > 0 then 1 else 0) := by simp [mdQ, mdUp]
theorem mdQ2 (n b p : Int) : mdQ n b p 2 = n * b / p + (if n * b % p > p - n * b % p ∨ (n * b % p = p - n * b % p ∧ n * b / p % 2 = 1) then 1 else 0) := by simp [mdQ, mdUp]

end Go.Proofs.Ytncgbpajngakpaa
