/- The law ShareTimes answers true. Conditions: none. -/
import Derived.Test.YtibenahgbdhegaaShareAid
namespace Go.Proofs.Ytibenahgbdhegaa
open Go Go.Proofs.Ytibenahgbdhegaa.Ev
set_option linter.unusedVariables false
set_option linter.unusedSimpArgs false
set_option linter.unnecessarySimpa false
theorem inOrd_in : ∀ (l : List Int) (n : Int), 0 ≤ n → ∀ x ∈ inOrd n l, 0 ≤ x ∧ x ≤ n
  | [], n, _, x, h => by simp [inOrd] at h
  | c :: l, n, h, x, hx => by
    simp only [inOrd, List.mem_cons] at hx
    rcases hx with rfl | hx
    · omega
    · have := inOrd_in l _ (by omega) x hx
      omega
theorem inOrd_times {j : Int} (hj : 0 ≤ j) : ∀ (l : List Int) (n : Int), inOrd (j * n) (l.map fun c => j * c) = (inOrd n l).map fun c => j * c
  | [], _ => rfl
  | c :: l, n => by
    have e : max (min (j * c) (j * n)) 0 = j * max (min c n) 0 := by
      have h0 : j * 0 = 0 := Int.mul_zero j
      rcases Int.le_total c n with h | h
      · have a := Int.mul_le_mul_of_nonneg_left h hj
        rcases Int.le_total 0 c with h1 | h1
        · have b := Int.mul_le_mul_of_nonneg_left h1 hj
          rw [show max (min c n) 0 = c by omega]; omega
        · have b := Int.mul_le_mul_of_nonneg_left h1 hj
          rw [show max (min c n) 0 = 0 by omega]; omega
      · have a := Int.mul_le_mul_of_nonneg_left h hj
        rcases Int.le_total 0 n with h1 | h1
        · have b := Int.mul_le_mul_of_nonneg_left h1 hj
          rw [show max (min c n) 0 = n by omega]; omega
        · have b := Int.mul_le_mul_of_nonneg_left h1 hj
          rw [show max (min c n) 0 = 0 by omega]; omega
    simp only [List.map_cons, inOrd]
    rw [e, ← Int.mul_sub, inOrd_times hj l]
theorem sum_map_mul (t : Int) : ∀ l : List Int, (l.map fun c => t * c).sum = t * l.sum
  | [] => by simp
  | x :: l => by simp only [List.map_cons, List.sum_cons]; rw [sum_map_mul t l, Int.mul_add]
theorem proV_times {a : Int} {l : List Int} (hb : ∀ x ∈ l, 0 ≤ x ∧ x ≤ 1048576) (hl : l.length ≤ 8) (h1 : 0 ≤ a) (h2 : a ≤ l.sum) : ∀ i, i < l.length → (proV (l.sum * a) (l.map fun c => l.sum * c)).getD i 0 = a * l.getD i 0 := by
  intro i hi
  have hs := sum_bound l 1048576 (by omega) hb
  generalize ht : l.sum = t at *
  have hmb : ∀ x ∈ l.map (fun c => t * c), 0 ≤ x ∧ x ≤ 8796093022208 := by
    intro x hx
    obtain ⟨y, hy, rfl⟩ := List.mem_map.1 hx
    have := hb y hy
    have e1 : t * y ≤ t * 1048576 := Int.mul_le_mul_of_nonneg_left this.2 (by omega)
    have e2 := Int.mul_nonneg (show 0 ≤ t by omega) this.1
    omega
  obtain ⟨_, ok⟩ := sumV_ok (l := l.map fun c => t * c) (b := 8796093022208) (by omega) hmb (by simp; omega)
  have hms : (l.map fun c => t * c).sum = t * t := by rw [sum_map_mul, ht]
  have hta : 0 ≤ t * a := Int.mul_nonneg (by omega) h1
  have hle : t * a ≤ t * t := Int.mul_le_mul_of_nonneg_left h2 (by omega)
  by_cases hf : t * t ≤ t * a
  · rw [proV_full ok (by rw [hms]; omega), map_getD' _ hi]
    have : t * (t - a) ≤ 0 := by rw [Int.mul_sub]; omega
    rcases Int.lt_or_le 0 t with hp | hp
    · have : t - a ≤ 0 := by
        rcases Int.lt_or_le 0 (t - a) with h | h
        · have := Int.mul_pos hp h; omega
        · exact h
      rw [show t = a by omega]
    · have : ∀ x ∈ l, x = 0 := by
        intro x hx
        have hz := zeros_of_sum l (fun y hy => (hb y hy).1) (by omega)
        rw [hz] at hx
        exact (List.mem_replicate.1 hx).2
      rw [this _ (getD_mem hi), Int.mul_zero, Int.mul_zero]
  · obtain ⟨_, h, _⟩ := proV_part hta ok (by rw [hms]; omega)
    have h := h i (by simpa using hi)
    rw [map_getD' _ hi, hms] at h
    have e : t * a * (t * l.getD i 0) = a * l.getD i 0 * (t * t) := by
      rw [Int.mul_comm t a, Int.mul_assoc, ← Int.mul_assoc t t, Int.mul_comm (t * t), ← Int.mul_assoc]
    have hne : t * t ≠ 0 := by omega
    rw [e, Int.mul_ediv_cancel _ hne, Int.mul_emod_left] at h
    rcases h with h | ⟨_, h⟩
    · exact h
    · omega


/-! cascade/cascadelaw4.ShareTimes -/
def N8 : Pn := ⟨[.int .i64, .int .i64, .ints .i64], []⟩
def X8 : Pn := ⟨[.bool], []⟩
def L8_3s (m : Nat) (k : List Un → Option (List Un)) : List Un → Option (List Un)
  | [.i a0, .i a1, .i a2, .i a3, .l a4, .l a5, .l a6, .l a7] =>
    bif decide (a3 < a2) then
     bif decide ((0 : Int) ≤ a3 ∧ a3 < (a5.length : Int)) then
      bif decide (a3.toNat < a5.length) then
       bif decide ((0 : Int) ≤ a3 ∧ a3 < (a4.length : Int)) then
        bif decide (a3.toNat < a4.length) then
         bif ((a5.getD a3.toNat 0) != (IntKind.i64.wrap (a0 * (a4.getD a3.toNat 0)))) then
          some [.b false]
         else
          bif decide ((0 : Int) ≤ a3 ∧ a3 < (a7.length : Int)) then
           bif decide (a3.toNat < a7.length) then
            bif decide ((0 : Int) ≤ a3 ∧ a3 < (a6.length : Int)) then
             bif decide (a3.toNat < a6.length) then
              bif ((a7.getD a3.toNat 0) != (IntKind.i64.wrap (a1 * (a6.getD a3.toNat 0)))) then
               some [.b false]
              else
               k [.i a0, .i a1, .i a2, .i (IntKind.i64.wrap (a3 + 1)), .l a4, .l a5, .l a6, .l a7]
             else
              none
            else
             none
           else
            none
          else
           none
        else
         none
       else
        none
      else
       none
     else
      none
    else
     some [.b true]
  | _ => none
def L8_3 (m : Nat) : Nat → List Un → Option (List Un) := iterS (L8_3s m)
theorem L8_3_succ (m : Nat) (n : Nat) : L8_3 m (n + 1) = L8_3s m (L8_3 m n) := rfl
def P8_3 : Pn := ⟨[.any, .any, .any, .any, .any, .any, .any, .buf 0 1, .any, .any, .any, .any, .any, .any, .int .i64, .buf 1 1, .buf 2 1, .int .i64, .any, .any, .any, .buf 3 1, .any, .any, .any, .any, .any, .any, .any, .any, .any, .any, .any, .any, .any, .any, .any, .any, .any, .any, .any, .any, .any, .any, .any, .any, .any, .any, .any, .any, .any, .any, .any, .any, .any, .any, .any, .any, .any, .any, .any, .any, .any, .any, .any, .any, .any, .any, .any, .any, .any, .any, .any, .any, .any, .any, .any, .any, .any, .any, .any, .any, .any, .any, .any, .any, .any, .any, .any, .any, .any, .any, .any, .any, .any, .any, .any, .any, .any, .any, .any, .any, .any, .any, .any, .any, .any, .any, .any, .int .i64, .int .i64, .any, .any, .any, .any, .any, .any, .any, .any, .any, .any, .any, .any, .any, .any, .any, .any, .any, .any, .any, .any, .any, .any, .any, .any, .any, .any, .any, .any], [.ints .i64, .ints .i64, .ints .i64, .ints .i64]⟩
def S8_3 (F : List Un → Option (List Un)) : StopS := ⟨[.lp [0, 1, 0, 1, 1, 1, 1, 1, 1, 1, 1, 1, 1, 1, 1, 1], .blk 6, .code [1, 1, 1, 1, 1, 1, 1, 1, 1, 1, 1, 1, 1, 1]], P8_3, F⟩
def L8_2s (m : Nat) (k : List Un → Option (List Un)) : List Un → Option (List Un)
  | [.i a0, .i a1, .i a2, .i a3, .l a4, .l a5, .l a6, .l a7] =>
    bif decide (a3 < a2) then
     bif decide ((0 : Int) ≤ a3 ∧ a3 < (a4.length : Int)) then
      bif decide (a3.toNat < a4.length) then
       bif decide ((a7.length + 1) < 1099511627776 ∧ (a7.length + 1) * 8 < 35184372088832) then
        k [.i a0, .i a1, .i a2, .i (IntKind.i64.wrap (a3 + 1)), .l a4, .l a5, .l a6, .l (a7 ++ ([(IntKind.i64.wrap (a1 * (a4.getD a3.toNat 0)))]))]
       else
        none
      else
       none
     else
      none
    else
     lt ((IntKind.i64.wrap (a1 * a0)) : Int) fun x11 =>
     bif decide (x11 ≤ 9223372036854775807 ∧ a7.length < 1099511627776) then
      bif ((a5.length : Int) != (a4.length : Int)) then
       some [.b false]
      else
       bif ((a6.length : Int) != (a4.length : Int)) then
        some [.b false]
       else
        bif (((inOrd (max x11 0) a7).length : Int) != (a4.length : Int)) then
         some [.b false]
        else
         L8_3 m m [.i a0, .i a1, .i (a4.length : Int), .i 0, .l a4, .l a5, .l a6, .l (inOrd (max x11 0) a7)]
     else
      none
  | _ => none
def L8_2 (m : Nat) : Nat → List Un → Option (List Un) := iterS (L8_2s m)
theorem L8_2_succ (m : Nat) (n : Nat) : L8_2 m (n + 1) = L8_2s m (L8_2 m n) := rfl
def P8_2 : Pn := ⟨[.any, .any, .any, .any, .any, .any, .any, .buf 0 1, .any, .any, .any, .any, .any, .any, .int .i64, .buf 1 1, .buf 2 1, .int .i64, .buf 3 1, .any, .any, .any, .any, .any, .any, .any, .any, .any, .any, .any, .any, .any, .any, .any, .any, .any, .any, .any, .any, .any, .any, .any, .any, .any, .any, .any, .any, .any, .any, .any, .any, .any, .any, .any, .any, .any, .any, .any, .any, .any, .any, .any, .any, .any, .any, .any, .any, .any, .any, .any, .any, .buf 0 1, .int .i64, .int .i64, .any, .any, .any, .any, .any, .any, .any, .any, .any, .any, .any, .any, .any, .any, .any, .any, .any, .any, .any, .any, .any, .any, .any, .any, .any, .any, .any, .any, .any, .any, .any, .any, .any, .any, .any, .any, .any, .any, .any, .any, .any, .any, .any, .any, .any, .any, .any, .any, .any, .any, .any, .any, .any, .any, .any, .any, .any, .any, .any, .any, .any, .any, .any, .any, .any], [.ints .i64, .ints .i64, .ints .i64, .ints .i64]⟩
def S8_2 (F : List Un → Option (List Un)) : StopS := ⟨[.lp [0, 1, 0, 1, 1, 1, 1, 1, 1, 1, 1, 1, 1], .blk 4, .code [1, 1, 1, 1, 1, 1, 1, 1, 1, 1, 1]], P8_2, F⟩
def L8_1s (m : Nat) (k : List Un → Option (List Un)) : List Un → Option (List Un)
  | [.i a0, .i a1, .i a2, .i a3, .i a4, .l a5, .l a6] =>
    bif decide (a4 < a3) then
     bif decide ((0 : Int) ≤ a4 ∧ a4 < (a5.length : Int)) then
      bif decide (a4.toNat < a5.length) then
       bif decide ((a6.length + 1) < 1099511627776 ∧ (a6.length + 1) * 8 < 35184372088832) then
        k [.i a0, .i a1, .i a2, .i a3, .i (IntKind.i64.wrap (a4 + 1)), .l a5, .l (a6 ++ ([(IntKind.i64.wrap (a2 * (a5.getD a4.toNat 0)))]))]
       else
        none
      else
       none
     else
      none
    else
     bif decide (-2305843009213693952 ≤ 0 ∧ 0 ≤ a2 ∧ a2 ≤ 2305843009213693952) then
      lt ((IntKind.i64.wrap (a2 * (within a0 0 a2))) : Int) fun x7 =>
      bif decide (x7 ≤ 9223372036854775807 ∧ a6.length < 1099511627776) then
       bif decide ((within a0 0 a2) ≤ 9223372036854775807 ∧ a5.length < 1099511627776) then
        L8_2 m m [.i (within a0 0 a2), .i (within a1 1 1000), .i (a5.length : Int), .i 0, .l a5, .l (proV x7 a6), .l (inOrd (max (within a0 0 a2) 0) a5), .l []]
       else
        none
      else
       none
     else
      none
  | _ => none
def L8_1 (m : Nat) : Nat → List Un → Option (List Un) := iterS (L8_1s m)
theorem L8_1_succ (m : Nat) (n : Nat) : L8_1 m (n + 1) = L8_1s m (L8_1 m n) := rfl
def P8_1 : Pn := ⟨[.int .i64, .int .i64, .any, .any, .any, .any, .any, .buf 0 1, .buf 1 1, .int .i64, .any, .any, .any, .any, .any, .any, .any, .any, .any, .any, .any, .any, .any, .any, .any, .any, .any, .any, .any, .any, .any, .any, .any, .any, .any, .any, .any, .any, .any, .any, .any, .any, .any, .any, .any, .buf 0 1, .int .i64, .int .i64, .any, .any, .any, .any, .any, .any, .any, .any, .any, .any, .any, .any, .any, .any, .any, .any, .any, .any, .any, .any, .any, .any, .any, .any, .any, .any, .any, .any, .any, .any, .any, .any, .any, .any, .any, .any, .any, .any, .any, .any, .any, .any, .any, .any, .any, .any, .any, .any, .any, .any, .any, .any, .any, .any, .any, .any, .any, .any, .any, .any, .any, .any, .any, .any, .any, .any, .any, .any, .any, .any, .any, .any, .any, .any, .any, .any, .any, .any, .any, .any, .any, .any, .any, .any, .any, .any, .any, .any, .any, .any, .any], [.ints .i64, .ints .i64]⟩
def S8_1 (F : List Un → Option (List Un)) : StopS := ⟨[.lp [0, 1, 0, 1, 1, 1, 1], .blk 2, .code [1, 1, 1, 1, 1]], P8_1, F⟩
def L8_0s (m : Nat) (k : List Un → Option (List Un)) : List Un → Option (List Un)
  | [.i a0, .i a1, .l a2, .i a3, .i a4, .l a5, .l a6] =>
    bif (decide (a4 < (a2.length : Int))) then
     bif decide (a4 < 8) then
      bif decide ((0 : Int) ≤ a4 ∧ a4 < (a2.length : Int)) then
       bif decide (a4.toNat < a2.length) then
        lt ((within (a2.getD a4.toNat 0) 0 1048576) : Int) fun x2 =>
        bif decide ((a5.length + 1) < 1099511627776 ∧ (a5.length + 1) * 8 < 35184372088832) then
         k [.i a0, .i a1, .l a2, .i (IntKind.i64.wrap (a3 + x2)), .i (IntKind.i64.wrap (a4 + 1)), .l (a5 ++ ([x2])), .l a6]
        else
         none
       else
        none
      else
       none
     else
      L8_1 m m [.i a0, .i a1, .i a3, .i (a5.length : Int), .i 0, .l a5, .l a6]
    else
     L8_1 m m [.i a0, .i a1, .i a3, .i (a5.length : Int), .i 0, .l a5, .l a6]
  | _ => none
def L8_0 (m : Nat) : Nat → List Un → Option (List Un) := iterS (L8_0s m)
theorem L8_0_succ (m : Nat) (n : Nat) : L8_0 m (n + 1) = L8_0s m (L8_0 m n) := rfl
def P8_0 : Pn := ⟨[.int .i64, .int .i64, .ints .i64, .any, .any, .any, .any, .buf 0 1, .buf 1 1, .int .i64, .int .i64, .any, .any, .any, .any, .any, .any, .any, .any, .any, .any, .any, .any, .any, .any, .any, .any, .any, .any, .any, .any, .any, .any, .any, .any, .any, .any, .any, .any, .any, .any, .any, .any, .any, .any, .any, .any, .any, .any, .any, .any, .any, .any, .any, .any, .any, .any, .any, .any, .any, .any, .any, .any, .any, .any, .any, .any, .any, .any, .any, .any, .any, .any, .any, .any, .any, .any, .any, .any, .any, .any, .any, .any, .any, .any, .any, .any, .any, .any, .any, .any, .any, .any, .any, .any, .any, .any, .any, .any, .any, .any, .any, .any, .any, .any, .any, .any, .any, .any, .any, .any, .any, .any, .any, .any, .any, .any, .any, .any, .any, .any, .any, .any, .any, .any, .any, .any, .any, .any, .any, .any, .any, .any, .any, .any, .any, .any, .any, .any], [.ints .i64, .ints .i64]⟩
def S8_0 (F : List Un → Option (List Un)) : StopS := ⟨[.lp [0, 1, 0, 1, 1, 1], .blk 0, .code [1, 1, 1, 1]], P8_0, F⟩
def t8 (m : Nat) (a0 : Int) (a1 : Int) (a2 : List Int) : Option (List Un) :=
  L8_0 m m [.i a0, .i a1, .l a2, .i 0, .i 0, .l [], .l []]
def T8 : TabS := tabS TE [(10, e10), (11, e11)]
theorem T8_right : TabRight Try.prog [] (ofTab TE) T8 := tabS_right (all1 right10 (all1 right11 all0))
theorem G8_3 (m : Nat) (k : List Un → Option (List Un)) (a0 : Int) (a1 : Int) (a2 : Int) (a3 : Int) (a4 : List Int) (a5 : List Int) (a6 : List Int) (a7 : List Int) : roadFromS Try.prog [] T8 KN (bodyOf (fnOf Try.prog 8)) [0, 1, 0, 1, 1, 1, 1, 1, 1, 1, 1, 1, 1, 1, 1, 1] [.blk 6, .code [1, 1, 1, 1, 1, 1, 1, 1, 1, 1, 1, 1, 1, 1]] P8_3 [.i a0, .i a1, .i a2, .i a3, .l a4, .l a5, .l a6, .l a7] (kksS Try.prog (fnOf Try.prog 8).results.toList X8 0 [S8_3 k]) = L8_3s m k [.i a0, .i a1, .i a2, .i a3, .l a4, .l a5, .l a6, .l a7] := by kernel_rfl
theorem Y8_3 {m : Nat} {k : List Un → Option (List Un)} {xs : List Un} {v : List Un} (h : L8_3s m k xs = some v) : ∃ a0 a1 a2 a3 a4 a5 a6 a7, xs = [.i a0, .i a1, .i a2, .i a3, .l a4, .l a5, .l a6, .l a7] := by
  unfold L8_3s at h
  split at h
  · exact ⟨_, _, _, _, _, _, _, _, rfl⟩
  · cases h
theorem H8_3 (m : Nat) : ∀ n, HoldsS Try.prog [] (ofTab TE) (fnOf Try.prog 8).results.toList X8 0 (bodyOf (fnOf Try.prog 8)) (S8_3 (L8_3 m n)) :=
  StopS.iter KN_none T8_right (mk := S8_3) (Fs := L8_3s m) (W := fun k => [S8_3 k]) (p := [0, 1, 0, 1, 1, 1, 1, 1, 1, 1, 1, 1, 1, 1, 1, 1]) (rest := [.blk 6, .code [1, 1, 1, 1, 1, 1, 1, 1, 1, 1, 1, 1, 1, 1]]) (pat := P8_3)
    (fun _ => rfl) (fun _ => rfl) (fun _ => rfl) (by kernel_rfl) (by kernel_rfl)
    (fun k h => (all1 h all0))
    (fun k xs v h => by
      obtain ⟨a0, a1, a2, a3, a4, a5, a6, a7, rfl⟩ := Y8_3 h
      exact (G8_3 m k a0 a1 a2 a3 a4 a5 a6 a7).trans h)
theorem G8_2 (m : Nat) (k : List Un → Option (List Un)) (a0 : Int) (a1 : Int) (a2 : Int) (a3 : Int) (a4 : List Int) (a5 : List Int) (a6 : List Int) (a7 : List Int) : roadFromS Try.prog [] T8 KN (bodyOf (fnOf Try.prog 8)) [0, 1, 0, 1, 1, 1, 1, 1, 1, 1, 1, 1, 1] [.blk 4, .code [1, 1, 1, 1, 1, 1, 1, 1, 1, 1, 1]] P8_2 [.i a0, .i a1, .i a2, .i a3, .l a4, .l a5, .l a6, .l a7] (kksS Try.prog (fnOf Try.prog 8).results.toList X8 0 [S8_2 k, S8_3 (L8_3 m m)]) = L8_2s m k [.i a0, .i a1, .i a2, .i a3, .l a4, .l a5, .l a6, .l a7] := by kernel_rfl
theorem Y8_2 {m : Nat} {k : List Un → Option (List Un)} {xs : List Un} {v : List Un} (h : L8_2s m k xs = some v) : ∃ a0 a1 a2 a3 a4 a5 a6 a7, xs = [.i a0, .i a1, .i a2, .i a3, .l a4, .l a5, .l a6, .l a7] := by
  unfold L8_2s at h
  split at h
  · exact ⟨_, _, _, _, _, _, _, _, rfl⟩
  · cases h
theorem H8_2 (m : Nat) : ∀ n, HoldsS Try.prog [] (ofTab TE) (fnOf Try.prog 8).results.toList X8 0 (bodyOf (fnOf Try.prog 8)) (S8_2 (L8_2 m n)) :=
  StopS.iter KN_none T8_right (mk := S8_2) (Fs := L8_2s m) (W := fun k => [S8_2 k, S8_3 (L8_3 m m)]) (p := [0, 1, 0, 1, 1, 1, 1, 1, 1, 1, 1, 1, 1]) (rest := [.blk 4, .code [1, 1, 1, 1, 1, 1, 1, 1, 1, 1, 1]]) (pat := P8_2)
    (fun _ => rfl) (fun _ => rfl) (fun _ => rfl) (by kernel_rfl) (by kernel_rfl)
    (fun k h => (all1 h (all1 (H8_3 m m) all0)))
    (fun k xs v h => by
      obtain ⟨a0, a1, a2, a3, a4, a5, a6, a7, rfl⟩ := Y8_2 h
      exact (G8_2 m k a0 a1 a2 a3 a4 a5 a6 a7).trans h)
theorem G8_1 (m : Nat) (k : List Un → Option (List Un)) (a0 : Int) (a1 : Int) (a2 : Int) (a3 : Int) (a4 : Int) (a5 : List Int) (a6 : List Int) : roadFromS Try.prog [] T8 KN (bodyOf (fnOf Try.prog 8)) [0, 1, 0, 1, 1, 1, 1] [.blk 2, .code [1, 1, 1, 1, 1]] P8_1 [.i a0, .i a1, .i a2, .i a3, .i a4, .l a5, .l a6] (kksS Try.prog (fnOf Try.prog 8).results.toList X8 0 [S8_1 k, S8_2 (L8_2 m m)]) = L8_1s m k [.i a0, .i a1, .i a2, .i a3, .i a4, .l a5, .l a6] := by kernel_rfl
theorem Y8_1 {m : Nat} {k : List Un → Option (List Un)} {xs : List Un} {v : List Un} (h : L8_1s m k xs = some v) : ∃ a0 a1 a2 a3 a4 a5 a6, xs = [.i a0, .i a1, .i a2, .i a3, .i a4, .l a5, .l a6] := by
  unfold L8_1s at h
  split at h
  · exact ⟨_, _, _, _, _, _, _, rfl⟩
  · cases h
theorem H8_1 (m : Nat) : ∀ n, HoldsS Try.prog [] (ofTab TE) (fnOf Try.prog 8).results.toList X8 0 (bodyOf (fnOf Try.prog 8)) (S8_1 (L8_1 m n)) :=
  StopS.iter KN_none T8_right (mk := S8_1) (Fs := L8_1s m) (W := fun k => [S8_1 k, S8_2 (L8_2 m m)]) (p := [0, 1, 0, 1, 1, 1, 1]) (rest := [.blk 2, .code [1, 1, 1, 1, 1]]) (pat := P8_1)
    (fun _ => rfl) (fun _ => rfl) (fun _ => rfl) (by kernel_rfl) (by kernel_rfl)
    (fun k h => (all1 h (all1 (H8_2 m m) all0)))
    (fun k xs v h => by
      obtain ⟨a0, a1, a2, a3, a4, a5, a6, rfl⟩ := Y8_1 h
      exact (G8_1 m k a0 a1 a2 a3 a4 a5 a6).trans h)
theorem G8_0 (m : Nat) (k : List Un → Option (List Un)) (a0 : Int) (a1 : Int) (a2 : List Int) (a3 : Int) (a4 : Int) (a5 : List Int) (a6 : List Int) : roadFromS Try.prog [] T8 KN (bodyOf (fnOf Try.prog 8)) [0, 1, 0, 1, 1, 1] [.blk 0, .code [1, 1, 1, 1]] P8_0 [.i a0, .i a1, .l a2, .i a3, .i a4, .l a5, .l a6] (kksS Try.prog (fnOf Try.prog 8).results.toList X8 0 [S8_0 k, S8_1 (L8_1 m m)]) = L8_0s m k [.i a0, .i a1, .l a2, .i a3, .i a4, .l a5, .l a6] := by kernel_rfl
theorem Y8_0 {m : Nat} {k : List Un → Option (List Un)} {xs : List Un} {v : List Un} (h : L8_0s m k xs = some v) : ∃ a0 a1 a2 a3 a4 a5 a6, xs = [.i a0, .i a1, .l a2, .i a3, .i a4, .l a5, .l a6] := by
  unfold L8_0s at h
  split at h
  · exact ⟨_, _, _, _, _, _, _, rfl⟩
  · cases h
theorem H8_0 (m : Nat) : ∀ n, HoldsS Try.prog [] (ofTab TE) (fnOf Try.prog 8).results.toList X8 0 (bodyOf (fnOf Try.prog 8)) (S8_0 (L8_0 m n)) :=
  StopS.iter KN_none T8_right (mk := S8_0) (Fs := L8_0s m) (W := fun k => [S8_0 k, S8_1 (L8_1 m m)]) (p := [0, 1, 0, 1, 1, 1]) (rest := [.blk 0, .code [1, 1, 1, 1]]) (pat := P8_0)
    (fun _ => rfl) (fun _ => rfl) (fun _ => rfl) (by kernel_rfl) (by kernel_rfl)
    (fun k h => (all1 h (all1 (H8_1 m m) all0)))
    (fun k xs v h => by
      obtain ⟨a0, a1, a2, a3, a4, a5, a6, rfl⟩ := Y8_0 h
      exact (G8_0 m k a0 a1 a2 a3 a4 a5 a6).trans h)
theorem G8 (m : Nat) (a0 : Int) (a1 : Int) (a2 : List Int) : roadInS Try.prog [] T8 KN (fnOf Try.prog 8) N8 [.i a0, .i a1, .l a2] (kksS Try.prog (fnOf Try.prog 8).results.toList X8 0 [S8_0 (L8_0 m m)]) = t8 m a0 a1 a2 := by kernel_rfl
theorem tells8 (m : Nat) (a0 : Int) (a1 : Int) (a2 : List Int) {ys : List Un} (h : t8 m a0 a1 a2 = some ys) : TellsS Try.prog [] (ofTab TE) 8 N8 X8 [.i a0, .i a1, .l a2] ys :=
  tells_road KN_none T8_right (W := [S8_0 (L8_0 m m)]) (by kernel_rfl) (by kernel_rfl) (by kernel_rfl)
    (all1 (H8_0 m m) all0) ((G8 m a0 a1 a2).trans h)

theorem timL38 (m : Nat) (a j : Int) (c x y z : List Int) (hxl : x.length = c.length) (hy : y.length = c.length) (hz : z.length = c.length) (hs : c.length < 1000000)
    (h1 : ∀ i, i < c.length → x.getD i 0 = a * c.getD i 0 ∧ z.getD i 0 = j * y.getD i 0 ∧ 0 ≤ a * c.getD i 0 ∧ a * c.getD i 0 ≤ 1152921504606846976 ∧ 0 ≤ j * y.getD i 0 ∧ j * y.getD i 0 ≤ 1152921504606846976) : ∀ (r i n : Nat), r < n → i + r = c.length →
    L8_3 m n [.i a, .i j, .i (c.length : Int), .i (i : Int), .l c, .l x, .l y, .l z] = some [.b true] := by
  intro r
  induction r with
  | zero =>
    intro i n hn hr
    obtain ⟨n, rfl⟩ := one_more n (by omega)
    rw [L8_3_succ]; unfold L8_3s; dsimp only
    repeat' (first
      | with_reducible rfl
      | (with_reducible refine lt_i ?_; intro x hx; (try simp (disch := omega) only [wr, if_pos, if_neg, Int.sub_zero, Int.zero_add, List.length_append, List.length_cons, List.length_nil, List.length_replicate, List.length_take, List.length_drop, Int.natCast_add, Int.toNat_natCast] at hx); (try simp only [min_if', max_if'] at hx); subst hx)
      | (with_reducible refine bif_t ?_ ?_; · ((try simp (disch := omega) only [wr, if_pos, if_neg, List.length_append, List.length_cons, List.length_nil, List.length_replicate, List.length_take, List.length_drop, Int.natCast_add, Int.toNat_natCast]); (first | done | ((try simp only [min_if', max_if']); (first | done | ((try simp only [Bool.true_and, Bool.and_true, Bool.and_eq_true, Bool.and_eq_false_iff, Bool.or_eq_true, Bool.or_eq_false_iff, true_and, and_true, decide_eq_true_eq, decide_eq_false_iff_not, beq_iff_eq, beq_eq_false_iff_ne, bne_iff_ne, bne_eq_false_iff_eq, ne_eq, Bool.not_eq_true', Bool.not_eq_false', Decidable.not_not]) <;> omega))))))
      | (with_reducible refine bif_f ?_ ?_; · ((try simp (disch := omega) only [wr, if_pos, if_neg, List.length_append, List.length_cons, List.length_nil, List.length_replicate, List.length_take, List.length_drop, Int.natCast_add, Int.toNat_natCast]); (first | done | ((try simp only [min_if', max_if']); (first | done | ((try simp only [Bool.true_and, Bool.and_true, Bool.and_eq_true, Bool.and_eq_false_iff, Bool.or_eq_true, Bool.or_eq_false_iff, true_and, and_true, decide_eq_true_eq, decide_eq_false_iff_not, beq_iff_eq, beq_eq_false_iff_ne, bne_iff_ne, bne_eq_false_iff_eq, ne_eq, Bool.not_eq_true', Bool.not_eq_false', Decidable.not_not]) <;> omega))))))
      | (with_reducible refine bif_s ?_ ?_ <;> (intro hc; (try simp (disch := omega) only [wr, if_pos, if_neg, List.length_append, List.length_cons, List.length_nil, List.length_replicate, List.length_take, List.length_drop, Int.natCast_add, Int.toNat_natCast] at hc); (try simp only [min_if', max_if'] at hc); (try simp only [Bool.true_and, Bool.and_true, Bool.and_eq_true, Bool.and_eq_false_iff, Bool.or_eq_true, Bool.or_eq_false_iff, true_and, and_true, decide_eq_true_eq, decide_eq_false_iff_not, beq_iff_eq, beq_eq_false_iff_ne, bne_iff_ne, bne_eq_false_iff_eq, ne_eq, Bool.not_eq_true', Bool.not_eq_false', Decidable.not_not] at hc)))
      | fail "stuck")
  | succ r ih =>
    intro i n hn hr
    obtain ⟨n, rfl⟩ := one_more n (by omega)
    have := ih (i + 1) n (by omega) (by omega)
    simp only [Int.natCast_add] at this
    obtain ⟨e1, e2, b1, b2, b3, b4⟩ := h1 i (by omega)
    rw [L8_3_succ]; unfold L8_3s; dsimp only
    simp only [Int.toNat_natCast, e1, e2]
    repeat' (first
      | with_reducible rfl
      | (with_reducible refine lt_i ?_; intro x hx; (try simp (disch := omega) only [wr, if_pos, if_neg, Int.sub_zero, Int.zero_add, List.length_append, List.length_cons, List.length_nil, List.length_replicate, List.length_take, List.length_drop, Int.natCast_add, Int.toNat_natCast] at hx); (try simp only [min_if', max_if'] at hx); subst hx)
      | (with_reducible refine bif_t ?_ ?_; · ((try simp (disch := omega) only [wr, if_pos, if_neg, List.length_append, List.length_cons, List.length_nil, List.length_replicate, List.length_take, List.length_drop, Int.natCast_add, Int.toNat_natCast]); (first | done | ((try simp only [min_if', max_if']); (first | done | ((try simp only [Bool.true_and, Bool.and_true, Bool.and_eq_true, Bool.and_eq_false_iff, Bool.or_eq_true, Bool.or_eq_false_iff, true_and, and_true, decide_eq_true_eq, decide_eq_false_iff_not, beq_iff_eq, beq_eq_false_iff_ne, bne_iff_ne, bne_eq_false_iff_eq, ne_eq, Bool.not_eq_true', Bool.not_eq_false', Decidable.not_not]) <;> omega))))))
      | (with_reducible refine bif_f ?_ ?_; · ((try simp (disch := omega) only [wr, if_pos, if_neg, List.length_append, List.length_cons, List.length_nil, List.length_replicate, List.length_take, List.length_drop, Int.natCast_add, Int.toNat_natCast]); (first | done | ((try simp only [min_if', max_if']); (first | done | ((try simp only [Bool.true_and, Bool.and_true, Bool.and_eq_true, Bool.and_eq_false_iff, Bool.or_eq_true, Bool.or_eq_false_iff, true_and, and_true, decide_eq_true_eq, decide_eq_false_iff_not, beq_iff_eq, beq_eq_false_iff_ne, bne_iff_ne, bne_eq_false_iff_eq, ne_eq, Bool.not_eq_true', Bool.not_eq_false', Decidable.not_not]) <;> omega))))))
      | (with_reducible refine bif_s ?_ ?_ <;> (intro hc; (try simp (disch := omega) only [wr, if_pos, if_neg, List.length_append, List.length_cons, List.length_nil, List.length_replicate, List.length_take, List.length_drop, Int.natCast_add, Int.toNat_natCast] at hc); (try simp only [min_if', max_if'] at hc); (try simp only [Bool.true_and, Bool.and_true, Bool.and_eq_true, Bool.and_eq_false_iff, Bool.or_eq_true, Bool.or_eq_false_iff, true_and, and_true, decide_eq_true_eq, decide_eq_false_iff_not, beq_iff_eq, beq_eq_false_iff_ne, bne_iff_ne, bne_eq_false_iff_eq, ne_eq, Bool.not_eq_true', Bool.not_eq_false', Decidable.not_not] at hc)))
      | fail "stuck")
    simp (disch := omega) only [wr]
    exact this
theorem timL28 (m : Nat) (a j : Int) (c x y : List Int) (hj : 1 ≤ j ∧ j ≤ 1000) (ha : 0 ≤ a ∧ a ≤ 8388608) (hxl : x.length = c.length) (hy : y = inOrd a c) (hs : c.length < m) (hs2 : c.length ≤ 8) (hb : ∀ x ∈ c, 0 ≤ x ∧ x ≤ 1048576)
    (h1 : ∀ i, i < c.length → x.getD i 0 = a * c.getD i 0) : ∀ (r i n : Nat), r < n → i + r = c.length →
    L8_2 m n [.i a, .i j, .i (c.length : Int), .i (i : Int), .l c, .l x, .l y, .l ((c.take i).map fun c => j * c)] = some [.b true] := by
  have yl : y.length = c.length := by rw [hy, inOrd_len]
  have hja : 0 ≤ j * a ∧ j * a ≤ 1000 * 8388608 := ⟨Int.mul_nonneg (by omega) ha.1, Int.mul_le_mul hj.2 ha.2 ha.1 (by omega)⟩
  intro r
  induction r with
  | zero =>
    intro i n hn hr
    obtain ⟨n, rfl⟩ := one_more n (by omega)
    rw [show i = c.length by omega, List.take_length]
    have ez := inOrd_times (j := j) (by omega) c a
    have zl : ((inOrd a c).map fun c => j * c).length = c.length := by simp [inOrd_len]
    have fin := timL38 m a j c x y ((inOrd a c).map fun c => j * c) hxl yl zl (by omega) (fun i hi => by
      have hc := hb _ (getD_mem hi)
      have hyi := inOrd_in c a ha.1 (y.getD i 0) (by rw [← hy]; exact getD_mem (by omega))
      have e1 := Int.mul_nonneg ha.1 hc.1
      have e2 : a * c.getD i 0 ≤ 8388608 * 1048576 := Int.mul_le_mul ha.2 hc.2 hc.1 (by omega)
      have e3 := Int.mul_nonneg (show 0 ≤ j by omega) hyi.1
      have e4 : j * y.getD i 0 ≤ 1000 * 8388608 := Int.mul_le_mul hj.2 (by omega) hyi.1 (by omega)
      refine ⟨h1 i hi, ?_, e1, by omega, e3, by omega⟩
      rw [map_getD' _ (by rw [inOrd_len]; exact hi), hy]) c.length 0 m (by omega) (by omega)
    have hm : max (j * a) 0 = j * a := by omega
    have il : ((c.map fun c => j * c)).length = c.length := by simp
    rw [L8_2_succ]; unfold L8_2s; dsimp only
    repeat' (first
      | with_reducible rfl
      | (with_reducible refine lt_i ?_; intro x hx; (try simp (disch := omega) only [wr, if_pos, if_neg, Int.sub_zero, Int.zero_add, hm, ez, zl, hxl, yl, List.length_map, List.length_append, List.length_cons, List.length_nil, List.length_replicate, List.length_take, List.length_drop, Int.natCast_add, Int.toNat_natCast] at hx); (try simp only [min_if', max_if'] at hx); subst hx)
      | (with_reducible refine bif_t ?_ ?_; · ((try simp (disch := omega) only [wr, if_pos, if_neg, hm, ez, zl, hxl, yl, List.length_map, List.length_append, List.length_cons, List.length_nil, List.length_replicate, List.length_take, List.length_drop, Int.natCast_add, Int.toNat_natCast]); (first | done | ((try simp only [min_if', max_if']); (first | done | ((try simp only [Bool.true_and, Bool.and_true, Bool.and_eq_true, Bool.and_eq_false_iff, Bool.or_eq_true, Bool.or_eq_false_iff, true_and, and_true, decide_eq_true_eq, decide_eq_false_iff_not, beq_iff_eq, beq_eq_false_iff_ne, bne_iff_ne, bne_eq_false_iff_eq, ne_eq, Bool.not_eq_true', Bool.not_eq_false', Decidable.not_not]) <;> omega))))))
      | (with_reducible refine bif_f ?_ ?_; · ((try simp (disch := omega) only [wr, if_pos, if_neg, hm, ez, zl, hxl, yl, List.length_map, List.length_append, List.length_cons, List.length_nil, List.length_replicate, List.length_take, List.length_drop, Int.natCast_add, Int.toNat_natCast]); (first | done | ((try simp only [min_if', max_if']); (first | done | ((try simp only [Bool.true_and, Bool.and_true, Bool.and_eq_true, Bool.and_eq_false_iff, Bool.or_eq_true, Bool.or_eq_false_iff, true_and, and_true, decide_eq_true_eq, decide_eq_false_iff_not, beq_iff_eq, beq_eq_false_iff_ne, bne_iff_ne, bne_eq_false_iff_eq, ne_eq, Bool.not_eq_true', Bool.not_eq_false', Decidable.not_not]) <;> omega))))))
      | (with_reducible refine bif_s ?_ ?_ <;> (intro hc; (try simp (disch := omega) only [wr, if_pos, if_neg, hm, ez, zl, hxl, yl, List.length_map, List.length_append, List.length_cons, List.length_nil, List.length_replicate, List.length_take, List.length_drop, Int.natCast_add, Int.toNat_natCast] at hc); (try simp only [min_if', max_if'] at hc); (try simp only [Bool.true_and, Bool.and_true, Bool.and_eq_true, Bool.and_eq_false_iff, Bool.or_eq_true, Bool.or_eq_false_iff, true_and, and_true, decide_eq_true_eq, decide_eq_false_iff_not, beq_iff_eq, beq_eq_false_iff_ne, bne_iff_ne, bne_eq_false_iff_eq, ne_eq, Bool.not_eq_true', Bool.not_eq_false', Decidable.not_not] at hc)))
      | fail "stuck")
    rw [hm, ez]
    exact fin
  | succ r ih =>
    intro i n hn hr
    obtain ⟨n, rfl⟩ := one_more n (by omega)
    have := ih (i + 1) n (by omega) (by omega)
    rw [List.take_succ_eq_append_getElem (by omega), List.map_append] at this
    have hg : c.getD i 0 = c[i]'(by omega) := by rw [List.getD_eq_getElem?_getD, List.getElem?_eq_getElem (by omega)]; rfl
    have hc := hb _ (getD_mem (l := c) (i := i) (by omega))
    rw [hg] at hc
    have e3 := Int.mul_nonneg (show 0 ≤ j by omega) hc.1
    have e4 : j * c[i]'(by omega) ≤ 1000 * 1048576 := Int.mul_le_mul hj.2 hc.2 hc.1 (by omega)
    simp only [Int.natCast_add, List.map_cons, List.map_nil] at this
    rw [L8_2_succ]; unfold L8_2s; dsimp only
    rw [Int.toNat_natCast, hg]
    repeat' (first
      | with_reducible rfl
      | (with_reducible refine lt_i ?_; intro x hx; (try simp (disch := omega) only [wr, if_pos, if_neg, Int.sub_zero, Int.zero_add, List.length_map, List.length_append, List.length_cons, List.length_nil, List.length_replicate, List.length_take, List.length_drop, Int.natCast_add, Int.toNat_natCast] at hx); (try simp only [min_if', max_if'] at hx); subst hx)
      | (with_reducible refine bif_t ?_ ?_; · ((try simp (disch := omega) only [wr, if_pos, if_neg, List.length_map, List.length_append, List.length_cons, List.length_nil, List.length_replicate, List.length_take, List.length_drop, Int.natCast_add, Int.toNat_natCast]); (first | done | ((try simp only [min_if', max_if']); (first | done | ((try simp only [Bool.true_and, Bool.and_true, Bool.and_eq_true, Bool.and_eq_false_iff, Bool.or_eq_true, Bool.or_eq_false_iff, true_and, and_true, decide_eq_true_eq, decide_eq_false_iff_not, beq_iff_eq, beq_eq_false_iff_ne, bne_iff_ne, bne_eq_false_iff_eq, ne_eq, Bool.not_eq_true', Bool.not_eq_false', Decidable.not_not]) <;> omega))))))
      | (with_reducible refine bif_f ?_ ?_; · ((try simp (disch := omega) only [wr, if_pos, if_neg, List.length_map, List.length_append, List.length_cons, List.length_nil, List.length_replicate, List.length_take, List.length_drop, Int.natCast_add, Int.toNat_natCast]); (first | done | ((try simp only [min_if', max_if']); (first | done | ((try simp only [Bool.true_and, Bool.and_true, Bool.and_eq_true, Bool.and_eq_false_iff, Bool.or_eq_true, Bool.or_eq_false_iff, true_and, and_true, decide_eq_true_eq, decide_eq_false_iff_not, beq_iff_eq, beq_eq_false_iff_ne, bne_iff_ne, bne_eq_false_iff_eq, ne_eq, Bool.not_eq_true', Bool.not_eq_false', Decidable.not_not]) <;> omega))))))
      | (with_reducible refine bif_s ?_ ?_ <;> (intro hc; (try simp (disch := omega) only [wr, if_pos, if_neg, List.length_map, List.length_append, List.length_cons, List.length_nil, List.length_replicate, List.length_take, List.length_drop, Int.natCast_add, Int.toNat_natCast] at hc); (try simp only [min_if', max_if'] at hc); (try simp only [Bool.true_and, Bool.and_true, Bool.and_eq_true, Bool.and_eq_false_iff, Bool.or_eq_true, Bool.or_eq_false_iff, true_and, and_true, decide_eq_true_eq, decide_eq_false_iff_not, beq_iff_eq, beq_eq_false_iff_ne, bne_iff_ne, bne_eq_false_iff_eq, ne_eq, Bool.not_eq_true', Bool.not_eq_false', Decidable.not_not] at hc)))
      | fail "stuck")
    simp (disch := omega) only [wr]
    exact this
theorem timL18 (n0 k0 : Int) (c : List Int) (hs2 : c.length ≤ 8) (hb : ∀ x ∈ c, 0 ≤ x ∧ x ≤ 1048576) : ∀ (r i n : Nat), r < n → i + r = c.length →
    L8_1 32 n [.i n0, .i k0, .i c.sum, .i (c.length : Int), .i (i : Int), .l c, .l ((c.take i).map fun x => c.sum * x)] = some [.b true] := by
  have sb := sum_bound c 1048576 (by omega) hb
  intro r
  induction r with
  | zero =>
    intro i n hn hr
    obtain ⟨n, rfl⟩ := one_more n (by omega)
    rw [show i = c.length by omega, List.take_length]
    have hw := within_le (a := n0) (lo := 0) (hi := c.sum) (by omega)
    have hv := within_le (a := k0) (lo := 1) (hi := 1000) (by omega)
    obtain ⟨a, hwa⟩ : ∃ a, within n0 0 c.sum = a := ⟨_, rfl⟩
    obtain ⟨j, hwj⟩ : ∃ j, within k0 1 1000 = j := ⟨_, rfl⟩
    rw [hwa] at hw
    rw [hwj] at hv
    have hm : max a 0 = a := by omega
    have hp : 0 ≤ c.sum * a ∧ c.sum * a ≤ 8388608 * 8388608 := ⟨Int.mul_nonneg (by omega) hw.1, Int.mul_le_mul (by omega) (by omega) hw.1 (by omega)⟩
    have fin := timL28 32 a j c (proV (c.sum * a) (c.map fun x => c.sum * x)) (inOrd a c) hv (by omega) (by rw [proV_len]; simp) rfl (by omega) hs2 hb (proV_times hb hs2 hw.1 hw.2) c.length 0 32 (by omega) (by omega)
    simp only [List.take_zero, List.map_nil] at fin
    rw [L8_1_succ]; unfold L8_1s; dsimp only
    repeat' (first
      | with_reducible rfl
      | (with_reducible refine lt_i ?_; intro x hx; (try simp (disch := omega) only [wr, if_pos, if_neg, Int.sub_zero, Int.zero_add, hwa, hwj, hm, List.length_map, List.length_append, List.length_cons, List.length_nil, List.length_replicate, List.length_take, List.length_drop, Int.natCast_add, Int.toNat_natCast] at hx); (try simp only [min_if', max_if'] at hx); subst hx)
      | (with_reducible refine bif_t ?_ ?_; · ((try simp (disch := omega) only [wr, if_pos, if_neg, hwa, hwj, hm, List.length_map, List.length_append, List.length_cons, List.length_nil, List.length_replicate, List.length_take, List.length_drop, Int.natCast_add, Int.toNat_natCast]); (first | done | ((try simp only [min_if', max_if']); (first | done | ((try simp only [Bool.true_and, Bool.and_true, Bool.and_eq_true, Bool.and_eq_false_iff, Bool.or_eq_true, Bool.or_eq_false_iff, true_and, and_true, decide_eq_true_eq, decide_eq_false_iff_not, beq_iff_eq, beq_eq_false_iff_ne, bne_iff_ne, bne_eq_false_iff_eq, ne_eq, Bool.not_eq_true', Bool.not_eq_false', Decidable.not_not]) <;> omega))))))
      | (with_reducible refine bif_f ?_ ?_; · ((try simp (disch := omega) only [wr, if_pos, if_neg, hwa, hwj, hm, List.length_map, List.length_append, List.length_cons, List.length_nil, List.length_replicate, List.length_take, List.length_drop, Int.natCast_add, Int.toNat_natCast]); (first | done | ((try simp only [min_if', max_if']); (first | done | ((try simp only [Bool.true_and, Bool.and_true, Bool.and_eq_true, Bool.and_eq_false_iff, Bool.or_eq_true, Bool.or_eq_false_iff, true_and, and_true, decide_eq_true_eq, decide_eq_false_iff_not, beq_iff_eq, beq_eq_false_iff_ne, bne_iff_ne, bne_eq_false_iff_eq, ne_eq, Bool.not_eq_true', Bool.not_eq_false', Decidable.not_not]) <;> omega))))))
      | (with_reducible refine bif_s ?_ ?_ <;> (intro hc; (try simp (disch := omega) only [wr, if_pos, if_neg, hwa, hwj, hm, List.length_map, List.length_append, List.length_cons, List.length_nil, List.length_replicate, List.length_take, List.length_drop, Int.natCast_add, Int.toNat_natCast] at hc); (try simp only [min_if', max_if'] at hc); (try simp only [Bool.true_and, Bool.and_true, Bool.and_eq_true, Bool.and_eq_false_iff, Bool.or_eq_true, Bool.or_eq_false_iff, true_and, and_true, decide_eq_true_eq, decide_eq_false_iff_not, beq_iff_eq, beq_eq_false_iff_ne, bne_iff_ne, bne_eq_false_iff_eq, ne_eq, Bool.not_eq_true', Bool.not_eq_false', Decidable.not_not] at hc)))
      | fail "stuck")
    rw [hwa, hwj, hm]
    exact fin
  | succ r ih =>
    intro i n hn hr
    obtain ⟨n, rfl⟩ := one_more n (by omega)
    have := ih (i + 1) n (by omega) (by omega)
    rw [List.take_succ_eq_append_getElem (by omega), List.map_append] at this
    have hg : c.getD i 0 = c[i]'(by omega) := by rw [List.getD_eq_getElem?_getD, List.getElem?_eq_getElem (by omega)]; rfl
    have hc := hb _ (getD_mem (l := c) (i := i) (by omega))
    rw [hg] at hc
    have e3 := Int.mul_nonneg (show 0 ≤ c.sum by omega) hc.1
    have e4 : c.sum * c[i]'(by omega) ≤ 8388608 * 1048576 := Int.mul_le_mul (by omega) hc.2 hc.1 (by omega)
    simp only [Int.natCast_add, List.map_cons, List.map_nil] at this
    rw [L8_1_succ]; unfold L8_1s; dsimp only
    rw [Int.toNat_natCast, hg]
    repeat' (first
      | with_reducible rfl
      | (with_reducible refine lt_i ?_; intro x hx; (try simp (disch := omega) only [wr, if_pos, if_neg, Int.sub_zero, Int.zero_add, List.length_map, List.length_append, List.length_cons, List.length_nil, List.length_replicate, List.length_take, List.length_drop, Int.natCast_add, Int.toNat_natCast] at hx); (try simp only [min_if', max_if'] at hx); subst hx)
      | (with_reducible refine bif_t ?_ ?_; · ((try simp (disch := omega) only [wr, if_pos, if_neg, List.length_map, List.length_append, List.length_cons, List.length_nil, List.length_replicate, List.length_take, List.length_drop, Int.natCast_add, Int.toNat_natCast]); (first | done | ((try simp only [min_if', max_if']); (first | done | ((try simp only [Bool.true_and, Bool.and_true, Bool.and_eq_true, Bool.and_eq_false_iff, Bool.or_eq_true, Bool.or_eq_false_iff, true_and, and_true, decide_eq_true_eq, decide_eq_false_iff_not, beq_iff_eq, beq_eq_false_iff_ne, bne_iff_ne, bne_eq_false_iff_eq, ne_eq, Bool.not_eq_true', Bool.not_eq_false', Decidable.not_not]) <;> omega))))))
      | (with_reducible refine bif_f ?_ ?_; · ((try simp (disch := omega) only [wr, if_pos, if_neg, List.length_map, List.length_append, List.length_cons, List.length_nil, List.length_replicate, List.length_take, List.length_drop, Int.natCast_add, Int.toNat_natCast]); (first | done | ((try simp only [min_if', max_if']); (first | done | ((try simp only [Bool.true_and, Bool.and_true, Bool.and_eq_true, Bool.and_eq_false_iff, Bool.or_eq_true, Bool.or_eq_false_iff, true_and, and_true, decide_eq_true_eq, decide_eq_false_iff_not, beq_iff_eq, beq_eq_false_iff_ne, bne_iff_ne, bne_eq_false_iff_eq, ne_eq, Bool.not_eq_true', Bool.not_eq_false', Decidable.not_not]) <;> omega))))))
      | (with_reducible refine bif_s ?_ ?_ <;> (intro hc; (try simp (disch := omega) only [wr, if_pos, if_neg, List.length_map, List.length_append, List.length_cons, List.length_nil, List.length_replicate, List.length_take, List.length_drop, Int.natCast_add, Int.toNat_natCast] at hc); (try simp only [min_if', max_if'] at hc); (try simp only [Bool.true_and, Bool.and_true, Bool.and_eq_true, Bool.and_eq_false_iff, Bool.or_eq_true, Bool.or_eq_false_iff, true_and, and_true, decide_eq_true_eq, decide_eq_false_iff_not, beq_iff_eq, beq_eq_false_iff_ne, bne_iff_ne, bne_eq_false_iff_eq, ne_eq, Bool.not_eq_true', Bool.not_eq_false', Decidable.not_not] at hc)))
      | fail "stuck")
    simp (disch := omega) only [wr]
    exact this
theorem timL08 (n0 k0 : Int) (l : List Int) : ∀ (r i : Nat) (own : List Int) (n : Nat), r < n → i + r = min 8 l.length → own.length = i → (∀ x ∈ own, 0 ≤ x ∧ x ≤ 1048576) →
    L8_0 32 n [.i n0, .i k0, .l l, .i own.sum, .i (i : Int), .l own, .l []] = some [.b true] := by
  intro r
  induction r with
  | zero =>
    intro i c n hn hr hi hb
    obtain ⟨n, rfl⟩ := one_more n (by omega)
    have fin := timL18 n0 k0 c (by omega) hb c.length 0 32 (by omega) (by omega)
    simp only [List.take_zero, List.map_nil] at fin
    rw [L8_0_succ]; unfold L8_0s; dsimp only
    repeat' (first
      | with_reducible rfl
      | (with_reducible refine lt_i ?_; intro x hx; (try simp (disch := omega) only [wr, if_pos, if_neg, Int.sub_zero, Int.zero_add, List.length_append, List.length_cons, List.length_nil, List.length_replicate, List.length_take, List.length_drop, Int.natCast_add, Int.toNat_natCast] at hx); (try simp only [min_if', max_if'] at hx); subst hx)
      | (with_reducible refine bif_t ?_ ?_; · ((try simp (disch := omega) only [wr, if_pos, if_neg, List.length_append, List.length_cons, List.length_nil, List.length_replicate, List.length_take, List.length_drop, Int.natCast_add, Int.toNat_natCast]); (first | done | ((try simp only [min_if', max_if']); (first | done | ((try simp only [Bool.true_and, Bool.and_true, Bool.and_eq_true, Bool.and_eq_false_iff, Bool.or_eq_true, Bool.or_eq_false_iff, true_and, and_true, decide_eq_true_eq, decide_eq_false_iff_not, beq_iff_eq, beq_eq_false_iff_ne, bne_iff_ne, bne_eq_false_iff_eq, ne_eq, Bool.not_eq_true', Bool.not_eq_false', Decidable.not_not]) <;> omega))))))
      | (with_reducible refine bif_f ?_ ?_; · ((try simp (disch := omega) only [wr, if_pos, if_neg, List.length_append, List.length_cons, List.length_nil, List.length_replicate, List.length_take, List.length_drop, Int.natCast_add, Int.toNat_natCast]); (first | done | ((try simp only [min_if', max_if']); (first | done | ((try simp only [Bool.true_and, Bool.and_true, Bool.and_eq_true, Bool.and_eq_false_iff, Bool.or_eq_true, Bool.or_eq_false_iff, true_and, and_true, decide_eq_true_eq, decide_eq_false_iff_not, beq_iff_eq, beq_eq_false_iff_ne, bne_iff_ne, bne_eq_false_iff_eq, ne_eq, Bool.not_eq_true', Bool.not_eq_false', Decidable.not_not]) <;> omega))))))
      | (with_reducible refine bif_s ?_ ?_ <;> (intro hc; (try simp (disch := omega) only [wr, if_pos, if_neg, List.length_append, List.length_cons, List.length_nil, List.length_replicate, List.length_take, List.length_drop, Int.natCast_add, Int.toNat_natCast] at hc); (try simp only [min_if', max_if'] at hc); (try simp only [Bool.true_and, Bool.and_true, Bool.and_eq_true, Bool.and_eq_false_iff, Bool.or_eq_true, Bool.or_eq_false_iff, true_and, and_true, decide_eq_true_eq, decide_eq_false_iff_not, beq_iff_eq, beq_eq_false_iff_ne, bne_iff_ne, bne_eq_false_iff_eq, ne_eq, Bool.not_eq_true', Bool.not_eq_false', Decidable.not_not] at hc)))
      | fail "stuck")
    all_goals exact fin
  | succ r ih =>
    intro i own n hn hr hi hb
    obtain ⟨n, rfl⟩ := one_more n (by omega)
    have hw := within_le (a := l.getD i 0) (lo := 0) (hi := 1048576) (by omega)
    have sb := sum_bound own 1048576 (by omega) hb
    have := ih (i + 1) (own ++ [within (l.getD i 0) 0 1048576]) n (by omega) (by omega) (by simp; omega) (by
      intro x hx
      rcases List.mem_append.1 hx with hx | hx
      · exact hb x hx
      · simp at hx; subst hx; exact hw)
    simp only [Int.natCast_add, List.sum_append, List.sum_cons, List.sum_nil, Int.add_zero] at this
    rw [L8_0_succ]; unfold L8_0s; dsimp only
    rw [Int.toNat_natCast]
    repeat' (first
      | with_reducible rfl
      | (with_reducible refine lt_i ?_; intro x hx; (try simp (disch := omega) only [wr, if_pos, if_neg, Int.sub_zero, Int.zero_add, List.length_append, List.length_cons, List.length_nil, List.length_replicate, List.length_take, List.length_drop, Int.natCast_add, Int.toNat_natCast] at hx); (try simp only [min_if', max_if'] at hx); subst hx)
      | (with_reducible refine bif_t ?_ ?_; · ((try simp (disch := omega) only [wr, if_pos, if_neg, List.length_append, List.length_cons, List.length_nil, List.length_replicate, List.length_take, List.length_drop, Int.natCast_add, Int.toNat_natCast]); (first | done | ((try simp only [min_if', max_if']); (first | done | ((try simp only [Bool.true_and, Bool.and_true, Bool.and_eq_true, Bool.and_eq_false_iff, Bool.or_eq_true, Bool.or_eq_false_iff, true_and, and_true, decide_eq_true_eq, decide_eq_false_iff_not, beq_iff_eq, beq_eq_false_iff_ne, bne_iff_ne, bne_eq_false_iff_eq, ne_eq, Bool.not_eq_true', Bool.not_eq_false', Decidable.not_not]) <;> omega))))))
      | (with_reducible refine bif_f ?_ ?_; · ((try simp (disch := omega) only [wr, if_pos, if_neg, List.length_append, List.length_cons, List.length_nil, List.length_replicate, List.length_take, List.length_drop, Int.natCast_add, Int.toNat_natCast]); (first | done | ((try simp only [min_if', max_if']); (first | done | ((try simp only [Bool.true_and, Bool.and_true, Bool.and_eq_true, Bool.and_eq_false_iff, Bool.or_eq_true, Bool.or_eq_false_iff, true_and, and_true, decide_eq_true_eq, decide_eq_false_iff_not, beq_iff_eq, beq_eq_false_iff_ne, bne_iff_ne, bne_eq_false_iff_eq, ne_eq, Bool.not_eq_true', Bool.not_eq_false', Decidable.not_not]) <;> omega))))))
      | (with_reducible refine bif_s ?_ ?_ <;> (intro hc; (try simp (disch := omega) only [wr, if_pos, if_neg, List.length_append, List.length_cons, List.length_nil, List.length_replicate, List.length_take, List.length_drop, Int.natCast_add, Int.toNat_natCast] at hc); (try simp only [min_if', max_if'] at hc); (try simp only [Bool.true_and, Bool.and_true, Bool.and_eq_true, Bool.and_eq_false_iff, Bool.or_eq_true, Bool.or_eq_false_iff, true_and, and_true, decide_eq_true_eq, decide_eq_false_iff_not, beq_iff_eq, beq_eq_false_iff_ne, bne_iff_ne, bne_eq_false_iff_eq, ne_eq, Bool.not_eq_true', Bool.not_eq_false', Decidable.not_not] at hc)))
      | fail "stuck")
    simp (disch := omega) only [wr]
    exact this

theorem spec8 (a0 : Int) (w0 : (Lit.int .i64 a0).wf = true) (a1 : Int) (w1 : (Lit.int .i64 a1).wf = true) (a2 : List Int) (w2 : ∀ n ∈ a2, (Lit.int .i64 n).wf = true) : ∃ m, t8 m a0 a1 a2 = some [.b true] := by
  exact ⟨32, timL08 a0 a1 a2 (min 8 a2.length) 0 [] 32 (by omega) (by omega) rfl (by simp)⟩

theorem walkShareTimes (w : World) (a0 : Int) (w0 : (Lit.int .i64 a0).wf = true) (a1 : Int) (w1 : (Lit.int .i64 a1).wf = true) (b2 : LArg) (o2 : b2.ok w) (p2 : b2.vp = .ints .i64) (u2 : ∀ n, (∃ xs, b2.un = .l xs ∧ n ∈ xs) → (Lit.int .i64 n).wf = true) : Calls Try.prog 8 #[.int .i64 a0, .int .i64 a1, b2.val] w fun e w' => e = .returned (.bool true) ∧ RowKit.Below w.heap.size w w' := by
  obtain ⟨x2, hx2⟩ := LArg.list p2
  obtain ⟨m, hm⟩ := spec8 a0 w0 a1 w1 x2 (fun n hn => u2 n ⟨_, hx2, hn⟩)
  exact law_lists Seat.mix Seat.names TE_right (xs := [.i .i64 a0, .i .i64 a1, b2]) (vps := N8.vals) (tells8 m a0 a1 x2 hm) (by simp only [List.map_cons, List.map_nil, hx2] <;> rfl) (by simp only [List.map_cons, List.map_nil, p2] <;> rfl)
    (by intro a ha; simp only [List.mem_cons, List.not_mem_nil, or_false] at ha; rcases ha with rfl | rfl | rfl <;> first | assumption | trivial)
end Go.Proofs.Ytibenahgbdhegaa
