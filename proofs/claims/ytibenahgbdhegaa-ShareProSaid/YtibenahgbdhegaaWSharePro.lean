/- The law SharePro answers true. Conditions: none. -/
import Derived.Test.YtibenahgbdhegaaShareAid
namespace Go.Proofs.Ytibenahgbdhegaa
open Go Go.Proofs.Ytibenahgbdhegaa.Ev
set_option linter.unusedVariables false
set_option linter.unusedSimpArgs false
set_option linter.unnecessarySimpa false
theorem proV_near {a : Int} {l : List Int} (ha : 0 ≤ a) (hle : a ≤ l.sum) (hok : sumOk l = true) : ∀ i, i < l.length →
    (0 < l.sum → -l.sum < (proV a l).getD i 0 * l.sum - a * l.getD i 0 ∧ (proV a l).getD i 0 * l.sum - a * l.getD i 0 < l.sum) ∧ (l.getD i 0 = 0 → (proV a l).getD i 0 = 0) ∧
    ∀ k, k < i → l.getD k 0 = l.getD i 0 → (proV a l).getD i 0 ≤ (proV a l).getD k 0 ∧ (proV a l).getD k 0 ≤ (proV a l).getD i 0 + 1 := by
  intro i hi
  by_cases h : l.sum ≤ a
  · rw [proV_full hok (by omega)]
    refine ⟨fun hp => ?_, fun h => h, fun k _ h => by omega⟩
    rw [show a = l.sum by omega, Int.mul_comm l.sum]; omega
  · obtain ⟨_, h2, h3⟩ := proV_part ha hok (show a < l.sum by omega)
    have hi2 := h2 i hi
    refine ⟨fun hp => ?_, fun hz => ?_, fun k hk he => ?_⟩
    · have e := Int.mul_ediv_add_emod (a * l.getD i 0) l.sum
      have r0 := Int.emod_nonneg (a * l.getD i 0) (show l.sum ≠ 0 by omega)
      have r1 := Int.emod_lt_of_pos (a * l.getD i 0) hp
      rw [Int.mul_comm (List.getD _ _ _) l.sum]
      rcases hi2 with h | ⟨h, hr⟩
      · rw [h]; omega
      · rw [h, Int.mul_add]; omega
    · rw [hz] at hi2
      simp at hi2
      simpa using hi2
    · have hk2 := h2 k (by omega)
      have := h3 k i hk hi (by rw [he]; omega)
      rw [he] at this hk2
      omega


/-! cascade/cascadelaw4.SharePro -/
def N6 : Pn := ⟨[.int .i64, .ints .i64], []⟩
def X6 : Pn := ⟨[.bool], []⟩
def L6_2s (m : Nat) (k1 : List Un → Option (List Un)) (k : List Un → Option (List Un)) : List Un → Option (List Un)
  | [.i a0, .i a1, .i a2, .i a3, .i a4, .i a5, .l a6, .l a7] =>
    bif decide (a3 < a2) then
     bif decide ((0 : Int) ≤ a3 ∧ a3 < (a6.length : Int)) then
      bif decide (a3.toNat < a6.length) then
       bif decide ((0 : Int) ≤ a2 ∧ a2 < (a6.length : Int)) then
        bif decide (a2.toNat < a6.length) then
         bif ((a6.getD a3.toNat 0) == (a6.getD a2.toNat 0)) then
          bif decide ((0 : Int) ≤ a3 ∧ a3 < (a7.length : Int)) then
           bif decide (a3.toNat < a7.length) then
            bif decide ((0 : Int) ≤ a2 ∧ a2 < (a7.length : Int)) then
             bif decide (a2.toNat < a7.length) then
              bif (decide ((a7.getD a3.toNat 0) < (a7.getD a2.toNat 0))) then
               some [.b false]
              else
               bif decide ((0 : Int) ≤ a3 ∧ a3 < (a7.length : Int)) then
                bif decide (a3.toNat < a7.length) then
                 bif decide ((0 : Int) ≤ a2 ∧ a2 < (a7.length : Int)) then
                  bif decide (a2.toNat < a7.length) then
                   bif (decide ((a7.getD a3.toNat 0) > (IntKind.i64.wrap ((a7.getD a2.toNat 0) + 1)))) then
                    some [.b false]
                   else
                    k [.i a0, .i a1, .i a2, .i (IntKind.i64.wrap (a3 + 1)), .i a4, .i a5, .l a6, .l a7]
                  else
                   none
                 else
                  none
                else
                 none
               else
                none
             else
              none
            else
             none
           else
            none
          else
           none
         else
          k [.i a0, .i a1, .i a2, .i (IntKind.i64.wrap (a3 + 1)), .i a4, .i a5, .l a6, .l a7]
        else
         none
       else
        none
      else
       none
     else
      none
    else
     k1 [.i a0, .i a1, .i a4, .i (IntKind.i64.wrap (a5 + 1)), .l a6, .l a7]
  | _ => none
def L6_2 (m : Nat) (k1 : List Un → Option (List Un)) : Nat → List Un → Option (List Un) := iterS (L6_2s m k1)
theorem L6_2_succ (m : Nat) (k1 : List Un → Option (List Un)) (n : Nat) : L6_2 m k1 (n + 1) = L6_2s m k1 (L6_2 m k1 n) := rfl
def P6_2 : Pn := ⟨[.any, .any, .any, .any, .any, .buf 0 1, .any, .int .i64, .any, .int .i64, .buf 1 1, .int .i64, .any, .int .i64, .any, .any, .any, .any, .any, .any, .any, .any, .any, .any, .any, .any, .any, .any, .any, .any, .any, .any, .any, .any, .any, .any, .any, .any, .any, .any, .any, .any, .any, .any, .any, .any, .any, .any, .any, .int .i64, .int .i64, .any, .any, .any, .any, .any, .any, .any, .any, .any, .any, .any, .any, .any, .any, .any, .any, .any, .any, .any, .any, .any, .any, .any, .any, .any, .any, .any, .any, .any, .any, .any, .any, .any, .any, .any, .any, .any, .any, .any, .any, .any, .any, .any, .any, .any, .any, .any, .any, .any, .any, .any, .any, .any, .any, .any, .any, .any, .any, .any, .any, .any, .any, .any, .any, .any, .any, .any, .any, .any, .any, .any, .any, .any, .any, .any, .any, .any, .any, .any, .any, .any], [.ints .i64, .ints .i64]⟩
def S6_2 (F : List Un → Option (List Un)) : StopS := ⟨[.lp [0, 1, 1, 1, 1, 0, 0, 1, 1, 0, 0, 1, 0, 1, 1, 1, 1, 1, 1, 1], .blk 4, .blk 3, .code [1, 1, 1, 0, 0, 1, 0, 1, 1, 1, 1, 1, 1, 1], .lp [0, 1, 0, 1, 1, 1, 1, 1, 1, 1], .blk 2, .code [1, 1, 1, 1, 1, 1, 1, 1]], P6_2, F⟩
def L6_1s (m : Nat) (k : List Un → Option (List Un)) : List Un → Option (List Un)
  | [.i a0, .i a1, .i a2, .i a3, .l a4, .l a5] =>
    bif decide (a3 < a2) then
     bif decide ((0 : Int) ≤ a3 ∧ a3 < (a5.length : Int)) then
      bif decide (a3.toNat < a5.length) then
       bif decide ((0 : Int) ≤ a3 ∧ a3 < (a4.length : Int)) then
        bif decide (a3.toNat < a4.length) then
         lt ((IntKind.i64.wrap ((IntKind.i64.wrap ((a5.getD a3.toNat 0) * a0)) - (IntKind.i64.wrap (a1 * (a4.getD a3.toNat 0))))) : Int) fun x10 =>
         bif decide (a0 > 0) then
          bif decide (x10 ≤ (IntKind.i64.wrap (0 - a0))) then
           some [.b false]
          else
           bif decide (x10 ≥ a0) then
            some [.b false]
           else
            bif decide ((0 : Int) ≤ a3 ∧ a3 < (a4.length : Int)) then
             bif decide (a3.toNat < a4.length) then
              bif ((a4.getD a3.toNat 0) == 0) then
               bif decide ((0 : Int) ≤ a3 ∧ a3 < (a5.length : Int)) then
                bif decide (a3.toNat < a5.length) then
                 bif ((a5.getD a3.toNat 0) != 0) then
                  some [.b false]
                 else
                  L6_2 m k m [.i a0, .i a1, .i a3, .i 0, .i a2, .i a3, .l a4, .l a5]
                else
                 none
               else
                none
              else
               L6_2 m k m [.i a0, .i a1, .i a3, .i 0, .i a2, .i a3, .l a4, .l a5]
             else
              none
            else
             none
         else
          bif decide ((0 : Int) ≤ a3 ∧ a3 < (a4.length : Int)) then
           bif decide (a3.toNat < a4.length) then
            bif ((a4.getD a3.toNat 0) == 0) then
             bif decide ((0 : Int) ≤ a3 ∧ a3 < (a5.length : Int)) then
              bif decide (a3.toNat < a5.length) then
               bif ((a5.getD a3.toNat 0) != 0) then
                some [.b false]
               else
                L6_2 m k m [.i a0, .i a1, .i a3, .i 0, .i a2, .i a3, .l a4, .l a5]
              else
               none
             else
              none
            else
             L6_2 m k m [.i a0, .i a1, .i a3, .i 0, .i a2, .i a3, .l a4, .l a5]
           else
            none
          else
           none
        else
         none
       else
        none
      else
       none
     else
      none
    else
     some [.b true]
  | _ => none
def L6_1 (m : Nat) : Nat → List Un → Option (List Un) := iterS (L6_1s m)
theorem L6_1_succ (m : Nat) (n : Nat) : L6_1 m (n + 1) = L6_1s m (L6_1 m n) := rfl
def P6_1 : Pn := ⟨[.any, .any, .any, .any, .any, .buf 0 1, .any, .int .i64, .any, .int .i64, .buf 1 1, .any, .any, .any, .any, .any, .any, .any, .any, .any, .any, .any, .any, .any, .any, .any, .any, .any, .any, .any, .any, .any, .any, .any, .any, .any, .any, .any, .any, .any, .any, .any, .any, .any, .any, .any, .any, .any, .any, .int .i64, .int .i64, .any, .any, .any, .any, .any, .any, .any, .any, .any, .any, .any, .any, .any, .any, .any, .any, .any, .any, .any, .any, .any, .any, .any, .any, .any, .any, .any, .any, .any, .any, .any, .any, .any, .any, .any, .any, .any, .any, .any, .any, .any, .any, .any, .any, .any, .any, .any, .any, .any, .any, .any, .any, .any, .any, .any, .any, .any, .any, .any, .any, .any, .any, .any, .any, .any, .any, .any, .any, .any, .any, .any, .any, .any, .any, .any, .any, .any, .any, .any, .any, .any], [.ints .i64, .ints .i64]⟩
def S6_1 (F : List Un → Option (List Un)) : StopS := ⟨[.lp [0, 1, 0, 1, 1, 1, 1, 1, 1, 1], .blk 2, .code [1, 1, 1, 1, 1, 1, 1, 1]], P6_1, F⟩
def L6_0s (m : Nat) (k : List Un → Option (List Un)) : List Un → Option (List Un)
  | [.i a0, .l a1, .i a2, .l a3] =>
    bif (decide (a2 < (a1.length : Int))) then
     bif decide (a2 < 10) then
      bif decide ((0 : Int) ≤ a2 ∧ a2 < (a1.length : Int)) then
       bif decide (a2.toNat < a1.length) then
        bif decide ((a3.length + 1) < 1099511627776 ∧ (a3.length + 1) * 8 < 35184372088832) then
         k [.i a0, .l a1, .i (IntKind.i64.wrap (a2 + 1)), .l (a3 ++ ([(within (a1.getD a2.toNat 0) 0 16777216)]))]
        else
         none
       else
        none
      else
       none
     else
      bif decide (a3.length < 1099511627776) then
       bif decide (-2305843009213693952 ≤ 0 ∧ 0 ≤ (sumV a3) ∧ (sumV a3) ≤ 2305843009213693952) then
        bif decide ((within a0 0 (sumV a3)) ≤ 9223372036854775807 ∧ a3.length < 1099511627776) then
         lt ((proV (within a0 0 (sumV a3)) a3) : List Int) fun l4 =>
         bif ((l4.length : Int) != (a3.length : Int)) then
          some [.b false]
         else
          L6_1 m m [.i (sumV a3), .i (within a0 0 (sumV a3)), .i (a3.length : Int), .i 0, .l a3, .l l4]
        else
         none
       else
        none
      else
       none
    else
     bif decide (a3.length < 1099511627776) then
      bif decide (-2305843009213693952 ≤ 0 ∧ 0 ≤ (sumV a3) ∧ (sumV a3) ≤ 2305843009213693952) then
       bif decide ((within a0 0 (sumV a3)) ≤ 9223372036854775807 ∧ a3.length < 1099511627776) then
        lt ((proV (within a0 0 (sumV a3)) a3) : List Int) fun l6 =>
        bif ((l6.length : Int) != (a3.length : Int)) then
         some [.b false]
        else
         L6_1 m m [.i (sumV a3), .i (within a0 0 (sumV a3)), .i (a3.length : Int), .i 0, .l a3, .l l6]
       else
        none
      else
       none
     else
      none
  | _ => none
def L6_0 (m : Nat) : Nat → List Un → Option (List Un) := iterS (L6_0s m)
theorem L6_0_succ (m : Nat) (n : Nat) : L6_0 m (n + 1) = L6_0s m (L6_0 m n) := rfl
def P6_0 : Pn := ⟨[.int .i64, .ints .i64, .any, .any, .any, .buf 0 1, .int .i64, .any, .any, .any, .any, .any, .any, .any, .any, .any, .any, .any, .any, .any, .any, .any, .any, .any, .any, .any, .any, .any, .any, .any, .any, .any, .any, .any, .any, .any, .any, .any, .any, .any, .any, .any, .any, .any, .any, .any, .any, .any, .any, .any, .any, .any, .any, .any, .any, .any, .any, .any, .any, .any, .any, .any, .any, .any, .any, .any, .any, .any, .any, .any, .any, .any, .any, .any, .any, .any, .any, .any, .any, .any, .any, .any, .any, .any, .any, .any, .any, .any, .any, .any, .any, .any, .any, .any, .any, .any, .any, .any, .any, .any, .any, .any, .any, .any, .any, .any, .any, .any, .any, .any, .any, .any, .any, .any, .any, .any, .any, .any, .any, .any, .any, .any, .any, .any, .any, .any, .any, .any, .any, .any, .any, .any], [.ints .i64]⟩
def S6_0 (F : List Un → Option (List Un)) : StopS := ⟨[.lp [0, 1, 0, 1, 1], .blk 0, .code [1, 1, 1]], P6_0, F⟩
def t6 (m : Nat) (a0 : Int) (a1 : List Int) : Option (List Un) :=
  L6_0 m m [.i a0, .l a1, .i 0, .l []]
def T6 : TabS := tabS TE [(11, e11), (18, e18)]
theorem T6_right : TabRight Try.prog [] (ofTab TE) T6 := tabS_right (all1 right11 (all1 right18 all0))
theorem G6_2 (m : Nat) (k1 : List Un → Option (List Un)) (k : List Un → Option (List Un)) (a0 : Int) (a1 : Int) (a2 : Int) (a3 : Int) (a4 : Int) (a5 : Int) (a6 : List Int) (a7 : List Int) : roadFromS Try.prog [] T6 KN (bodyOf (fnOf Try.prog 6)) [0, 1, 1, 1, 1, 0, 0, 1, 1, 0, 0, 1, 0, 1, 1, 1, 1, 1, 1, 1] [.blk 4, .blk 3, .code [1, 1, 1, 0, 0, 1, 0, 1, 1, 1, 1, 1, 1, 1], .lp [0, 1, 0, 1, 1, 1, 1, 1, 1, 1], .blk 2, .code [1, 1, 1, 1, 1, 1, 1, 1]] P6_2 [.i a0, .i a1, .i a2, .i a3, .i a4, .i a5, .l a6, .l a7] (kksS Try.prog (fnOf Try.prog 6).results.toList X6 0 [S6_1 k1, S6_2 k]) = L6_2s m k1 k [.i a0, .i a1, .i a2, .i a3, .i a4, .i a5, .l a6, .l a7] := by kernel_rfl
theorem Y6_2 {m : Nat} {k1 : List Un → Option (List Un)} {k : List Un → Option (List Un)} {xs : List Un} {v : List Un} (h : L6_2s m k1 k xs = some v) : ∃ a0 a1 a2 a3 a4 a5 a6 a7, xs = [.i a0, .i a1, .i a2, .i a3, .i a4, .i a5, .l a6, .l a7] := by
  unfold L6_2s at h
  split at h
  · exact ⟨_, _, _, _, _, _, _, _, rfl⟩
  · cases h
theorem H6_2 (m : Nat) (k1 : List Un → Option (List Un)) (h1 : HoldsS Try.prog [] (ofTab TE) (fnOf Try.prog 6).results.toList X6 0 (bodyOf (fnOf Try.prog 6)) (S6_1 k1)) : ∀ n, HoldsS Try.prog [] (ofTab TE) (fnOf Try.prog 6).results.toList X6 0 (bodyOf (fnOf Try.prog 6)) (S6_2 (L6_2 m k1 n)) :=
  StopS.iter KN_none T6_right (mk := S6_2) (Fs := L6_2s m k1) (W := fun k => [S6_1 k1, S6_2 k]) (p := [0, 1, 1, 1, 1, 0, 0, 1, 1, 0, 0, 1, 0, 1, 1, 1, 1, 1, 1, 1]) (rest := [.blk 4, .blk 3, .code [1, 1, 1, 0, 0, 1, 0, 1, 1, 1, 1, 1, 1, 1], .lp [0, 1, 0, 1, 1, 1, 1, 1, 1, 1], .blk 2, .code [1, 1, 1, 1, 1, 1, 1, 1]]) (pat := P6_2)
    (fun _ => rfl) (fun _ => rfl) (fun _ => rfl) (by kernel_rfl) (by kernel_rfl)
    (fun k h => (all1 h1 (all1 h all0)))
    (fun k xs v h => by
      obtain ⟨a0, a1, a2, a3, a4, a5, a6, a7, rfl⟩ := Y6_2 h
      exact (G6_2 m k1 k a0 a1 a2 a3 a4 a5 a6 a7).trans h)
theorem G6_1 (m : Nat) (k : List Un → Option (List Un)) (a0 : Int) (a1 : Int) (a2 : Int) (a3 : Int) (a4 : List Int) (a5 : List Int) : roadFromS Try.prog [] T6 KN (bodyOf (fnOf Try.prog 6)) [0, 1, 0, 1, 1, 1, 1, 1, 1, 1] [.blk 2, .code [1, 1, 1, 1, 1, 1, 1, 1]] P6_1 [.i a0, .i a1, .i a2, .i a3, .l a4, .l a5] (kksS Try.prog (fnOf Try.prog 6).results.toList X6 0 [S6_2 (L6_2 m (k) m)]) = L6_1s m k [.i a0, .i a1, .i a2, .i a3, .l a4, .l a5] := by kernel_rfl
theorem Y6_1 {m : Nat} {k : List Un → Option (List Un)} {xs : List Un} {v : List Un} (h : L6_1s m k xs = some v) : ∃ a0 a1 a2 a3 a4 a5, xs = [.i a0, .i a1, .i a2, .i a3, .l a4, .l a5] := by
  unfold L6_1s at h
  split at h
  · exact ⟨_, _, _, _, _, _, rfl⟩
  · cases h
theorem H6_1 (m : Nat) : ∀ n, HoldsS Try.prog [] (ofTab TE) (fnOf Try.prog 6).results.toList X6 0 (bodyOf (fnOf Try.prog 6)) (S6_1 (L6_1 m n)) :=
  StopS.iter KN_none T6_right (mk := S6_1) (Fs := L6_1s m) (W := fun k => [S6_2 (L6_2 m (k) m)]) (p := [0, 1, 0, 1, 1, 1, 1, 1, 1, 1]) (rest := [.blk 2, .code [1, 1, 1, 1, 1, 1, 1, 1]]) (pat := P6_1)
    (fun _ => rfl) (fun _ => rfl) (fun _ => rfl) (by kernel_rfl) (by kernel_rfl)
    (fun k h => (all1 (H6_2 m _ h m) all0))
    (fun k xs v h => by
      obtain ⟨a0, a1, a2, a3, a4, a5, rfl⟩ := Y6_1 h
      exact (G6_1 m k a0 a1 a2 a3 a4 a5).trans h)
theorem G6_0 (m : Nat) (k : List Un → Option (List Un)) (a0 : Int) (a1 : List Int) (a2 : Int) (a3 : List Int) : roadFromS Try.prog [] T6 KN (bodyOf (fnOf Try.prog 6)) [0, 1, 0, 1, 1] [.blk 0, .code [1, 1, 1]] P6_0 [.i a0, .l a1, .i a2, .l a3] (kksS Try.prog (fnOf Try.prog 6).results.toList X6 0 [S6_0 k, S6_1 (L6_1 m m)]) = L6_0s m k [.i a0, .l a1, .i a2, .l a3] := by kernel_rfl
theorem Y6_0 {m : Nat} {k : List Un → Option (List Un)} {xs : List Un} {v : List Un} (h : L6_0s m k xs = some v) : ∃ a0 a1 a2 a3, xs = [.i a0, .l a1, .i a2, .l a3] := by
  unfold L6_0s at h
  split at h
  · exact ⟨_, _, _, _, rfl⟩
  · cases h
theorem H6_0 (m : Nat) : ∀ n, HoldsS Try.prog [] (ofTab TE) (fnOf Try.prog 6).results.toList X6 0 (bodyOf (fnOf Try.prog 6)) (S6_0 (L6_0 m n)) :=
  StopS.iter KN_none T6_right (mk := S6_0) (Fs := L6_0s m) (W := fun k => [S6_0 k, S6_1 (L6_1 m m)]) (p := [0, 1, 0, 1, 1]) (rest := [.blk 0, .code [1, 1, 1]]) (pat := P6_0)
    (fun _ => rfl) (fun _ => rfl) (fun _ => rfl) (by kernel_rfl) (by kernel_rfl)
    (fun k h => (all1 h (all1 (H6_1 m m) all0)))
    (fun k xs v h => by
      obtain ⟨a0, a1, a2, a3, rfl⟩ := Y6_0 h
      exact (G6_0 m k a0 a1 a2 a3).trans h)
theorem G6 (m : Nat) (a0 : Int) (a1 : List Int) : roadInS Try.prog [] T6 KN (fnOf Try.prog 6) N6 [.i a0, .l a1] (kksS Try.prog (fnOf Try.prog 6).results.toList X6 0 [S6_0 (L6_0 m m)]) = t6 m a0 a1 := by kernel_rfl
theorem tells6 (m : Nat) (a0 : Int) (a1 : List Int) {ys : List Un} (h : t6 m a0 a1 = some ys) : TellsS Try.prog [] (ofTab TE) 6 N6 X6 [.i a0, .l a1] ys :=
  tells_road KN_none T6_right (W := [S6_0 (L6_0 m m)]) (by kernel_rfl) (by kernel_rfl) (by kernel_rfl)
    (all1 (H6_0 m m) all0) ((G6 m a0 a1).trans h)

theorem proL26 (m : Nat) (k1 : List Un → Option (List Un)) (tot a : Int) (c x : List Int) (i : Nat) (hi : i < c.length) (hl : x.length = c.length) (hs : c.length < 1000000)
    (hB : ∀ k, k < i → c.getD k 0 = c.getD i 0 → x.getD i 0 ≤ x.getD k 0 ∧ x.getD k 0 ≤ x.getD i 0 + 1) (hb : 0 ≤ x.getD i 0 ∧ x.getD i 0 ≤ 1152921504606846976) : ∀ (r j n : Nat), r < n → j + r = i →
    L6_2 m k1 n [.i tot, .i a, .i (i : Int), .i (j : Int), .i (c.length : Int), .i (i : Int), .l c, .l x] = k1 [.i tot, .i a, .i (c.length : Int), .i ((i : Int) + 1), .l c, .l x] := by
  intro r
  induction r with
  | zero =>
    intro j n hn hj
    obtain ⟨n, rfl⟩ := one_more n (by omega)
    rw [L6_2_succ]; unfold L6_2s; dsimp only
    repeat' (first
      | with_reducible rfl
      | (with_reducible refine lt_i ?_; intro x hx; (try simp (disch := omega) only [wr, if_pos, if_neg, Int.sub_zero, Int.zero_add, List.length_append, List.length_cons, List.length_nil, List.length_replicate, List.length_take, List.length_drop, Int.natCast_add, Int.toNat_natCast] at hx); (try simp only [min_if', max_if'] at hx); subst hx)
      | (with_reducible refine bif_t ?_ ?_; · ((try simp (disch := omega) only [wr, if_pos, if_neg, List.length_append, List.length_cons, List.length_nil, List.length_replicate, List.length_take, List.length_drop, Int.natCast_add, Int.toNat_natCast]); (first | done | ((try simp only [min_if', max_if']); (first | done | ((try simp only [Bool.true_and, Bool.and_true, Bool.and_eq_true, Bool.and_eq_false_iff, Bool.or_eq_true, Bool.or_eq_false_iff, true_and, and_true, decide_eq_true_eq, decide_eq_false_iff_not, beq_iff_eq, beq_eq_false_iff_ne, bne_iff_ne, bne_eq_false_iff_eq, ne_eq, Bool.not_eq_true', Bool.not_eq_false', Decidable.not_not]) <;> omega))))))
      | (with_reducible refine bif_f ?_ ?_; · ((try simp (disch := omega) only [wr, if_pos, if_neg, List.length_append, List.length_cons, List.length_nil, List.length_replicate, List.length_take, List.length_drop, Int.natCast_add, Int.toNat_natCast]); (first | done | ((try simp only [min_if', max_if']); (first | done | ((try simp only [Bool.true_and, Bool.and_true, Bool.and_eq_true, Bool.and_eq_false_iff, Bool.or_eq_true, Bool.or_eq_false_iff, true_and, and_true, decide_eq_true_eq, decide_eq_false_iff_not, beq_iff_eq, beq_eq_false_iff_ne, bne_iff_ne, bne_eq_false_iff_eq, ne_eq, Bool.not_eq_true', Bool.not_eq_false', Decidable.not_not]) <;> omega))))))
      | (with_reducible refine bif_s ?_ ?_ <;> (intro hc; (try simp (disch := omega) only [wr, if_pos, if_neg, List.length_append, List.length_cons, List.length_nil, List.length_replicate, List.length_take, List.length_drop, Int.natCast_add, Int.toNat_natCast] at hc); (try simp only [min_if', max_if'] at hc); (try simp only [Bool.true_and, Bool.and_true, Bool.and_eq_true, Bool.and_eq_false_iff, Bool.or_eq_true, Bool.or_eq_false_iff, true_and, and_true, decide_eq_true_eq, decide_eq_false_iff_not, beq_iff_eq, beq_eq_false_iff_ne, bne_iff_ne, bne_eq_false_iff_eq, ne_eq, Bool.not_eq_true', Bool.not_eq_false', Decidable.not_not] at hc)))
      | fail "stuck")
    simp (disch := omega) only [wr]
  | succ r ih =>
    intro j n hn hj
    obtain ⟨n, rfl⟩ := one_more n (by omega)
    have := ih (j + 1) n (by omega) (by omega)
    simp only [Int.natCast_add] at this
    have hBj := hB j (by omega)
    rw [L6_2_succ]; unfold L6_2s; dsimp only
    simp only [Int.toNat_natCast]
    by_cases he : c.getD j 0 = c.getD i 0
    · obtain ⟨b1, b2⟩ := hBj he
      repeat' (first
        | with_reducible rfl
        | (with_reducible refine lt_i ?_; intro x hx; (try simp (disch := omega) only [wr, if_pos, if_neg, Int.sub_zero, Int.zero_add, List.length_append, List.length_cons, List.length_nil, List.length_replicate, List.length_take, List.length_drop, Int.natCast_add, Int.toNat_natCast] at hx); (try simp only [min_if', max_if'] at hx); subst hx)
        | (with_reducible refine bif_t ?_ ?_; · ((try simp (disch := omega) only [wr, if_pos, if_neg, List.length_append, List.length_cons, List.length_nil, List.length_replicate, List.length_take, List.length_drop, Int.natCast_add, Int.toNat_natCast]); (first | done | ((try simp only [min_if', max_if']); (first | done | ((try simp only [Bool.true_and, Bool.and_true, Bool.and_eq_true, Bool.and_eq_false_iff, Bool.or_eq_true, Bool.or_eq_false_iff, true_and, and_true, decide_eq_true_eq, decide_eq_false_iff_not, beq_iff_eq, beq_eq_false_iff_ne, bne_iff_ne, bne_eq_false_iff_eq, ne_eq, Bool.not_eq_true', Bool.not_eq_false', Decidable.not_not]) <;> omega))))))
        | (with_reducible refine bif_f ?_ ?_; · ((try simp (disch := omega) only [wr, if_pos, if_neg, List.length_append, List.length_cons, List.length_nil, List.length_replicate, List.length_take, List.length_drop, Int.natCast_add, Int.toNat_natCast]); (first | done | ((try simp only [min_if', max_if']); (first | done | ((try simp only [Bool.true_and, Bool.and_true, Bool.and_eq_true, Bool.and_eq_false_iff, Bool.or_eq_true, Bool.or_eq_false_iff, true_and, and_true, decide_eq_true_eq, decide_eq_false_iff_not, beq_iff_eq, beq_eq_false_iff_ne, bne_iff_ne, bne_eq_false_iff_eq, ne_eq, Bool.not_eq_true', Bool.not_eq_false', Decidable.not_not]) <;> omega))))))
        | (with_reducible refine bif_s ?_ ?_ <;> (intro hc; (try simp (disch := omega) only [wr, if_pos, if_neg, List.length_append, List.length_cons, List.length_nil, List.length_replicate, List.length_take, List.length_drop, Int.natCast_add, Int.toNat_natCast] at hc); (try simp only [min_if', max_if'] at hc); (try simp only [Bool.true_and, Bool.and_true, Bool.and_eq_true, Bool.and_eq_false_iff, Bool.or_eq_true, Bool.or_eq_false_iff, true_and, and_true, decide_eq_true_eq, decide_eq_false_iff_not, beq_iff_eq, beq_eq_false_iff_ne, bne_iff_ne, bne_eq_false_iff_eq, ne_eq, Bool.not_eq_true', Bool.not_eq_false', Decidable.not_not] at hc)))
        | fail "stuck")
      simp (disch := omega) only [wr]
      exact this
    · repeat' (first
        | with_reducible rfl
        | (with_reducible refine lt_i ?_; intro x hx; (try simp (disch := omega) only [wr, if_pos, if_neg, Int.sub_zero, Int.zero_add, List.length_append, List.length_cons, List.length_nil, List.length_replicate, List.length_take, List.length_drop, Int.natCast_add, Int.toNat_natCast] at hx); (try simp only [min_if', max_if'] at hx); subst hx)
        | (with_reducible refine bif_t ?_ ?_; · ((try simp (disch := omega) only [wr, if_pos, if_neg, List.length_append, List.length_cons, List.length_nil, List.length_replicate, List.length_take, List.length_drop, Int.natCast_add, Int.toNat_natCast]); (first | done | ((try simp only [min_if', max_if']); (first | done | ((try simp only [Bool.true_and, Bool.and_true, Bool.and_eq_true, Bool.and_eq_false_iff, Bool.or_eq_true, Bool.or_eq_false_iff, true_and, and_true, decide_eq_true_eq, decide_eq_false_iff_not, beq_iff_eq, beq_eq_false_iff_ne, bne_iff_ne, bne_eq_false_iff_eq, ne_eq, Bool.not_eq_true', Bool.not_eq_false', Decidable.not_not]) <;> omega))))))
        | (with_reducible refine bif_f ?_ ?_; · ((try simp (disch := omega) only [wr, if_pos, if_neg, List.length_append, List.length_cons, List.length_nil, List.length_replicate, List.length_take, List.length_drop, Int.natCast_add, Int.toNat_natCast]); (first | done | ((try simp only [min_if', max_if']); (first | done | ((try simp only [Bool.true_and, Bool.and_true, Bool.and_eq_true, Bool.and_eq_false_iff, Bool.or_eq_true, Bool.or_eq_false_iff, true_and, and_true, decide_eq_true_eq, decide_eq_false_iff_not, beq_iff_eq, beq_eq_false_iff_ne, bne_iff_ne, bne_eq_false_iff_eq, ne_eq, Bool.not_eq_true', Bool.not_eq_false', Decidable.not_not]) <;> omega))))))
        | (with_reducible refine bif_s ?_ ?_ <;> (intro hc; (try simp (disch := omega) only [wr, if_pos, if_neg, List.length_append, List.length_cons, List.length_nil, List.length_replicate, List.length_take, List.length_drop, Int.natCast_add, Int.toNat_natCast] at hc); (try simp only [min_if', max_if'] at hc); (try simp only [Bool.true_and, Bool.and_true, Bool.and_eq_true, Bool.and_eq_false_iff, Bool.or_eq_true, Bool.or_eq_false_iff, true_and, and_true, decide_eq_true_eq, decide_eq_false_iff_not, beq_iff_eq, beq_eq_false_iff_ne, bne_iff_ne, bne_eq_false_iff_eq, ne_eq, Bool.not_eq_true', Bool.not_eq_false', Decidable.not_not] at hc)))
        | fail "stuck")
      simp (disch := omega) only [wr]
      exact this
theorem proL16 (m : Nat) (tot a : Int) (c x : List Int) (hm : c.length < m) (hl : x.length = c.length) (hs : c.length < 1000000) (ht : 0 ≤ tot ∧ tot ≤ 1152921504606846976)
    (hA : ∀ i, i < c.length → (0 < tot → -tot < x.getD i 0 * tot - a * c.getD i 0 ∧ x.getD i 0 * tot - a * c.getD i 0 < tot) ∧ (c.getD i 0 = 0 → x.getD i 0 = 0) ∧
      ∀ k, k < i → c.getD k 0 = c.getD i 0 → x.getD i 0 ≤ x.getD k 0 ∧ x.getD k 0 ≤ x.getD i 0 + 1)
    (hP : ∀ i, i < c.length → 0 ≤ x.getD i 0 ∧ x.getD i 0 ≤ 1152921504606846976 ∧ 0 ≤ x.getD i 0 * tot ∧ x.getD i 0 * tot ≤ 1152921504606846976 ∧ 0 ≤ a * c.getD i 0 ∧ a * c.getD i 0 ≤ 1152921504606846976) : ∀ (r i n : Nat), r < n → i + r = c.length →
    L6_1 m n [.i tot, .i a, .i (c.length : Int), .i (i : Int), .l c, .l x] = some [.b true] := by
  intro r
  induction r with
  | zero =>
    intro i n hn hr
    obtain ⟨n, rfl⟩ := one_more n (by omega)
    rw [L6_1_succ]; unfold L6_1s; dsimp only
    repeat' (first
      | with_reducible rfl
      | (with_reducible refine lt_i ?_; intro x hx; (try simp (disch := omega) only [wr, if_pos, if_neg, Int.sub_zero, Int.zero_add, List.length_append, List.length_cons, List.length_nil, List.length_replicate, List.length_take, List.length_drop, Int.natCast_add, Int.toNat_natCast] at hx); (try simp only [min_if', max_if'] at hx); subst hx)
      | (with_reducible refine bif_t ?_ ?_; · ((try simp (disch := omega) only [wr, if_pos, if_neg, List.length_append, List.length_cons, List.length_nil, List.length_replicate, List.length_take, List.length_drop, Int.natCast_add, Int.toNat_natCast]); (first | done | ((try simp only [min_if', max_if']); (first | done | ((try simp only [Bool.true_and, Bool.and_true, Bool.and_eq_true, Bool.and_eq_false_iff, Bool.or_eq_true, Bool.or_eq_false_iff, true_and, and_true, decide_eq_true_eq, decide_eq_false_iff_not, beq_iff_eq, beq_eq_false_iff_ne, bne_iff_ne, bne_eq_false_iff_eq, ne_eq, Bool.not_eq_true', Bool.not_eq_false', Decidable.not_not]) <;> omega))))))
      | (with_reducible refine bif_f ?_ ?_; · ((try simp (disch := omega) only [wr, if_pos, if_neg, List.length_append, List.length_cons, List.length_nil, List.length_replicate, List.length_take, List.length_drop, Int.natCast_add, Int.toNat_natCast]); (first | done | ((try simp only [min_if', max_if']); (first | done | ((try simp only [Bool.true_and, Bool.and_true, Bool.and_eq_true, Bool.and_eq_false_iff, Bool.or_eq_true, Bool.or_eq_false_iff, true_and, and_true, decide_eq_true_eq, decide_eq_false_iff_not, beq_iff_eq, beq_eq_false_iff_ne, bne_iff_ne, bne_eq_false_iff_eq, ne_eq, Bool.not_eq_true', Bool.not_eq_false', Decidable.not_not]) <;> omega))))))
      | (with_reducible refine bif_s ?_ ?_ <;> (intro hc; (try simp (disch := omega) only [wr, if_pos, if_neg, List.length_append, List.length_cons, List.length_nil, List.length_replicate, List.length_take, List.length_drop, Int.natCast_add, Int.toNat_natCast] at hc); (try simp only [min_if', max_if'] at hc); (try simp only [Bool.true_and, Bool.and_true, Bool.and_eq_true, Bool.and_eq_false_iff, Bool.or_eq_true, Bool.or_eq_false_iff, true_and, and_true, decide_eq_true_eq, decide_eq_false_iff_not, beq_iff_eq, beq_eq_false_iff_ne, bne_iff_ne, bne_eq_false_iff_eq, ne_eq, Bool.not_eq_true', Bool.not_eq_false', Decidable.not_not] at hc)))
      | fail "stuck")
  | succ r ih =>
    intro i n hn hr
    obtain ⟨n, rfl⟩ := one_more n (by omega)
    have := ih (i + 1) n (by omega) (by omega)
    simp only [Int.natCast_add] at this
    obtain ⟨h1, h2, h3⟩ := hA i (by omega)
    obtain ⟨p1, p2, p3, p4, p5, p6⟩ := hP i (by omega)
    have inner := proL26 m (L6_1 m n) tot a c x i (by omega) hl hs h3 ⟨p1, p2⟩ i 0 m (by omega) (by omega)
    rw [L6_1_succ]; unfold L6_1s; dsimp only
    simp only [Int.toNat_natCast]
    by_cases hz : c.getD i 0 = 0
    · have hx := h2 hz
      repeat' (first
        | with_reducible rfl
        | (with_reducible refine lt_i ?_; intro x hx; (try simp (disch := omega) only [wr, if_pos, if_neg, Int.sub_zero, Int.zero_add, List.length_append, List.length_cons, List.length_nil, List.length_replicate, List.length_take, List.length_drop, Int.natCast_add, Int.toNat_natCast] at hx); (try simp only [min_if', max_if'] at hx); subst hx)
        | (with_reducible refine bif_t ?_ ?_; · ((try simp (disch := omega) only [wr, if_pos, if_neg, List.length_append, List.length_cons, List.length_nil, List.length_replicate, List.length_take, List.length_drop, Int.natCast_add, Int.toNat_natCast]); (first | done | ((try simp only [min_if', max_if']); (first | done | ((try simp only [Bool.true_and, Bool.and_true, Bool.and_eq_true, Bool.and_eq_false_iff, Bool.or_eq_true, Bool.or_eq_false_iff, true_and, and_true, decide_eq_true_eq, decide_eq_false_iff_not, beq_iff_eq, beq_eq_false_iff_ne, bne_iff_ne, bne_eq_false_iff_eq, ne_eq, Bool.not_eq_true', Bool.not_eq_false', Decidable.not_not]) <;> omega))))))
        | (with_reducible refine bif_f ?_ ?_; · ((try simp (disch := omega) only [wr, if_pos, if_neg, List.length_append, List.length_cons, List.length_nil, List.length_replicate, List.length_take, List.length_drop, Int.natCast_add, Int.toNat_natCast]); (first | done | ((try simp only [min_if', max_if']); (first | done | ((try simp only [Bool.true_and, Bool.and_true, Bool.and_eq_true, Bool.and_eq_false_iff, Bool.or_eq_true, Bool.or_eq_false_iff, true_and, and_true, decide_eq_true_eq, decide_eq_false_iff_not, beq_iff_eq, beq_eq_false_iff_ne, bne_iff_ne, bne_eq_false_iff_eq, ne_eq, Bool.not_eq_true', Bool.not_eq_false', Decidable.not_not]) <;> omega))))))
        | (with_reducible refine bif_s ?_ ?_ <;> (intro hc; (try simp (disch := omega) only [wr, if_pos, if_neg, List.length_append, List.length_cons, List.length_nil, List.length_replicate, List.length_take, List.length_drop, Int.natCast_add, Int.toNat_natCast] at hc); (try simp only [min_if', max_if'] at hc); (try simp only [Bool.true_and, Bool.and_true, Bool.and_eq_true, Bool.and_eq_false_iff, Bool.or_eq_true, Bool.or_eq_false_iff, true_and, and_true, decide_eq_true_eq, decide_eq_false_iff_not, beq_iff_eq, beq_eq_false_iff_ne, bne_iff_ne, bne_eq_false_iff_eq, ne_eq, Bool.not_eq_true', Bool.not_eq_false', Decidable.not_not] at hc)))
        | fail "stuck")
      all_goals exact inner.trans this
    · repeat' (first
        | with_reducible rfl
        | (with_reducible refine lt_i ?_; intro x hx; (try simp (disch := omega) only [wr, if_pos, if_neg, Int.sub_zero, Int.zero_add, List.length_append, List.length_cons, List.length_nil, List.length_replicate, List.length_take, List.length_drop, Int.natCast_add, Int.toNat_natCast] at hx); (try simp only [min_if', max_if'] at hx); subst hx)
        | (with_reducible refine bif_t ?_ ?_; · ((try simp (disch := omega) only [wr, if_pos, if_neg, List.length_append, List.length_cons, List.length_nil, List.length_replicate, List.length_take, List.length_drop, Int.natCast_add, Int.toNat_natCast]); (first | done | ((try simp only [min_if', max_if']); (first | done | ((try simp only [Bool.true_and, Bool.and_true, Bool.and_eq_true, Bool.and_eq_false_iff, Bool.or_eq_true, Bool.or_eq_false_iff, true_and, and_true, decide_eq_true_eq, decide_eq_false_iff_not, beq_iff_eq, beq_eq_false_iff_ne, bne_iff_ne, bne_eq_false_iff_eq, ne_eq, Bool.not_eq_true', Bool.not_eq_false', Decidable.not_not]) <;> omega))))))
        | (with_reducible refine bif_f ?_ ?_; · ((try simp (disch := omega) only [wr, if_pos, if_neg, List.length_append, List.length_cons, List.length_nil, List.length_replicate, List.length_take, List.length_drop, Int.natCast_add, Int.toNat_natCast]); (first | done | ((try simp only [min_if', max_if']); (first | done | ((try simp only [Bool.true_and, Bool.and_true, Bool.and_eq_true, Bool.and_eq_false_iff, Bool.or_eq_true, Bool.or_eq_false_iff, true_and, and_true, decide_eq_true_eq, decide_eq_false_iff_not, beq_iff_eq, beq_eq_false_iff_ne, bne_iff_ne, bne_eq_false_iff_eq, ne_eq, Bool.not_eq_true', Bool.not_eq_false', Decidable.not_not]) <;> omega))))))
        | (with_reducible refine bif_s ?_ ?_ <;> (intro hc; (try simp (disch := omega) only [wr, if_pos, if_neg, List.length_append, List.length_cons, List.length_nil, List.length_replicate, List.length_take, List.length_drop, Int.natCast_add, Int.toNat_natCast] at hc); (try simp only [min_if', max_if'] at hc); (try simp only [Bool.true_and, Bool.and_true, Bool.and_eq_true, Bool.and_eq_false_iff, Bool.or_eq_true, Bool.or_eq_false_iff, true_and, and_true, decide_eq_true_eq, decide_eq_false_iff_not, beq_iff_eq, beq_eq_false_iff_ne, bne_iff_ne, bne_eq_false_iff_eq, ne_eq, Bool.not_eq_true', Bool.not_eq_false', Decidable.not_not] at hc)))
        | fail "stuck")
      all_goals exact inner.trans this
theorem proL06 (a0 : Int) (l : List Int) : ∀ (r i : Nat) (own : List Int) (n : Nat), r < n → i + r = min 10 l.length → own.length = i → (∀ x ∈ own, 0 ≤ x ∧ x ≤ 16777216) →
    L6_0 32 n [.i a0, .l l, .i (i : Int), .l own] = some [.b true] := by
  intro r
  induction r with
  | zero =>
    intro i c n hn hr hi hb
    obtain ⟨n, rfl⟩ := one_more n (by omega)
    obtain ⟨s1, o1⟩ := sumV_ok (l := c) (b := 16777216) (by omega) hb (by omega)
    have sb := sum_bound c 16777216 (by omega) hb
    have hw := within_le (a := a0) (lo := 0) (hi := c.sum) (by omega)
    obtain ⟨a, hwa⟩ : ∃ a, within a0 0 c.sum = a := ⟨_, rfl⟩
    rw [hwa] at hw
    have yl := proV_len a c
    obtain ⟨_, yb⟩ := proV_sum (a := a) hw.1 o1
    have fin := proL16 32 c.sum a c (proV a c) (by omega) yl (by omega) (by omega) (proV_near hw.1 hw.2 o1) (fun i hi => by
      have h1 := yb i hi
      have h2 := hb _ (getD_mem hi)
      have e1 : (proV a c).getD i 0 * c.sum ≤ 16777216 * c.sum := Int.mul_le_mul_of_nonneg_right (by omega) (by omega)
      have e2 : a * c.getD i 0 ≤ a * 16777216 := Int.mul_le_mul_of_nonneg_left (by omega) (by omega)
      have e3 := Int.mul_nonneg h1.1 (show 0 ≤ c.sum by omega)
      have e4 := Int.mul_nonneg hw.1 h2.1
      omega) c.length 0 32 (by omega) (by omega)
    rw [L6_0_succ]; unfold L6_0s; dsimp only
    repeat' (first
      | with_reducible rfl
      | (with_reducible refine lt_i ?_; intro x hx; (try simp (disch := omega) only [wr, if_pos, if_neg, Int.sub_zero, Int.zero_add, s1, hwa, yl, List.length_append, List.length_cons, List.length_nil, List.length_replicate, List.length_take, List.length_drop, Int.natCast_add, Int.toNat_natCast] at hx); (try simp only [min_if', max_if'] at hx); subst hx)
      | (with_reducible refine bif_t ?_ ?_; · ((try simp (disch := omega) only [wr, if_pos, if_neg, s1, hwa, yl, List.length_append, List.length_cons, List.length_nil, List.length_replicate, List.length_take, List.length_drop, Int.natCast_add, Int.toNat_natCast]); (first | done | ((try simp only [min_if', max_if']); (first | done | ((try simp only [Bool.true_and, Bool.and_true, Bool.and_eq_true, Bool.and_eq_false_iff, Bool.or_eq_true, Bool.or_eq_false_iff, true_and, and_true, decide_eq_true_eq, decide_eq_false_iff_not, beq_iff_eq, beq_eq_false_iff_ne, bne_iff_ne, bne_eq_false_iff_eq, ne_eq, Bool.not_eq_true', Bool.not_eq_false', Decidable.not_not]) <;> omega))))))
      | (with_reducible refine bif_f ?_ ?_; · ((try simp (disch := omega) only [wr, if_pos, if_neg, s1, hwa, yl, List.length_append, List.length_cons, List.length_nil, List.length_replicate, List.length_take, List.length_drop, Int.natCast_add, Int.toNat_natCast]); (first | done | ((try simp only [min_if', max_if']); (first | done | ((try simp only [Bool.true_and, Bool.and_true, Bool.and_eq_true, Bool.and_eq_false_iff, Bool.or_eq_true, Bool.or_eq_false_iff, true_and, and_true, decide_eq_true_eq, decide_eq_false_iff_not, beq_iff_eq, beq_eq_false_iff_ne, bne_iff_ne, bne_eq_false_iff_eq, ne_eq, Bool.not_eq_true', Bool.not_eq_false', Decidable.not_not]) <;> omega))))))
      | (with_reducible refine bif_s ?_ ?_ <;> (intro hc; (try simp (disch := omega) only [wr, if_pos, if_neg, s1, hwa, yl, List.length_append, List.length_cons, List.length_nil, List.length_replicate, List.length_take, List.length_drop, Int.natCast_add, Int.toNat_natCast] at hc); (try simp only [min_if', max_if'] at hc); (try simp only [Bool.true_and, Bool.and_true, Bool.and_eq_true, Bool.and_eq_false_iff, Bool.or_eq_true, Bool.or_eq_false_iff, true_and, and_true, decide_eq_true_eq, decide_eq_false_iff_not, beq_iff_eq, beq_eq_false_iff_ne, bne_iff_ne, bne_eq_false_iff_eq, ne_eq, Bool.not_eq_true', Bool.not_eq_false', Decidable.not_not] at hc)))
      | fail "stuck")
    all_goals (rw [s1, hwa]; exact fin)
  | succ r ih =>
    intro i own n hn hr hi hb
    obtain ⟨n, rfl⟩ := one_more n (by omega)
    have hw := within_le (a := l.getD i 0) (lo := 0) (hi := 16777216) (by omega)
    have := ih (i + 1) (own ++ [within (l.getD i 0) 0 16777216]) n (by omega) (by omega) (by simp; omega) (by
      intro x hx
      rcases List.mem_append.1 hx with hx | hx
      · exact hb x hx
      · simp at hx; subst hx; exact hw)
    rw [L6_0_succ]; unfold L6_0s; dsimp only
    rw [Int.toNat_natCast]
    simp only [Int.natCast_add] at this
    repeat' (first
      | with_reducible rfl
      | (with_reducible refine lt_i ?_; intro x hx; (try simp (disch := omega) only [wr, if_pos, if_neg, Int.sub_zero, Int.zero_add, List.length_append, List.length_cons, List.length_nil, List.length_replicate, List.length_take, List.length_drop, Int.natCast_add, Int.toNat_natCast] at hx); (try simp only [min_if', max_if'] at hx); subst hx)
      | (with_reducible refine bif_t ?_ ?_; · ((try simp (disch := omega) only [wr, if_pos, if_neg, List.length_append, List.length_cons, List.length_nil, List.length_replicate, List.length_take, List.length_drop, Int.natCast_add, Int.toNat_natCast]); (first | done | ((try simp only [min_if', max_if']); (first | done | ((try simp only [Bool.true_and, Bool.and_true, Bool.and_eq_true, Bool.and_eq_false_iff, Bool.or_eq_true, Bool.or_eq_false_iff, true_and, and_true, decide_eq_true_eq, decide_eq_false_iff_not, beq_iff_eq, beq_eq_false_iff_ne, bne_iff_ne, bne_eq_false_iff_eq, ne_eq, Bool.not_eq_true', Bool.not_eq_false', Decidable.not_not]) <;> omega))))))
      | (with_reducible refine bif_f ?_ ?_; · ((try simp (disch := omega) only [wr, if_pos, if_neg, List.length_append, List.length_cons, List.length_nil, List.length_replicate, List.length_take, List.length_drop, Int.natCast_add, Int.toNat_natCast]); (first | done | ((try simp only [min_if', max_if']); (first | done | ((try simp only [Bool.true_and, Bool.and_true, Bool.and_eq_true, Bool.and_eq_false_iff, Bool.or_eq_true, Bool.or_eq_false_iff, true_and, and_true, decide_eq_true_eq, decide_eq_false_iff_not, beq_iff_eq, beq_eq_false_iff_ne, bne_iff_ne, bne_eq_false_iff_eq, ne_eq, Bool.not_eq_true', Bool.not_eq_false', Decidable.not_not]) <;> omega))))))
      | (with_reducible refine bif_s ?_ ?_ <;> (intro hc; (try simp (disch := omega) only [wr, if_pos, if_neg, List.length_append, List.length_cons, List.length_nil, List.length_replicate, List.length_take, List.length_drop, Int.natCast_add, Int.toNat_natCast] at hc); (try simp only [min_if', max_if'] at hc); (try simp only [Bool.true_and, Bool.and_true, Bool.and_eq_true, Bool.and_eq_false_iff, Bool.or_eq_true, Bool.or_eq_false_iff, true_and, and_true, decide_eq_true_eq, decide_eq_false_iff_not, beq_iff_eq, beq_eq_false_iff_ne, bne_iff_ne, bne_eq_false_iff_eq, ne_eq, Bool.not_eq_true', Bool.not_eq_false', Decidable.not_not] at hc)))
      | fail "stuck")
    simp (disch := omega) only [wr]
    exact this

theorem spec6 (a0 : Int) (w0 : (Lit.int .i64 a0).wf = true) (a1 : List Int) (w1 : ∀ n ∈ a1, (Lit.int .i64 n).wf = true) : ∃ m, t6 m a0 a1 = some [.b true] := by
  exact ⟨32, proL06 a0 a1 (min 10 a1.length) 0 [] 32 (by omega) (by omega) rfl (by simp)⟩

theorem walkSharePro (w : World) (a0 : Int) (w0 : (Lit.int .i64 a0).wf = true) (b1 : LArg) (o1 : b1.ok w) (p1 : b1.vp = .ints .i64) (u1 : ∀ n, (∃ xs, b1.un = .l xs ∧ n ∈ xs) → (Lit.int .i64 n).wf = true) : Calls Try.prog 6 #[.int .i64 a0, b1.val] w fun e w' => e = .returned (.bool true) ∧ RowKit.Below w.heap.size w w' := by
  obtain ⟨x1, hx1⟩ := LArg.list p1
  obtain ⟨m, hm⟩ := spec6 a0 w0 x1 (fun n hn => u1 n ⟨_, hx1, hn⟩)
  exact law_lists Seat.mix Seat.names TE_right (xs := [.i .i64 a0, b1]) (vps := N6.vals) (tells6 m a0 x1 hm) (by simp only [List.map_cons, List.map_nil, hx1] <;> rfl) (by simp only [List.map_cons, List.map_nil, p1] <;> rfl)
    (by intro a ha; simp only [List.mem_cons, List.not_mem_nil, or_false] at ha; rcases ha with rfl | rfl <;> first | assumption | trivial)
end Go.Proofs.Ytibenahgbdhegaa
